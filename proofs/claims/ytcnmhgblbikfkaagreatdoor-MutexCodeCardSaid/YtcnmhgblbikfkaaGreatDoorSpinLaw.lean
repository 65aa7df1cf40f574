/- The walks of the package deadlatchlaw15: the law on code. -/
import Derived.Test.YtcnmhgblbikfkaaGreatDoorGw
import Derived.Test.YtcnmhgblbikfkaaGreatDoorCode15
import Derived.Deep.RegionHeld
set_option linter.unusedVariables false
namespace Go.Proofs.YtcnmhgblbikfkaaGreatDoor.As
open Go.RowKit

theorem cells9{w:World}{g:Nat}{a b c d e f h i j:Value}{t:TypeId}(hx:w.heap[g]? = some (.cells #[a,b,c,d,e,f,h,i,j] t (0,0))):
  w.cell? ⟨g,0,none⟩=some a∧w.cell? ⟨g,1,none⟩=some b∧w.cell? ⟨g,2,none⟩=some c∧w.cell? ⟨g,3,none⟩=some d∧w.cell? ⟨g,4,none⟩=some e∧w.cell? ⟨g,5,none⟩=some f∧w.cell? ⟨g,6,none⟩=some h∧w.cell? ⟨g,7,none⟩=some i∧w.cell? ⟨g,8,none⟩=some j:=by
 have c0:=cell_of_row w g 0 _ _ _ hx
 have c1:=cell_of_row w g 1 _ _ _ hx
 have c2:=cell_of_row w g 2 _ _ _ hx
 have c3:=cell_of_row w g 3 _ _ _ hx
 have c4:=cell_of_row w g 4 _ _ _ hx
 have c5:=cell_of_row w g 5 _ _ _ hx
 have c6:=cell_of_row w g 6 _ _ _ hx
 have c7:=cell_of_row w g 7 _ _ _ hx
 have c8:=cell_of_row w g 8 _ _ _ hx
 exact⟨c0,c1,c2,c3,c4,c5,c6,c7,c8⟩
theorem askS{w:World}{g:Nat}{a b c d e f h i j:Value}{t:TypeId}(hx:w.heap[g]? = some (.cells #[a,b,c,d,e,f,h,i,j] t (0,0))):
  w.cell? ⟨g,0,none⟩=some a∧w.cell? ⟨g,4,none⟩=some e∧w.cell? ⟨g,6,none⟩=some h∧w.cell? ⟨g,7,none⟩=some i:=by
 obtain⟨c0,c1,c2,c3,c4,c5,c6,c7,c8⟩:=cells9 hx
 exact⟨c0,c4,c6,c7⟩
abbrev askV(k n a b c th t:Int)(base ar:Int):Value:=.agg #[.int .i64 k,.int .i64 n,.int .i64 a,.int .i64 b,.int .i64 c,.int .i64 th,.int .i64 t,.int .u16 base,.int .u32 ar]
end Go.Proofs.YtcnmhgblbikfkaaGreatDoor.As
