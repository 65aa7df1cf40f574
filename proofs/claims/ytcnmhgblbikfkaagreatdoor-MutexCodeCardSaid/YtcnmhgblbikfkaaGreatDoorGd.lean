/- The walks of the package obj: which objects there are. The walks of the package obj: which objects there may be. The walk of obj.First: the kinds whose words are 0 at first. The walks of the package deadlatchref14: which calls may be asked. The walks of the packages obj and spin: what may be asked. The walks of the package deadlatchref14: which objects there may be. -/
import Derived.Test.YtcnmhgblbikfkaaGreatDoorGb
import Derived.BigQuiet
import Derived.Deep.QuietTactic
import Derived.Test.YtcnmhgblbikfkaaGreatDoorGc
import Derived.Test.YtcnmhgblbikfkaaGreatDoorGu
import Derived.Laws.IdiomStrings
import Derived.Test.YtcnmhgblbikfkaaGreatDoorGv
section
set_option linter.unusedVariables false
namespace Go.Proofs.YtcnmhgblbikfkaaGreatDoor.As
open Go.RowKit

def ownerI(k:Int):Int:=if k=1∨k=2 then 0 else if k=4∨k=5∨k=9∨k=10∨k=15 then 1 else if k=3∨k=7 then 2 else if k=6∨k=8 then 3 else -1
def kindNames:List B8:=[[],[116,97,115],[116,116,97,115],[116,105,99,107,101,116],[109,99,115],[99,108,104],[112,101,116,101,114,115,111,110],[100,101,107,107,101,114],[98,105,97,115],[115,101,113],[109,117,116,101,120],[115,101,109],[99,111,110,100],[98,97,114,114,105,101,114],[114,119],[111,110,99,101]]
def kindName(k:Int):B8:=if 1≤k∧k < 16 then kindNames.getD k.toNat [] else []
structure TabO(w:World):Prop where
 names:∀ i:Nat,i < 16→w.cell? ⟨1,i,none⟩=some (.string ⟨(kindNames.getD i []).toArray⟩)
theorem TabO.lt{w:World}(h:TabO w):1 < w.heap.size:=block_lt_of_cell (h.names 0 (by decide))
theorem TabO.only{w w':World}{F:Nat→Prop}(h:TabO w)(ho:Only F w w')(hF:∀ k,F k→k≠1):TabO w':=
 ⟨fun i hi=>(World.cell?_of_block (w:=w) (a:=⟨1,i,none⟩) (ho.block _ h.lt (fun e=>hF _ e rfl))).trans (h.names i hi)⟩
theorem TabO.below{B:Nat}{w w':World}(h:TabO w)(hb:Below B w w')(hB:w.heap.size≤B):TabO w':=h.only (Only.of_below (F:=fun _=>False) hb hB) (fun _ e=>e.elim)
def RightP(k n a b th:Int):Prop:=1≤th∧th≤8∧(((k=6∨k=7)∧n=0∧0≤a∧a < th∧0≤b∧b < th∧a≠b)∨(k=8∧n=0∧0≤a∧a < th∧b=0)∨(k=9∧1≤n∧n≤3∧a=0∧b=0)∨
 (k=11∧1≤a∧a≤1000∧0≤n∧n≤a∧b=0)∨(k=13∧1≤n∧n≤th∧a=0∧b=0)∨(((1≤k∧k≤5)∨k=10∨k=12∨k=14∨k=15)∧n=0∧a=0∧b=0))
instance(k n a b th:Int):Decidable (RightP k n a b th):=by unfold RightP;infer_instance

theorem kindName_ne:∀ k:Nat,k < 16→1≤k→kindNames.getD k []≠[]:=by decide
theorem kname_any(w:World)(T:TabO w)(k:Int):Calls Tryz.prog 113 #[.int .i64 k] w fun e w'=>(∃ s:ByteArray,e=.returned (.string s)∧s.data.toList=kindName k)∧w'=w:=by
 by_cases h1:k < 1
 ·go_enter Tryz.func113,Tryz.ntmps113
  go_wp2_with fail
  go_ret
  exact⟨⟨_,rfl,by unfold kindName;rw [if_neg (by omega)]⟩,rfl⟩
 ·by_cases h2:16≤k
  ·go_enter Tryz.func113,Tryz.ntmps113
   go_wp2_with fail
   go_ret
   exact⟨⟨_,rfl,by unfold kindName;rw [if_neg (by omega)]⟩,rfl⟩
  ·obtain⟨m,rfl⟩:∃ m:Nat,k=m:=⟨k.toNat,by omega⟩
   have hc:=T.names m (by omega)
   have hm:m < 16:=by omega
   go_enter Tryz.func113,Tryz.ntmps113
   go_wp2_with fail
   go_ret
   exact⟨⟨_,rfl,by unfold kindName;rw [if_pos (by omega)];rfl⟩,rfl⟩
theorem kname_yes{k:Int}{s:ByteArray}(h:1≤k∧k < 16)(hs:s.data.toList=kindName k):s.toList.isEmpty=false:=by
 rw [ByteArray.toList_eq,hs]
 unfold kindName
 rw [if_pos h]
 exact List.isEmpty_eq_false_iff.2 (kindName_ne k.toNat (by omega) (by omega))
theorem kname_no{k:Int}{s:ByteArray}(h:¬(1≤k∧k < 16))(hs:s.data.toList=kindName k):s.toList.isEmpty=true:=by
 rw [ByteArray.toList_eq,hs]
 unfold kindName
 rw [if_neg h];rfl
theorem in_any(w:World)(n lo hi:Int):Calls Tryz.prog 112 #[.int .i64 n,.int .i64 lo,.int .i64 hi] w fun e w'=>e=.returned (.bool (decide (lo≤n∧n≤hi)))∧w'=w:=by
 by_cases h1:n≥lo
 ·by_cases h2:n≤hi
  ·have e:decide (lo≤n∧n≤hi)=true:=decide_eq_true ⟨h1,h2⟩
   rw [e]
   go_enter Tryz.func112,Tryz.ntmps112
   go_wp2_with fail
   go_ret
   exact⟨rfl,rfl⟩
  ·have e:decide (lo≤n∧n≤hi)=false:=decide_eq_false (by omega)
   rw [e]
   go_enter Tryz.func112,Tryz.ntmps112
   go_wp2_with fail
   go_ret
   exact⟨rfl,rfl⟩
 ·have e:decide (lo≤n∧n≤hi)=false:=decide_eq_false (by omega)
  rw [e]
  go_enter Tryz.func112,Tryz.ntmps112
  go_wp2_with fail
  go_ret
  exact⟨rfl,rfl⟩

theorem kname_iff{k:Int}{s:ByteArray}(hs:s.data.toList=kindName k):s.toList.isEmpty = !decide (1≤k∧k < 16):=by
 by_cases h:1≤k∧k < 16
 ·rw [kname_yes h hs,decide_eq_true h];rfl
 ·rw [kname_no h hs,decide_eq_false h];rfl
end Go.Proofs.YtcnmhgblbikfkaaGreatDoor.As
end

section
set_option linter.unusedVariables false
namespace Go.Proofs.YtcnmhgblbikfkaaGreatDoor.As
open Go.RowKit

set_option linter.unusedSimpArgs false in
set_option maxHeartbeats 40000000 in
theorem right_any(w:World)(T:TabO w)(k n a b th:Int):Calls Tryz.prog 74 #[.agg #[.int .i64 k,.int .i64 n,.int .i64 a,.int .i64 b],.int .i64 th] w fun e w'=>e=.returned (.bool (decide (RightP k n a b th)))∧Below w.heap.size w w':=by
 obtain⟨r,hr⟩:∃ r,r=decide (RightP k n a b th):=⟨_,rfl⟩
 rw [←hr]
 have HR:=Lib.hid hr
 clear hr
 have ha:∀ o,Below w.heap.size w (w.alloc o):=fun o=>(Below.refl _ w).alloc (Nat.le_refl _) o
 have TA:∀ o,TabO (w.alloc o):=fun o=>T.below (ha o) (Nat.le_refl _)
 by_cases hth:1≤th∧th≤8
 ·have f1:IntKind.i64.wrap (th - 1)=th - 1:=by rw [IntKind.wrap_i64];omega
  go_enter Tryz.func74,Tryz.ntmps74
  go_wp2_with (first
   | (go_at_call 112;refine (in_any _ _ _ _).mono ?_;rintro e w1 ⟨rfl,rfl⟩)
   | (go_at_call 113;refine (kname_any _ (TA _) _).mono ?_;rintro e w1 ⟨⟨s,rfl,hs⟩,rfl⟩;have hs0:=kname_iff hs;clear hs))
  all_goals go_ret
  all_goals refine⟨congrArg (fun x=>Ending.returned (.bool x)) ?_,ha _⟩
  all_goals rw [HR.out]
  all_goals clear HR TA ha f1 T
  all_goals rw [Bool.eq_iff_iff,decide_eq_true_iff (p:=RightP _ _ _ _ _)]
  all_goals unfold RightP
  all_goals simp only [beq_iff_eq,beq_eq_false_iff_ne,ne_eq,decide_eq_true_eq,Bool.false_eq_true,true_iff,false_iff,Bool.or_eq_true,Bool.and_eq_true,bne_iff_ne,bne_eq_false_iff_eq,Bool.not_eq_true',decide_eq_false_iff_not] at *
  all_goals omega
 ·have hv:r=false:=by rw [HR.out];exact decide_eq_false (by unfold RightP;omega)
  subst hv
  go_enter Tryz.func74,Tryz.ntmps74
  by_cases h1:th < 1
  ·have d1:decide (th < 1)=true:=decide_eq_true h1
   go_wp2_with fail
   go_ret
   exact⟨rfl,ha _⟩
  ·have h2:8 < th:=by omega
   have d1:decide (th < 1)=false:=decide_eq_false h1
   have d2:decide (8 < th)=true:=decide_eq_true h2
   go_wp2_with fail
   go_ret
   exact⟨rfl,ha _⟩
end Go.Proofs.YtcnmhgblbikfkaaGreatDoor.As
end

section
set_option linter.unusedVariables false
set_option linter.unusedSimpArgs false
set_option maxRecDepth 20000
namespace Go.Proofs.YtcnmhgblbikfkaaGreatDoor.As
open Go.RowKit

def FirstOk(w:World)(l:List Int)(e:Ending)(w':World):Prop:=∃ v,e=.returned v∧w'.ownsRow w.heap.size 25 1 v l.length (w32 l)∧Below w.heap.size w w'
set_option maxHeartbeats 2000000 in
theorem first_1(w:World)(TO:TabO w)(n a b th:Int)(hR:RightP 1 n a b th):
  Calls Tryz.prog 99 #[.agg #[.int .i64 1,.int .i64 n,.int .i64 a,.int .i64 b],.int .i64 th] w (FirstOk w [0]):=by
 have hmk:∀ W,(Instr.makeSlice 43 (.int .i64 1) (.int .i64 1)).run Tryz.prog W=.ok (.slice (some ⟨W.heap.size,0,none⟩) 1 1) (W.alloc (.cells #[.int .u32 0] 25)):=fun _=>by kernel_rfl
 have hr:∀ W,TabO W→Calls Tryz.prog 74 #[.agg #[.int .i64 1,.int .i64 n,.int .i64 a,.int .i64 b],.int .i64 th] W fun e w'=>e=.returned (.bool true)∧Below W.heap.size W w':=fun W T=>(right_any W T 1 n a b th).mono (fun e w' h=>⟨by rw [h.1,decide_eq_true hR],h.2⟩)
 have hb0:=(Below.refl w.heap.size w).alloc (Nat.le_refl _) (.cells #[.int .i64 1,.int .i64 n,.int .i64 a,.int .i64 b] 23)
 have hrr:=hr _ (TO.below hb0 (Nat.le_refl _))
 have kb:∀ w1,Below (w.alloc (.cells #[.int .i64 1,.int .i64 n,.int .i64 a,.int .i64 b] 23)).heap.size (w.alloc (.cells #[.int .i64 1,.int .i64 n,.int .i64 a,.int .i64 b] 23)) w1→w1.cell? ⟨w.heap.size,0,none⟩=some (.int .i64 1):=fun w1 h=>cell_of_row w1 w.heap.size 0 _ _ _ ((h.block w.heap.size (by simp)).trans (heap_alloc_new _ _))
 clear hr TO
 go_enter Tryz.func99,Tryz.ntmps99
 go_wp2_with (go_at_call 74;refine hrr.mono ?_;rintro r w1 ⟨rfl,hb1⟩;have k0:=kb _ hb1)
 go_ret
 have hB:=hb0.trans (hb1.mono (by simp))
 exact⟨_,rfl,⟨rfl,.inr ⟨w1.heap.size,1,_,rfl,hB.size,heap_alloc_new _ _,Nat.le_refl _,by decide,rfl,rfl⟩⟩,hB.alloc hB.size _⟩
set_option maxHeartbeats 2000000 in
theorem first_2(w:World)(TO:TabO w)(n a b th:Int)(hR:RightP 2 n a b th):
  Calls Tryz.prog 99 #[.agg #[.int .i64 2,.int .i64 n,.int .i64 a,.int .i64 b],.int .i64 th] w (FirstOk w [0]):=by
 have hmk:∀ W,(Instr.makeSlice 43 (.int .i64 1) (.int .i64 1)).run Tryz.prog W=.ok (.slice (some ⟨W.heap.size,0,none⟩) 1 1) (W.alloc (.cells #[.int .u32 0] 25)):=fun _=>by kernel_rfl
 have hr:∀ W,TabO W→Calls Tryz.prog 74 #[.agg #[.int .i64 2,.int .i64 n,.int .i64 a,.int .i64 b],.int .i64 th] W fun e w'=>e=.returned (.bool true)∧Below W.heap.size W w':=fun W T=>(right_any W T 2 n a b th).mono (fun e w' h=>⟨by rw [h.1,decide_eq_true hR],h.2⟩)
 have hb0:=(Below.refl w.heap.size w).alloc (Nat.le_refl _) (.cells #[.int .i64 2,.int .i64 n,.int .i64 a,.int .i64 b] 23)
 have hrr:=hr _ (TO.below hb0 (Nat.le_refl _))
 have kb:∀ w1,Below (w.alloc (.cells #[.int .i64 2,.int .i64 n,.int .i64 a,.int .i64 b] 23)).heap.size (w.alloc (.cells #[.int .i64 2,.int .i64 n,.int .i64 a,.int .i64 b] 23)) w1→w1.cell? ⟨w.heap.size,0,none⟩=some (.int .i64 2):=fun w1 h=>cell_of_row w1 w.heap.size 0 _ _ _ ((h.block w.heap.size (by simp)).trans (heap_alloc_new _ _))
 clear hr TO
 go_enter Tryz.func99,Tryz.ntmps99
 go_wp2_with (go_at_call 74;refine hrr.mono ?_;rintro r w1 ⟨rfl,hb1⟩;have k0:=kb _ hb1)
 go_ret
 have hB:=hb0.trans (hb1.mono (by simp))
 exact⟨_,rfl,⟨rfl,.inr ⟨w1.heap.size,1,_,rfl,hB.size,heap_alloc_new _ _,Nat.le_refl _,by decide,rfl,rfl⟩⟩,hB.alloc hB.size _⟩
set_option maxHeartbeats 2000000 in
theorem first_3(w:World)(TO:TabO w)(n a b th:Int)(hR:RightP 3 n a b th):
  Calls Tryz.prog 99 #[.agg #[.int .i64 3,.int .i64 n,.int .i64 a,.int .i64 b],.int .i64 th] w (FirstOk w [0,0,0]):=by
 have hmk:∀ W,(Instr.makeSlice 43 (.int .i64 3) (.int .i64 3)).run Tryz.prog W=.ok (.slice (some ⟨W.heap.size,0,none⟩) 3 3) (W.alloc (.cells #[.int .u32 0,.int .u32 0,.int .u32 0] 25)):=fun _=>by kernel_rfl
 have hr:∀ W,TabO W→Calls Tryz.prog 74 #[.agg #[.int .i64 3,.int .i64 n,.int .i64 a,.int .i64 b],.int .i64 th] W fun e w'=>e=.returned (.bool true)∧Below W.heap.size W w':=fun W T=>(right_any W T 3 n a b th).mono (fun e w' h=>⟨by rw [h.1,decide_eq_true hR],h.2⟩)
 have hb0:=(Below.refl w.heap.size w).alloc (Nat.le_refl _) (.cells #[.int .i64 3,.int .i64 n,.int .i64 a,.int .i64 b] 23)
 have hrr:=hr _ (TO.below hb0 (Nat.le_refl _))
 have kb:∀ w1,Below (w.alloc (.cells #[.int .i64 3,.int .i64 n,.int .i64 a,.int .i64 b] 23)).heap.size (w.alloc (.cells #[.int .i64 3,.int .i64 n,.int .i64 a,.int .i64 b] 23)) w1→w1.cell? ⟨w.heap.size,0,none⟩=some (.int .i64 3):=fun w1 h=>cell_of_row w1 w.heap.size 0 _ _ _ ((h.block w.heap.size (by simp)).trans (heap_alloc_new _ _))
 clear hr TO
 go_enter Tryz.func99,Tryz.ntmps99
 go_wp2_with (go_at_call 74;refine hrr.mono ?_;rintro r w1 ⟨rfl,hb1⟩;have k0:=kb _ hb1)
 go_ret
 have hB:=hb0.trans (hb1.mono (by simp))
 exact⟨_,rfl,⟨rfl,.inr ⟨w1.heap.size,3,_,rfl,hB.size,heap_alloc_new _ _,Nat.le_refl _,by decide,rfl,rfl⟩⟩,hB.alloc hB.size _⟩
set_option maxHeartbeats 2000000 in
theorem first_6(w:World)(TO:TabO w)(n a b th:Int)(hR:RightP 6 n a b th):
  Calls Tryz.prog 99 #[.agg #[.int .i64 6,.int .i64 n,.int .i64 a,.int .i64 b],.int .i64 th] w (FirstOk w [0,0,0,0]):=by
 have hmk:∀ W,(Instr.makeSlice 43 (.int .i64 4) (.int .i64 4)).run Tryz.prog W=.ok (.slice (some ⟨W.heap.size,0,none⟩) 4 4) (W.alloc (.cells #[.int .u32 0,.int .u32 0,.int .u32 0,.int .u32 0] 25)):=fun _=>by kernel_rfl
 have hr:∀ W,TabO W→Calls Tryz.prog 74 #[.agg #[.int .i64 6,.int .i64 n,.int .i64 a,.int .i64 b],.int .i64 th] W fun e w'=>e=.returned (.bool true)∧Below W.heap.size W w':=fun W T=>(right_any W T 6 n a b th).mono (fun e w' h=>⟨by rw [h.1,decide_eq_true hR],h.2⟩)
 have hb0:=(Below.refl w.heap.size w).alloc (Nat.le_refl _) (.cells #[.int .i64 6,.int .i64 n,.int .i64 a,.int .i64 b] 23)
 have hrr:=hr _ (TO.below hb0 (Nat.le_refl _))
 have kb:∀ w1,Below (w.alloc (.cells #[.int .i64 6,.int .i64 n,.int .i64 a,.int .i64 b] 23)).heap.size (w.alloc (.cells #[.int .i64 6,.int .i64 n,.int .i64 a,.int .i64 b] 23)) w1→w1.cell? ⟨w.heap.size,0,none⟩=some (.int .i64 6):=fun w1 h=>cell_of_row w1 w.heap.size 0 _ _ _ ((h.block w.heap.size (by simp)).trans (heap_alloc_new _ _))
 clear hr TO
 go_enter Tryz.func99,Tryz.ntmps99
 go_wp2_with (go_at_call 74;refine hrr.mono ?_;rintro r w1 ⟨rfl,hb1⟩;have k0:=kb _ hb1)
 go_ret
 have hB:=hb0.trans (hb1.mono (by simp))
 exact⟨_,rfl,⟨rfl,.inr ⟨w1.heap.size,4,_,rfl,hB.size,heap_alloc_new _ _,Nat.le_refl _,by decide,rfl,rfl⟩⟩,hB.alloc hB.size _⟩
set_option maxHeartbeats 2000000 in
theorem first_7(w:World)(TO:TabO w)(n a b th:Int)(hR:RightP 7 n a b th):
  Calls Tryz.prog 99 #[.agg #[.int .i64 7,.int .i64 n,.int .i64 a,.int .i64 b],.int .i64 th] w (FirstOk w [0,0,0]):=by
 have hmk:∀ W,(Instr.makeSlice 43 (.int .i64 3) (.int .i64 3)).run Tryz.prog W=.ok (.slice (some ⟨W.heap.size,0,none⟩) 3 3) (W.alloc (.cells #[.int .u32 0,.int .u32 0,.int .u32 0] 25)):=fun _=>by kernel_rfl
 have hr:∀ W,TabO W→Calls Tryz.prog 74 #[.agg #[.int .i64 7,.int .i64 n,.int .i64 a,.int .i64 b],.int .i64 th] W fun e w'=>e=.returned (.bool true)∧Below W.heap.size W w':=fun W T=>(right_any W T 7 n a b th).mono (fun e w' h=>⟨by rw [h.1,decide_eq_true hR],h.2⟩)
 have hb0:=(Below.refl w.heap.size w).alloc (Nat.le_refl _) (.cells #[.int .i64 7,.int .i64 n,.int .i64 a,.int .i64 b] 23)
 have hrr:=hr _ (TO.below hb0 (Nat.le_refl _))
 have kb:∀ w1,Below (w.alloc (.cells #[.int .i64 7,.int .i64 n,.int .i64 a,.int .i64 b] 23)).heap.size (w.alloc (.cells #[.int .i64 7,.int .i64 n,.int .i64 a,.int .i64 b] 23)) w1→w1.cell? ⟨w.heap.size,0,none⟩=some (.int .i64 7):=fun w1 h=>cell_of_row w1 w.heap.size 0 _ _ _ ((h.block w.heap.size (by simp)).trans (heap_alloc_new _ _))
 clear hr TO
 go_enter Tryz.func99,Tryz.ntmps99
 go_wp2_with (go_at_call 74;refine hrr.mono ?_;rintro r w1 ⟨rfl,hb1⟩;have k0:=kb _ hb1)
 go_ret
 have hB:=hb0.trans (hb1.mono (by simp))
 exact⟨_,rfl,⟨rfl,.inr ⟨w1.heap.size,3,_,rfl,hB.size,heap_alloc_new _ _,Nat.le_refl _,by decide,rfl,rfl⟩⟩,hB.alloc hB.size _⟩
set_option maxHeartbeats 2000000 in
theorem first_8(w:World)(TO:TabO w)(n a b th:Int)(hR:RightP 8 n a b th):
  Calls Tryz.prog 99 #[.agg #[.int .i64 8,.int .i64 n,.int .i64 a,.int .i64 b],.int .i64 th] w (FirstOk w [0,0,0,0]):=by
 have hmk:∀ W,(Instr.makeSlice 43 (.int .i64 4) (.int .i64 4)).run Tryz.prog W=.ok (.slice (some ⟨W.heap.size,0,none⟩) 4 4) (W.alloc (.cells #[.int .u32 0,.int .u32 0,.int .u32 0,.int .u32 0] 25)):=fun _=>by kernel_rfl
 have hr:∀ W,TabO W→Calls Tryz.prog 74 #[.agg #[.int .i64 8,.int .i64 n,.int .i64 a,.int .i64 b],.int .i64 th] W fun e w'=>e=.returned (.bool true)∧Below W.heap.size W w':=fun W T=>(right_any W T 8 n a b th).mono (fun e w' h=>⟨by rw [h.1,decide_eq_true hR],h.2⟩)
 have hb0:=(Below.refl w.heap.size w).alloc (Nat.le_refl _) (.cells #[.int .i64 8,.int .i64 n,.int .i64 a,.int .i64 b] 23)
 have hrr:=hr _ (TO.below hb0 (Nat.le_refl _))
 have kb:∀ w1,Below (w.alloc (.cells #[.int .i64 8,.int .i64 n,.int .i64 a,.int .i64 b] 23)).heap.size (w.alloc (.cells #[.int .i64 8,.int .i64 n,.int .i64 a,.int .i64 b] 23)) w1→w1.cell? ⟨w.heap.size,0,none⟩=some (.int .i64 8):=fun w1 h=>cell_of_row w1 w.heap.size 0 _ _ _ ((h.block w.heap.size (by simp)).trans (heap_alloc_new _ _))
 clear hr TO
 go_enter Tryz.func99,Tryz.ntmps99
 go_wp2_with (go_at_call 74;refine hrr.mono ?_;rintro r w1 ⟨rfl,hb1⟩;have k0:=kb _ hb1)
 go_ret
 have hB:=hb0.trans (hb1.mono (by simp))
 exact⟨_,rfl,⟨rfl,.inr ⟨w1.heap.size,4,_,rfl,hB.size,heap_alloc_new _ _,Nat.le_refl _,by decide,rfl,rfl⟩⟩,hB.alloc hB.size _⟩
set_option maxHeartbeats 2000000 in
theorem first_10(w:World)(TO:TabO w)(n a b th:Int)(hR:RightP 10 n a b th):
  Calls Tryz.prog 99 #[.agg #[.int .i64 10,.int .i64 n,.int .i64 a,.int .i64 b],.int .i64 th] w (FirstOk w [0,0]):=by
 have hmk:∀ W,(Instr.makeSlice 43 (.int .i64 2) (.int .i64 2)).run Tryz.prog W=.ok (.slice (some ⟨W.heap.size,0,none⟩) 2 2) (W.alloc (.cells #[.int .u32 0,.int .u32 0] 25)):=fun _=>by kernel_rfl
 have hr:∀ W,TabO W→Calls Tryz.prog 74 #[.agg #[.int .i64 10,.int .i64 n,.int .i64 a,.int .i64 b],.int .i64 th] W fun e w'=>e=.returned (.bool true)∧Below W.heap.size W w':=fun W T=>(right_any W T 10 n a b th).mono (fun e w' h=>⟨by rw [h.1,decide_eq_true hR],h.2⟩)
 have hb0:=(Below.refl w.heap.size w).alloc (Nat.le_refl _) (.cells #[.int .i64 10,.int .i64 n,.int .i64 a,.int .i64 b] 23)
 have hrr:=hr _ (TO.below hb0 (Nat.le_refl _))
 have kb:∀ w1,Below (w.alloc (.cells #[.int .i64 10,.int .i64 n,.int .i64 a,.int .i64 b] 23)).heap.size (w.alloc (.cells #[.int .i64 10,.int .i64 n,.int .i64 a,.int .i64 b] 23)) w1→w1.cell? ⟨w.heap.size,0,none⟩=some (.int .i64 10):=fun w1 h=>cell_of_row w1 w.heap.size 0 _ _ _ ((h.block w.heap.size (by simp)).trans (heap_alloc_new _ _))
 clear hr TO
 go_enter Tryz.func99,Tryz.ntmps99
 go_wp2_with (go_at_call 74;refine hrr.mono ?_;rintro r w1 ⟨rfl,hb1⟩;have k0:=kb _ hb1)
 go_ret
 have hB:=hb0.trans (hb1.mono (by simp))
 exact⟨_,rfl,⟨rfl,.inr ⟨w1.heap.size,2,_,rfl,hB.size,heap_alloc_new _ _,Nat.le_refl _,by decide,rfl,rfl⟩⟩,hB.alloc hB.size _⟩
end Go.Proofs.YtcnmhgblbikfkaaGreatDoor.As
end

section
set_option linter.unusedVariables false
namespace Go.Proofs.YtcnmhgblbikfkaaGreatDoor.As
open Go.RowKit

def MayP(k c:Int):Prop:=(k=9∧1≤c∧c≤4)∨(k=12∧5≤c∧c≤8)∨(k=13∧c=9)∨(k=14∧1≤c∧c≤3)∨(k=15∧(c=9∨c=10))∨(1≤k∧k≤11∧k≠9∧(c=1∨c=2))
instance(k c:Int):Decidable (MayP k c):=by unfold MayP;infer_instance
set_option maxHeartbeats 4000000 in
theorem refMay_any(w:World)(k c:Int):Calls Tryz.prog 44 #[.int .i64 k,.int .i64 c] w fun e w'=>e=.returned (.bool (decide (MayP k c)))∧w'=w:=by
 obtain⟨r,hr⟩:∃ r,r=decide (MayP k c):=⟨_,rfl⟩
 rw [←hr]
 have HR:=Lib.hid hr
 clear hr
 go_enter Tryz.func44,Tryz.ntmps44
 go_wp2_with fail
 all_goals (try go_wp2_with fail)
 all_goals go_ret
 all_goals refine⟨congrArg (fun x=>Ending.returned (.bool x)) ?_,rfl⟩
 all_goals rw [HR.out]
 all_goals clear HR
 all_goals rw [Bool.eq_iff_iff,decide_eq_true_iff (p:=MayP _ _)]
 all_goals unfold MayP
 all_goals simp only [beq_iff_eq,beq_eq_false_iff_ne,ne_eq,decide_eq_true_eq,Bool.false_eq_true,true_iff,false_iff,Bool.or_eq_true] at *
 all_goals omega
end Go.Proofs.YtcnmhgblbikfkaaGreatDoor.As
end

section
set_option linter.unusedVariables false
set_option linter.unusedSimpArgs false
namespace Go.Proofs.YtcnmhgblbikfkaaGreatDoor.As
open Go.RowKit

theorem rd_new(w:World)(xs:List Value)(t:TypeId)(n:Nat)(hn:n=xs.length):Rd (w.alloc (.cells xs.toArray t (0,0))) 1 (.slice (some ⟨w.heap.size,0,none⟩) n n) n xs:=by
 subst hn
 refine⟨some ⟨w.heap.size,0,none⟩,xs.length,rfl,Nat.le_refl _,by omega,.inr ⟨w.heap.size,0,rfl,by simp,fun j u hu=>?_⟩⟩
 rw [Nat.zero_add,World.cell?_alloc_mark]
 simpa using hu
def AskP(k n a b c th t:Int):Prop:=RightP k n a b th∧0≤t∧t < th∧MayP k c
instance(k n a b c th t:Int):Decidable (AskP k n a b c th t):=by unfold AskP;infer_instance
def callsI(k:Int):List Int:=if k=9 then [1,2,3,4] else if k=12 then [5,6,7,8] else if k=13 then [9] else if k=14 then [1,2,3] else if k=15 then [9,10] else if 1≤k∧k < 16 then [1,2] else []
theorem callsI_may(k c:Int):c∈callsI k↔MayP k c:=by
 unfold callsI MayP
 split
 ·simp;omega
 ·split
  ·simp;omega
  ·split
   ·simp;omega
   ·split
    ·simp;omega
    ·split
     ·simp;omega
     ·split
      ·simp;omega
      ·simp;omega
theorem callsI_len(k:Int):(callsI k).length≤4:=by
 unfold callsI
 repeat' split
 all_goals simp
def CallsPost(w:World)(l:List Int)(e:Ending)(w':World):Prop:=∃ v,e=.returned v∧Rd w' 1 v l.length (l.map (.int .i64))∧Below w.heap.size w w'
set_option maxHeartbeats 4000000 in
theorem calls_any(w:World)(T:TabO w)(k:Int):Calls Tryz.prog 75 #[.int .i64 k] w (CallsPost w (callsI k)):=by
 obtain⟨l,hl⟩:∃ l,l=callsI k:=⟨_,rfl⟩
 rw [←hl]
 have HL:=Lib.hid hl
 clear hl
 have ha:∀ o,Below w.heap.size w (w.alloc o):=fun o=>(Below.refl _ w).alloc (Nat.le_refl _) o
 go_enter Tryz.func75,Tryz.ntmps75
 go_wp2_with (go_at_call 113;refine (kname_any _ T _).mono ?_;rintro e w1 ⟨⟨s,rfl,hs⟩,rfl⟩;have hs0:=kname_iff hs;clear hs)
 ·go_ret
  rw [show l=[1,2,3,4] from by rw [HL.out];clear HL;simp only [beq_iff_eq,beq_eq_false_iff_ne,ne_eq,Bool.not_eq_false',decide_eq_true_eq] at *; unfold callsI;rw [if_pos (by omega)]]
  exact⟨_,rfl,rd_new _ [.int .i64 1,.int .i64 2,.int .i64 3,.int .i64 4] _ 4 rfl,ha _⟩
 ·go_ret
  rw [show l=[5,6,7,8] from by rw [HL.out];clear HL;simp only [beq_iff_eq,beq_eq_false_iff_ne,ne_eq,Bool.not_eq_false',decide_eq_true_eq] at *; unfold callsI;rw [if_neg (by omega),if_pos (by omega)]]
  exact⟨_,rfl,rd_new _ [.int .i64 5,.int .i64 6,.int .i64 7,.int .i64 8] _ 4 rfl,ha _⟩
 ·go_ret
  rw [show l=[9] from by rw [HL.out];clear HL;simp only [beq_iff_eq,beq_eq_false_iff_ne,ne_eq,Bool.not_eq_false',decide_eq_true_eq] at *; unfold callsI;rw [if_neg (by omega),if_neg (by omega),if_pos (by omega)]]
  exact⟨_,rfl,rd_new _ [.int .i64 9] _ 1 rfl,ha _⟩
 ·go_ret
  rw [show l=[1,2,3] from by rw [HL.out];clear HL;simp only [beq_iff_eq,beq_eq_false_iff_ne,ne_eq,Bool.not_eq_false',decide_eq_true_eq] at *; unfold callsI;rw [if_neg (by omega),if_neg (by omega),if_neg (by omega),if_pos (by omega)]]
  exact⟨_,rfl,rd_new _ [.int .i64 1,.int .i64 2,.int .i64 3] _ 3 rfl,ha _⟩
 ·go_ret
  rw [show l=[9,10] from by rw [HL.out];clear HL;simp only [beq_iff_eq,beq_eq_false_iff_ne,ne_eq,Bool.not_eq_false',decide_eq_true_eq] at *; unfold callsI;rw [if_neg (by omega),if_neg (by omega),if_neg (by omega),if_neg (by omega),if_pos (by omega)]]
  exact⟨_,rfl,rd_new _ [.int .i64 9,.int .i64 10] _ 2 rfl,ha _⟩
 ·go_ret
  rw [show l=[] from by rw [HL.out];clear HL;simp only [beq_iff_eq,beq_eq_false_iff_ne,ne_eq,Bool.not_eq_true',decide_eq_false_iff_not] at *; unfold callsI;rw [if_neg (by omega),if_neg (by omega),if_neg (by omega),if_neg (by omega),if_neg (by omega),if_neg (by omega)]]
  exact⟨_,rfl,⟨none,0,rfl,Nat.le_refl _,rfl,.inl ⟨rfl,rfl⟩⟩,Below.refl _ _⟩
 ·go_ret
  rw [show l=[1,2] from by rw [HL.out];clear HL;simp only [beq_iff_eq,beq_eq_false_iff_ne,ne_eq,Bool.not_eq_false',decide_eq_true_eq] at *; unfold callsI;rw [if_neg (by omega),if_neg (by omega),if_neg (by omega),if_neg (by omega),if_neg (by omega),if_pos (by omega)]]
  exact⟨_,rfl,rd_new _ [.int .i64 1,.int .i64 2] _ 2 rfl,ha _⟩
set_option maxRecDepth 4000 in
theorem spinMay_any(w:World)(T:TabO w)(k n a b c th t:Int):Calls Tryz.prog 34 #[.agg #[.int .i64 k,.int .i64 n,.int .i64 a,.int .i64 b],.int .i64 c,.int .i64 th,.int .i64 t] w fun e w'=>e=.returned (.bool (decide (AskP k n a b c th t)))∧Below w.heap.size w w':=by
 obtain⟨r,hr⟩:∃ r,r=decide (AskP k n a b c th t):=⟨_,rfl⟩
 rw [←hr]
 have HR:=Lib.hid hr
 clear hr
 have ha:∀ o,Below w.heap.size w (w.alloc o):=fun o=>(Below.refl _ w).alloc (Nat.le_refl _) o
 have TA:∀ o,TabO (w.alloc o):=fun o=>T.below (ha o) (Nat.le_refl _)
 by_cases h0:0≤t∧t < th
 ·have d1:decide (t < 0)=false:=decide_eq_false (by omega)
  have d2:decide (th≤t)=false:=decide_eq_false (by omega)
  by_cases hR:RightP k n a b th
  ·have dR:decide (RightP k n a b th)=true:=decide_eq_true hR
   have HR2:Hid (r=decide (c∈callsI k)):=by
    show _=_
    rw [HR.out,decide_eq_decide,callsI_may]
    unfold AskP
    exact⟨fun e=>e.2.2.2,fun e=>⟨hR,h0.1,h0.2,e⟩⟩
   clear HR hR
   go_enter Tryz.func34,Tryz.ntmps34
   go_wp2_with (first
    | (go_at_call 74;refine (right_any _ (TA _) _ _ _ _ _).mono ?_;rintro e w1 ⟨rfl,hb1⟩;have hk:=keepB hb1 (Nat.le_refl _))
    | (go_at_call 75;refine (calls_any _ ((TA _).below hb1 (Nat.le_refl _)) _).mono ?_;rintro e w2 ⟨v,rfl,hrd,hb2⟩;obtain⟨A,cap,rfl⟩:=hrd.form))
   obtain⟨l,hl⟩:∃ l,l=callsI k:=⟨_,rfl⟩
   have hl4:l.length≤4:=by rw [hl];exact callsI_len k
   rw [←hl] at hrd HR2
   rw [←hl]
   clear hl hk ha TA T dR d1 d2
   have HRD:=Lib.hid hrd
   have HB1:=Lib.hid hb1
   have HB2:=Lib.hid hb2
   clear hrd hb1 hb2
   go_loopw [28] (fun iv wr=>∃ i:Nat,i≤l.length∧iv=.int .i64 i∧Hid (wr=w2)∧Hid (∀ x∈l.take i,x≠c)) (fun i _=>l.length - (intOf i).toNat)
   case atStart=>exact⟨0,by omega,rfl,rfl,by intro x hx;simp at hx⟩
   case round=>
    obtain⟨i,hil,rfl,HW,HN⟩:=hrel
    have hw:=HW.out
    subst hw
    by_cases hlt:i < l.length
    ·obtain⟨b0,off,rfl,hb,hcell⟩:=HRD.out.cells (by omega)
     obtain⟨x,hx⟩:∃ x,l[i]? = some x:=⟨_,List.getElem?_eq_getElem hlt⟩
     have hc:=hcell i (.int .i64 x) (by rw [List.getElem?_map,hx];rfl)
     have hxm:x∈l:=List.mem_of_getElem? hx
     have hts:l.take (i+1)=l.take i++[x]:=by rw [List.take_add_one,hx];rfl
     clear hcell hx
     by_cases hxc:x=c
     ·have dx:(x == c)=true:=by simp [hxc]
      have HR3:r=true:=by rw [HR2.out];exact decide_eq_true (hxc ▸ hxm)
      subst HR3
      clear hxc hts hxm
      go_wp2_with fail
      go_ret
      exact⟨rfl,((Below.refl _ w).alloc (Nat.le_refl _) _).trans ((HB1.out.trans (HB2.out.mono HB1.out.size)).mono (by simp))⟩
     ·have dx:(x == c)=false:=by simp [hxc]
      have HN2:Hid (∀ y∈l.take (i+1),y≠c):=by
       show ∀ y∈l.take (i+1),y≠c
       rw [hts]
       intro y hy
       rcases List.mem_append.1 hy with hy | hy
       ·exact HN.out y hy
       ·rw [List.mem_singleton] at hy;rw [hy];exact hxc
      clear hxc hts hxm
      go_wp2_with fail
      exact⟨⟨i+1,by omega,by simp,Lib.hid trivial,HN2⟩,by simp [intOf];omega⟩
    ·have HR3:r=false:=by
      rw [HR2.out]
      refine decide_eq_false (fun e=>HN.out c ?_ rfl)
      rw [List.take_of_length_le (by omega)];exact e
     subst HR3
     go_wp2_with fail
     go_ret
     exact⟨rfl,((Below.refl _ w).alloc (Nat.le_refl _) _).trans ((HB1.out.trans (HB2.out.mono HB1.out.size)).mono (by simp))⟩
  ·have hv:r=false:=by rw [HR.out];exact decide_eq_false (fun e=>hR e.1)
   have dR:decide (RightP k n a b th)=false:=decide_eq_false hR
   subst hv
   clear HR hR
   go_enter Tryz.func34,Tryz.ntmps34
   go_wp2_with (go_at_call 74;refine (right_any _ (TA _) _ _ _ _ _).mono ?_;rintro e w1 ⟨rfl,hb1⟩)
   go_ret
   exact⟨rfl,(ha _).trans (hb1.mono (ha _).size)⟩
 ·have hv:r=false:=by rw [HR.out];exact decide_eq_false (fun e=>h0 ⟨e.2.1,e.2.2.1⟩)
  subst hv
  clear HR
  go_enter Tryz.func34,Tryz.ntmps34
  by_cases h1:t < 0
  ·have d1:decide (t < 0)=true:=decide_eq_true h1
   go_wp2_with fail
   go_ret
   exact⟨rfl,ha _⟩
  ·have d1:decide (t < 0)=false:=decide_eq_false h1
   have d2:decide (th≤t)=true:=decide_eq_true (by omega)
   go_wp2_with fail
   go_ret
   exact⟨rfl,ha _⟩
end Go.Proofs.YtcnmhgblbikfkaaGreatDoor.As
end

section
set_option linter.unusedVariables false
namespace Go.Proofs.YtcnmhgblbikfkaaGreatDoor.As
open Go.RowKit
set_option linter.unusedSimpArgs false in
set_option maxHeartbeats 40000000 in
theorem refRight_any(w:World)(k n a b th:Int):Calls Tryz.prog 43 #[.agg #[.int .i64 k,.int .i64 n,.int .i64 a,.int .i64 b],.int .i64 th] w fun e w'=>e=.returned (.bool (decide (RightP k n a b th)))∧Below w.heap.size w w':=by
 obtain⟨r,hr⟩:∃ r,r=decide (RightP k n a b th):=⟨_,rfl⟩
 rw [←hr]
 have HR:=Lib.hid hr
 clear hr
 go_enter Tryz.func43,Tryz.ntmps43
 go_wp2_with fail
 all_goals (try go_quiet (fail))
 all_goals (try go_wp2_with fail)
 all_goals go_ret
 all_goals refine⟨congrArg (fun x=>Ending.returned (.bool x)) ?_,by first | exact bl_drewN ((Below.refl _ w).alloc (Nat.le_refl _) _) _ | exact (Below.refl _ w).alloc (Nat.le_refl _) _⟩
 all_goals rw [HR.out]
 all_goals clear HR
 all_goals rw [Bool.eq_iff_iff,decide_eq_true_iff (p:=RightP _ _ _ _ _)]
 all_goals unfold RightP
 all_goals simp only [beq_iff_eq,beq_eq_false_iff_ne,ne_eq,decide_eq_true_eq,Bool.false_eq_true,true_iff,false_iff,Bool.or_eq_true,Bool.and_eq_true,bne_iff_ne,bne_eq_false_iff_eq] at *
 all_goals omega
end Go.Proofs.YtcnmhgblbikfkaaGreatDoor.As
end

