/- The walk of obj.First: the locks of the package queue,for one to four threads. -/
import Derived.Test.YtckmkaeopnnbbaaGreatDoorGd
set_option linter.unusedVariables false
set_option linter.unusedSimpArgs false
set_option maxRecDepth 20000
namespace Go.Proofs.YtckmkaeopnnbbaaGreatDoor.As
open Go.RowKit

def clhMem(th:Nat):List Int:=[(th:Int),0,0]++List.replicate th 0++(List.range th).map (fun i:Nat=>(i:Int))++List.replicate th 0

set_option maxHeartbeats 2000000 in
theorem first_4_1(w:World)(TO:TabO w)(n a b:Int)(hR:RightP 4 n a b 1):
  Calls Tryz.prog 42 #[.agg #[.int .i64 4,.int .i64 n,.int .i64 a,.int .i64 b],.int .i64 1] w (FirstOk w [0,0,0,0]):=by
 have hmk:∀ W,(Instr.makeSlice 43 (.int .i64 4) (.int .i64 4)).run Tryz.prog W=.ok (.slice (some ⟨W.heap.size,0,none⟩) 4 4) (W.alloc (.cells #[.int .u32 0,.int .u32 0,.int .u32 0,.int .u32 0] 60)):=fun _=>by kernel_rfl
 have hr:∀ W,TabO W→Calls Tryz.prog 79 #[.agg #[.int .i64 4,.int .i64 n,.int .i64 a,.int .i64 b],.int .i64 1] W fun e w'=>e=.returned (.bool true)∧Below W.heap.size W w':=fun W T=>(right_any W T 4 n a b 1).mono (fun e w' h=>⟨by rw [h.1,decide_eq_true hR],h.2⟩)
 have hb0:=(Below.refl w.heap.size w).alloc (Nat.le_refl _) (.cells #[.int .i64 4,.int .i64 n,.int .i64 a,.int .i64 b] 27)
 have hrr:=hr _ (TO.below hb0 (Nat.le_refl _))
 have kb:∀ w1,Below (w.alloc (.cells #[.int .i64 4,.int .i64 n,.int .i64 a,.int .i64 b] 27)).heap.size (w.alloc (.cells #[.int .i64 4,.int .i64 n,.int .i64 a,.int .i64 b] 27)) w1→w1.cell? ⟨w.heap.size,0,none⟩=some (.int .i64 4):=fun w1 h=>cell_of_row w1 w.heap.size 0 _ _ _ ((h.block w.heap.size (by simp)).trans (heap_alloc_new _ _))
 clear hr TO
 go_enter Tryz.func42,Tryz.ntmps42
 go_wp2_with (go_at_call 79;refine hrr.mono ?_;rintro r w1 ⟨rfl,hb1⟩;have k0:=kb _ hb1)
 go_ret
 have hB:=hb0.trans (hb1.mono (by simp))
 exact⟨_,rfl,⟨rfl,.inr ⟨w1.heap.size,4,_,rfl,hB.size,heap_alloc_new _ _,Nat.le_refl _,by decide,rfl,rfl⟩⟩,hB.alloc hB.size _⟩
set_option maxHeartbeats 2000000 in
theorem first_4_2(w:World)(TO:TabO w)(n a b:Int)(hR:RightP 4 n a b 2):
  Calls Tryz.prog 42 #[.agg #[.int .i64 4,.int .i64 n,.int .i64 a,.int .i64 b],.int .i64 2] w (FirstOk w [0,0,0,0,0,0]):=by
 have hmk:∀ W,(Instr.makeSlice 43 (.int .i64 6) (.int .i64 6)).run Tryz.prog W=.ok (.slice (some ⟨W.heap.size,0,none⟩) 6 6) (W.alloc (.cells #[.int .u32 0,.int .u32 0,.int .u32 0,.int .u32 0,.int .u32 0,.int .u32 0] 60)):=fun _=>by kernel_rfl
 have hr:∀ W,TabO W→Calls Tryz.prog 79 #[.agg #[.int .i64 4,.int .i64 n,.int .i64 a,.int .i64 b],.int .i64 2] W fun e w'=>e=.returned (.bool true)∧Below W.heap.size W w':=fun W T=>(right_any W T 4 n a b 2).mono (fun e w' h=>⟨by rw [h.1,decide_eq_true hR],h.2⟩)
 have hb0:=(Below.refl w.heap.size w).alloc (Nat.le_refl _) (.cells #[.int .i64 4,.int .i64 n,.int .i64 a,.int .i64 b] 27)
 have hrr:=hr _ (TO.below hb0 (Nat.le_refl _))
 have kb:∀ w1,Below (w.alloc (.cells #[.int .i64 4,.int .i64 n,.int .i64 a,.int .i64 b] 27)).heap.size (w.alloc (.cells #[.int .i64 4,.int .i64 n,.int .i64 a,.int .i64 b] 27)) w1→w1.cell? ⟨w.heap.size,0,none⟩=some (.int .i64 4):=fun w1 h=>cell_of_row w1 w.heap.size 0 _ _ _ ((h.block w.heap.size (by simp)).trans (heap_alloc_new _ _))
 clear hr TO
 go_enter Tryz.func42,Tryz.ntmps42
 go_wp2_with (go_at_call 79;refine hrr.mono ?_;rintro r w1 ⟨rfl,hb1⟩;have k0:=kb _ hb1)
 go_ret
 have hB:=hb0.trans (hb1.mono (by simp))
 exact⟨_,rfl,⟨rfl,.inr ⟨w1.heap.size,6,_,rfl,hB.size,heap_alloc_new _ _,Nat.le_refl _,by decide,rfl,rfl⟩⟩,hB.alloc hB.size _⟩
set_option maxHeartbeats 2000000 in
theorem first_4_3(w:World)(TO:TabO w)(n a b:Int)(hR:RightP 4 n a b 3):
  Calls Tryz.prog 42 #[.agg #[.int .i64 4,.int .i64 n,.int .i64 a,.int .i64 b],.int .i64 3] w (FirstOk w [0,0,0,0,0,0,0,0]):=by
 have hmk:∀ W,(Instr.makeSlice 43 (.int .i64 8) (.int .i64 8)).run Tryz.prog W=.ok (.slice (some ⟨W.heap.size,0,none⟩) 8 8) (W.alloc (.cells #[.int .u32 0,.int .u32 0,.int .u32 0,.int .u32 0,.int .u32 0,.int .u32 0,.int .u32 0,.int .u32 0] 60)):=fun _=>by kernel_rfl
 have hr:∀ W,TabO W→Calls Tryz.prog 79 #[.agg #[.int .i64 4,.int .i64 n,.int .i64 a,.int .i64 b],.int .i64 3] W fun e w'=>e=.returned (.bool true)∧Below W.heap.size W w':=fun W T=>(right_any W T 4 n a b 3).mono (fun e w' h=>⟨by rw [h.1,decide_eq_true hR],h.2⟩)
 have hb0:=(Below.refl w.heap.size w).alloc (Nat.le_refl _) (.cells #[.int .i64 4,.int .i64 n,.int .i64 a,.int .i64 b] 27)
 have hrr:=hr _ (TO.below hb0 (Nat.le_refl _))
 have kb:∀ w1,Below (w.alloc (.cells #[.int .i64 4,.int .i64 n,.int .i64 a,.int .i64 b] 27)).heap.size (w.alloc (.cells #[.int .i64 4,.int .i64 n,.int .i64 a,.int .i64 b] 27)) w1→w1.cell? ⟨w.heap.size,0,none⟩=some (.int .i64 4):=fun w1 h=>cell_of_row w1 w.heap.size 0 _ _ _ ((h.block w.heap.size (by simp)).trans (heap_alloc_new _ _))
 clear hr TO
 go_enter Tryz.func42,Tryz.ntmps42
 go_wp2_with (go_at_call 79;refine hrr.mono ?_;rintro r w1 ⟨rfl,hb1⟩;have k0:=kb _ hb1)
 go_ret
 have hB:=hb0.trans (hb1.mono (by simp))
 exact⟨_,rfl,⟨rfl,.inr ⟨w1.heap.size,8,_,rfl,hB.size,heap_alloc_new _ _,Nat.le_refl _,by decide,rfl,rfl⟩⟩,hB.alloc hB.size _⟩
set_option maxHeartbeats 2000000 in
theorem first_4_4(w:World)(TO:TabO w)(n a b:Int)(hR:RightP 4 n a b 4):
  Calls Tryz.prog 42 #[.agg #[.int .i64 4,.int .i64 n,.int .i64 a,.int .i64 b],.int .i64 4] w (FirstOk w [0,0,0,0,0,0,0,0,0,0]):=by
 have hmk:∀ W,(Instr.makeSlice 43 (.int .i64 10) (.int .i64 10)).run Tryz.prog W=.ok (.slice (some ⟨W.heap.size,0,none⟩) 10 10) (W.alloc (.cells #[.int .u32 0,.int .u32 0,.int .u32 0,.int .u32 0,.int .u32 0,.int .u32 0,.int .u32 0,.int .u32 0,.int .u32 0,.int .u32 0] 60)):=fun _=>by kernel_rfl
 have hr:∀ W,TabO W→Calls Tryz.prog 79 #[.agg #[.int .i64 4,.int .i64 n,.int .i64 a,.int .i64 b],.int .i64 4] W fun e w'=>e=.returned (.bool true)∧Below W.heap.size W w':=fun W T=>(right_any W T 4 n a b 4).mono (fun e w' h=>⟨by rw [h.1,decide_eq_true hR],h.2⟩)
 have hb0:=(Below.refl w.heap.size w).alloc (Nat.le_refl _) (.cells #[.int .i64 4,.int .i64 n,.int .i64 a,.int .i64 b] 27)
 have hrr:=hr _ (TO.below hb0 (Nat.le_refl _))
 have kb:∀ w1,Below (w.alloc (.cells #[.int .i64 4,.int .i64 n,.int .i64 a,.int .i64 b] 27)).heap.size (w.alloc (.cells #[.int .i64 4,.int .i64 n,.int .i64 a,.int .i64 b] 27)) w1→w1.cell? ⟨w.heap.size,0,none⟩=some (.int .i64 4):=fun w1 h=>cell_of_row w1 w.heap.size 0 _ _ _ ((h.block w.heap.size (by simp)).trans (heap_alloc_new _ _))
 clear hr TO
 go_enter Tryz.func42,Tryz.ntmps42
 go_wp2_with (go_at_call 79;refine hrr.mono ?_;rintro r w1 ⟨rfl,hb1⟩;have k0:=kb _ hb1)
 go_ret
 have hB:=hb0.trans (hb1.mono (by simp))
 exact⟨_,rfl,⟨rfl,.inr ⟨w1.heap.size,10,_,rfl,hB.size,heap_alloc_new _ _,Nat.le_refl _,by decide,rfl,rfl⟩⟩,hB.alloc hB.size _⟩
def clhK(th k:Nat):List Int:=[(th:Int),0,0]++List.replicate th 0++(List.range th).map (fun i:Nat=>if i < k then (i:Int) else 0)++List.replicate th 0
set_option maxHeartbeats 2000000 in
theorem clh_1(w:World):Calls Tryz.prog 80 #[.int .i64 1] w (FirstOk w (clhMem 1)):=by
 have hmk:∀ W,(Instr.makeSlice 43 (.int .i64 6) (.int .i64 6)).run Tryz.prog W=.ok (.slice (some ⟨W.heap.size,0,none⟩) 6 6) (W.alloc (.cells #[.int .u32 0,.int .u32 0,.int .u32 0,.int .u32 0,.int .u32 0,.int .u32 0] 60)):=fun _=>by kernel_rfl
 have hb0:Below w.heap.size w (w.alloc (.cells #[.int .u32 0,.int .u32 0,.int .u32 0,.int .u32 0,.int .u32 0,.int .u32 0] 60)):=(Below.refl _ w).alloc (Nat.le_refl _) _
 have HB0:=Lib.hid hb0
 clear hb0
 go_enter Tryz.func80,Tryz.ntmps80
 go_wp2_with fail
 go_loopw [14] (fun iv wr=>∃ k:Nat,k≤1∧iv=.int .i64 (k:Int)∧Hid (wr.heap[w.heap.size]? = some (.cells (w32 (clhK 1 k)).toArray 60 (0,0)))∧Hid (Below w.heap.size w wr)) (fun i _=>1 - (intOf i).toNat)
 case atStart=>exact⟨0,by omega,rfl,Lib.hid ((heap_alloc_new _ _).trans (by kernel_rfl)),Lib.hid ((Below.refl _ w).alloc (Nat.le_refl _) _)⟩
 case round=>
  obtain⟨k,hk,rfl,HR,HB⟩:=hrel
  by_cases hlt:k < 1
  ·have o:wr.cell? ⟨w.heap.size,3+1+k,none⟩=some (.int .u32 0):=(cell_of_row wr w.heap.size (3+1+k) _ _ _ HR.out).trans (by clear HR HB;obtain rfl:=(show k=0 by omega)<;>kernel_rfl)
   have z:wr.frozen? ⟨w.heap.size,3+1+k,none⟩=false:=frozen_of_row wr w.heap.size _ _ _ HR.out
   go_wp2_with fail
   exact⟨⟨k+1,by omega,by simp,Lib.hid ((heap_setCell_same _ w.heap.size (3+1+k) _ _ _ HR.out).trans (by clear HR HB o z;obtain rfl:=(show k=0 by omega)<;>kernel_rfl)),Lib.hid (HB.out.setCell (p:=⟨w.heap.size,3+1+k,none⟩) (Nat.le_refl _) _)⟩,by simp [intOf];omega⟩
  ·obtain rfl:k=1:=by omega
   go_wp2_with fail
   go_ret
   exact⟨_,rfl,⟨rfl,.inr ⟨w.heap.size,6,_,rfl,Nat.le_refl _,HR.out,Nat.le_refl _,by decide,rfl,rfl⟩⟩,HB.out⟩
set_option maxHeartbeats 2000000 in
theorem clh_2(w:World):Calls Tryz.prog 80 #[.int .i64 2] w (FirstOk w (clhMem 2)):=by
 have hmk:∀ W,(Instr.makeSlice 43 (.int .i64 9) (.int .i64 9)).run Tryz.prog W=.ok (.slice (some ⟨W.heap.size,0,none⟩) 9 9) (W.alloc (.cells #[.int .u32 0,.int .u32 0,.int .u32 0,.int .u32 0,.int .u32 0,.int .u32 0,.int .u32 0,.int .u32 0,.int .u32 0] 60)):=fun _=>by kernel_rfl
 have hb0:Below w.heap.size w (w.alloc (.cells #[.int .u32 0,.int .u32 0,.int .u32 0,.int .u32 0,.int .u32 0,.int .u32 0,.int .u32 0,.int .u32 0,.int .u32 0] 60)):=(Below.refl _ w).alloc (Nat.le_refl _) _
 have HB0:=Lib.hid hb0
 clear hb0
 go_enter Tryz.func80,Tryz.ntmps80
 go_wp2_with fail
 go_loopw [14] (fun iv wr=>∃ k:Nat,k≤2∧iv=.int .i64 (k:Int)∧Hid (wr.heap[w.heap.size]? = some (.cells (w32 (clhK 2 k)).toArray 60 (0,0)))∧Hid (Below w.heap.size w wr)) (fun i _=>2 - (intOf i).toNat)
 case atStart=>exact⟨0,by omega,rfl,Lib.hid ((heap_alloc_new _ _).trans (by kernel_rfl)),Lib.hid ((Below.refl _ w).alloc (Nat.le_refl _) _)⟩
 case round=>
  obtain⟨k,hk,rfl,HR,HB⟩:=hrel
  by_cases hlt:k < 2
  ·have o:wr.cell? ⟨w.heap.size,3+2+k,none⟩=some (.int .u32 0):=(cell_of_row wr w.heap.size (3+2+k) _ _ _ HR.out).trans (by clear HR HB;rcases (show k=0∨k=1 by omega) with rfl | rfl<;>kernel_rfl)
   have z:wr.frozen? ⟨w.heap.size,3+2+k,none⟩=false:=frozen_of_row wr w.heap.size _ _ _ HR.out
   go_wp2_with fail
   exact⟨⟨k+1,by omega,by simp,Lib.hid ((heap_setCell_same _ w.heap.size (3+2+k) _ _ _ HR.out).trans (by clear HR HB o z;rcases (show k=0∨k=1 by omega) with rfl | rfl<;>kernel_rfl)),Lib.hid (HB.out.setCell (p:=⟨w.heap.size,3+2+k,none⟩) (Nat.le_refl _) _)⟩,by simp [intOf];omega⟩
  ·obtain rfl:k=2:=by omega
   go_wp2_with fail
   go_ret
   exact⟨_,rfl,⟨rfl,.inr ⟨w.heap.size,9,_,rfl,Nat.le_refl _,HR.out,Nat.le_refl _,by decide,rfl,rfl⟩⟩,HB.out⟩
set_option maxHeartbeats 2000000 in
theorem clh_3(w:World):Calls Tryz.prog 80 #[.int .i64 3] w (FirstOk w (clhMem 3)):=by
 have hmk:∀ W,(Instr.makeSlice 43 (.int .i64 12) (.int .i64 12)).run Tryz.prog W=.ok (.slice (some ⟨W.heap.size,0,none⟩) 12 12) (W.alloc (.cells #[.int .u32 0,.int .u32 0,.int .u32 0,.int .u32 0,.int .u32 0,.int .u32 0,.int .u32 0,.int .u32 0,.int .u32 0,.int .u32 0,.int .u32 0,.int .u32 0] 60)):=fun _=>by kernel_rfl
 have hb0:Below w.heap.size w (w.alloc (.cells #[.int .u32 0,.int .u32 0,.int .u32 0,.int .u32 0,.int .u32 0,.int .u32 0,.int .u32 0,.int .u32 0,.int .u32 0,.int .u32 0,.int .u32 0,.int .u32 0] 60)):=(Below.refl _ w).alloc (Nat.le_refl _) _
 have HB0:=Lib.hid hb0
 clear hb0
 go_enter Tryz.func80,Tryz.ntmps80
 go_wp2_with fail
 go_loopw [14] (fun iv wr=>∃ k:Nat,k≤3∧iv=.int .i64 (k:Int)∧Hid (wr.heap[w.heap.size]? = some (.cells (w32 (clhK 3 k)).toArray 60 (0,0)))∧Hid (Below w.heap.size w wr)) (fun i _=>3 - (intOf i).toNat)
 case atStart=>exact⟨0,by omega,rfl,Lib.hid ((heap_alloc_new _ _).trans (by kernel_rfl)),Lib.hid ((Below.refl _ w).alloc (Nat.le_refl _) _)⟩
 case round=>
  obtain⟨k,hk,rfl,HR,HB⟩:=hrel
  by_cases hlt:k < 3
  ·have o:wr.cell? ⟨w.heap.size,3+3+k,none⟩=some (.int .u32 0):=(cell_of_row wr w.heap.size (3+3+k) _ _ _ HR.out).trans (by clear HR HB;rcases (show k=0∨k=1∨k=2 by omega) with rfl | rfl | rfl<;>kernel_rfl)
   have z:wr.frozen? ⟨w.heap.size,3+3+k,none⟩=false:=frozen_of_row wr w.heap.size _ _ _ HR.out
   go_wp2_with fail
   exact⟨⟨k+1,by omega,by simp,Lib.hid ((heap_setCell_same _ w.heap.size (3+3+k) _ _ _ HR.out).trans (by clear HR HB o z;rcases (show k=0∨k=1∨k=2 by omega) with rfl | rfl | rfl<;>kernel_rfl)),Lib.hid (HB.out.setCell (p:=⟨w.heap.size,3+3+k,none⟩) (Nat.le_refl _) _)⟩,by simp [intOf];omega⟩
  ·obtain rfl:k=3:=by omega
   go_wp2_with fail
   go_ret
   exact⟨_,rfl,⟨rfl,.inr ⟨w.heap.size,12,_,rfl,Nat.le_refl _,HR.out,Nat.le_refl _,by decide,rfl,rfl⟩⟩,HB.out⟩
set_option maxHeartbeats 2000000 in
theorem clh_4(w:World):Calls Tryz.prog 80 #[.int .i64 4] w (FirstOk w (clhMem 4)):=by
 have hmk:∀ W,(Instr.makeSlice 43 (.int .i64 15) (.int .i64 15)).run Tryz.prog W=.ok (.slice (some ⟨W.heap.size,0,none⟩) 15 15) (W.alloc (.cells #[.int .u32 0,.int .u32 0,.int .u32 0,.int .u32 0,.int .u32 0,.int .u32 0,.int .u32 0,.int .u32 0,.int .u32 0,.int .u32 0,.int .u32 0,.int .u32 0,.int .u32 0,.int .u32 0,.int .u32 0] 60)):=fun _=>by kernel_rfl
 have hb0:Below w.heap.size w (w.alloc (.cells #[.int .u32 0,.int .u32 0,.int .u32 0,.int .u32 0,.int .u32 0,.int .u32 0,.int .u32 0,.int .u32 0,.int .u32 0,.int .u32 0,.int .u32 0,.int .u32 0,.int .u32 0,.int .u32 0,.int .u32 0] 60)):=(Below.refl _ w).alloc (Nat.le_refl _) _
 have HB0:=Lib.hid hb0
 clear hb0
 go_enter Tryz.func80,Tryz.ntmps80
 go_wp2_with fail
 go_loopw [14] (fun iv wr=>∃ k:Nat,k≤4∧iv=.int .i64 (k:Int)∧Hid (wr.heap[w.heap.size]? = some (.cells (w32 (clhK 4 k)).toArray 60 (0,0)))∧Hid (Below w.heap.size w wr)) (fun i _=>4 - (intOf i).toNat)
 case atStart=>exact⟨0,by omega,rfl,Lib.hid ((heap_alloc_new _ _).trans (by kernel_rfl)),Lib.hid ((Below.refl _ w).alloc (Nat.le_refl _) _)⟩
 case round=>
  obtain⟨k,hk,rfl,HR,HB⟩:=hrel
  by_cases hlt:k < 4
  ·have o:wr.cell? ⟨w.heap.size,3+4+k,none⟩=some (.int .u32 0):=(cell_of_row wr w.heap.size (3+4+k) _ _ _ HR.out).trans (by clear HR HB;rcases (show k=0∨k=1∨k=2∨k=3 by omega) with rfl | rfl | rfl | rfl<;>kernel_rfl)
   have z:wr.frozen? ⟨w.heap.size,3+4+k,none⟩=false:=frozen_of_row wr w.heap.size _ _ _ HR.out
   go_wp2_with fail
   exact⟨⟨k+1,by omega,by simp,Lib.hid ((heap_setCell_same _ w.heap.size (3+4+k) _ _ _ HR.out).trans (by clear HR HB o z;rcases (show k=0∨k=1∨k=2∨k=3 by omega) with rfl | rfl | rfl | rfl<;>kernel_rfl)),Lib.hid (HB.out.setCell (p:=⟨w.heap.size,3+4+k,none⟩) (Nat.le_refl _) _)⟩,by simp [intOf];omega⟩
  ·obtain rfl:k=4:=by omega
   go_wp2_with fail
   go_ret
   exact⟨_,rfl,⟨rfl,.inr ⟨w.heap.size,15,_,rfl,Nat.le_refl _,HR.out,Nat.le_refl _,by decide,rfl,rfl⟩⟩,HB.out⟩
set_option maxHeartbeats 2000000 in
theorem first_5_1(w:World)(TO:TabO w)(n a b:Int)(hR:RightP 5 n a b 1):
  Calls Tryz.prog 42 #[.agg #[.int .i64 5,.int .i64 n,.int .i64 a,.int .i64 b],.int .i64 1] w (FirstOk w (clhMem 1)):=by
 have hr:∀ W,TabO W→Calls Tryz.prog 79 #[.agg #[.int .i64 5,.int .i64 n,.int .i64 a,.int .i64 b],.int .i64 1] W fun e w'=>e=.returned (.bool true)∧Below W.heap.size W w':=fun W T=>(right_any W T 5 n a b 1).mono (fun e w' h=>⟨by rw [h.1,decide_eq_true hR],h.2⟩)
 have hb0:=(Below.refl w.heap.size w).alloc (Nat.le_refl _) (.cells #[.int .i64 5,.int .i64 n,.int .i64 a,.int .i64 b] 27)
 have hrr:=hr _ (TO.below hb0 (Nat.le_refl _))
 have kb:∀ w1,Below (w.alloc (.cells #[.int .i64 5,.int .i64 n,.int .i64 a,.int .i64 b] 27)).heap.size (w.alloc (.cells #[.int .i64 5,.int .i64 n,.int .i64 a,.int .i64 b] 27)) w1→w1.cell? ⟨w.heap.size,0,none⟩=some (.int .i64 5):=fun w1 h=>cell_of_row w1 w.heap.size 0 _ _ _ ((h.block w.heap.size (by simp)).trans (heap_alloc_new _ _))
 clear hr TO
 go_enter Tryz.func42,Tryz.ntmps42
 go_wp2_with (first | (go_at_call 79;refine hrr.mono ?_;rintro r w1 ⟨rfl,hb1⟩;have k0:=kb _ hb1) | (go_at_call 80;refine (clh_1 _).mono ?_;rintro r w2 ⟨v,rfl,hv,hb2⟩))
 go_ret
 have hB:=hb0.trans (hb1.mono (by simp))
 exact⟨v,rfl,⟨hv.1,hv.2.imp id (fun⟨g,cap,cur,e1,e2,e⟩=>⟨g,cap,cur,e1,Nat.le_trans hB.size e2,e⟩)⟩,hB.trans (hb2.mono hB.size)⟩
set_option maxHeartbeats 2000000 in
theorem first_5_2(w:World)(TO:TabO w)(n a b:Int)(hR:RightP 5 n a b 2):
  Calls Tryz.prog 42 #[.agg #[.int .i64 5,.int .i64 n,.int .i64 a,.int .i64 b],.int .i64 2] w (FirstOk w (clhMem 2)):=by
 have hr:∀ W,TabO W→Calls Tryz.prog 79 #[.agg #[.int .i64 5,.int .i64 n,.int .i64 a,.int .i64 b],.int .i64 2] W fun e w'=>e=.returned (.bool true)∧Below W.heap.size W w':=fun W T=>(right_any W T 5 n a b 2).mono (fun e w' h=>⟨by rw [h.1,decide_eq_true hR],h.2⟩)
 have hb0:=(Below.refl w.heap.size w).alloc (Nat.le_refl _) (.cells #[.int .i64 5,.int .i64 n,.int .i64 a,.int .i64 b] 27)
 have hrr:=hr _ (TO.below hb0 (Nat.le_refl _))
 have kb:∀ w1,Below (w.alloc (.cells #[.int .i64 5,.int .i64 n,.int .i64 a,.int .i64 b] 27)).heap.size (w.alloc (.cells #[.int .i64 5,.int .i64 n,.int .i64 a,.int .i64 b] 27)) w1→w1.cell? ⟨w.heap.size,0,none⟩=some (.int .i64 5):=fun w1 h=>cell_of_row w1 w.heap.size 0 _ _ _ ((h.block w.heap.size (by simp)).trans (heap_alloc_new _ _))
 clear hr TO
 go_enter Tryz.func42,Tryz.ntmps42
 go_wp2_with (first | (go_at_call 79;refine hrr.mono ?_;rintro r w1 ⟨rfl,hb1⟩;have k0:=kb _ hb1) | (go_at_call 80;refine (clh_2 _).mono ?_;rintro r w2 ⟨v,rfl,hv,hb2⟩))
 go_ret
 have hB:=hb0.trans (hb1.mono (by simp))
 exact⟨v,rfl,⟨hv.1,hv.2.imp id (fun⟨g,cap,cur,e1,e2,e⟩=>⟨g,cap,cur,e1,Nat.le_trans hB.size e2,e⟩)⟩,hB.trans (hb2.mono hB.size)⟩
set_option maxHeartbeats 2000000 in
theorem first_5_3(w:World)(TO:TabO w)(n a b:Int)(hR:RightP 5 n a b 3):
  Calls Tryz.prog 42 #[.agg #[.int .i64 5,.int .i64 n,.int .i64 a,.int .i64 b],.int .i64 3] w (FirstOk w (clhMem 3)):=by
 have hr:∀ W,TabO W→Calls Tryz.prog 79 #[.agg #[.int .i64 5,.int .i64 n,.int .i64 a,.int .i64 b],.int .i64 3] W fun e w'=>e=.returned (.bool true)∧Below W.heap.size W w':=fun W T=>(right_any W T 5 n a b 3).mono (fun e w' h=>⟨by rw [h.1,decide_eq_true hR],h.2⟩)
 have hb0:=(Below.refl w.heap.size w).alloc (Nat.le_refl _) (.cells #[.int .i64 5,.int .i64 n,.int .i64 a,.int .i64 b] 27)
 have hrr:=hr _ (TO.below hb0 (Nat.le_refl _))
 have kb:∀ w1,Below (w.alloc (.cells #[.int .i64 5,.int .i64 n,.int .i64 a,.int .i64 b] 27)).heap.size (w.alloc (.cells #[.int .i64 5,.int .i64 n,.int .i64 a,.int .i64 b] 27)) w1→w1.cell? ⟨w.heap.size,0,none⟩=some (.int .i64 5):=fun w1 h=>cell_of_row w1 w.heap.size 0 _ _ _ ((h.block w.heap.size (by simp)).trans (heap_alloc_new _ _))
 clear hr TO
 go_enter Tryz.func42,Tryz.ntmps42
 go_wp2_with (first | (go_at_call 79;refine hrr.mono ?_;rintro r w1 ⟨rfl,hb1⟩;have k0:=kb _ hb1) | (go_at_call 80;refine (clh_3 _).mono ?_;rintro r w2 ⟨v,rfl,hv,hb2⟩))
 go_ret
 have hB:=hb0.trans (hb1.mono (by simp))
 exact⟨v,rfl,⟨hv.1,hv.2.imp id (fun⟨g,cap,cur,e1,e2,e⟩=>⟨g,cap,cur,e1,Nat.le_trans hB.size e2,e⟩)⟩,hB.trans (hb2.mono hB.size)⟩
set_option maxHeartbeats 2000000 in
theorem first_5_4(w:World)(TO:TabO w)(n a b:Int)(hR:RightP 5 n a b 4):
  Calls Tryz.prog 42 #[.agg #[.int .i64 5,.int .i64 n,.int .i64 a,.int .i64 b],.int .i64 4] w (FirstOk w (clhMem 4)):=by
 have hr:∀ W,TabO W→Calls Tryz.prog 79 #[.agg #[.int .i64 5,.int .i64 n,.int .i64 a,.int .i64 b],.int .i64 4] W fun e w'=>e=.returned (.bool true)∧Below W.heap.size W w':=fun W T=>(right_any W T 5 n a b 4).mono (fun e w' h=>⟨by rw [h.1,decide_eq_true hR],h.2⟩)
 have hb0:=(Below.refl w.heap.size w).alloc (Nat.le_refl _) (.cells #[.int .i64 5,.int .i64 n,.int .i64 a,.int .i64 b] 27)
 have hrr:=hr _ (TO.below hb0 (Nat.le_refl _))
 have kb:∀ w1,Below (w.alloc (.cells #[.int .i64 5,.int .i64 n,.int .i64 a,.int .i64 b] 27)).heap.size (w.alloc (.cells #[.int .i64 5,.int .i64 n,.int .i64 a,.int .i64 b] 27)) w1→w1.cell? ⟨w.heap.size,0,none⟩=some (.int .i64 5):=fun w1 h=>cell_of_row w1 w.heap.size 0 _ _ _ ((h.block w.heap.size (by simp)).trans (heap_alloc_new _ _))
 clear hr TO
 go_enter Tryz.func42,Tryz.ntmps42
 go_wp2_with (first | (go_at_call 79;refine hrr.mono ?_;rintro r w1 ⟨rfl,hb1⟩;have k0:=kb _ hb1) | (go_at_call 80;refine (clh_4 _).mono ?_;rintro r w2 ⟨v,rfl,hv,hb2⟩))
 go_ret
 have hB:=hb0.trans (hb1.mono (by simp))
 exact⟨v,rfl,⟨hv.1,hv.2.imp id (fun⟨g,cap,cur,e1,e2,e⟩=>⟨g,cap,cur,e1,Nat.le_trans hB.size e2,e⟩)⟩,hB.trans (hb2.mono hB.size)⟩
end Go.Proofs.YtckmkaeopnnbbaaGreatDoor.As
