/- The walk of obj.First: the kinds whose words are 0 at first. -/
import Derived.Test.YtackbadmcgjncaaGreatDoorObjR
import Derived.Test.YtackbadmcgjncaaGreatDoorAlC
set_option linter.unusedVariables false
set_option linter.unusedSimpArgs false
set_option maxRecDepth 20000
namespace Go.Proofs.YtackbadmcgjncaaGreatDoor.As
open Go.RowKit

/-- Words in memory of the call's own. -/
def FirstOk (w : World) (l : List Int) (e : Ending) (w' : World) : Prop := ∃ v, e = .returned v ∧ w'.ownsRow w.heap.size 41 1 v l.length (w32 l) ∧ Below w.heap.size w w'
set_option maxHeartbeats 2000000 in
theorem first_1 (w : World) (TO : TabO w) (n a b th : Int) (hR : RightP 1 n a b th) :
    Calls Tryz.prog 31 #[.agg #[.int .i64 1, .int .i64 n, .int .i64 a, .int .i64 b], .int .i64 th] w (FirstOk w [0]) := by
  have hmk : ∀ W, (Instr.makeSlice 44 (.int .i64 1) (.int .i64 1)).run Tryz.prog W = .ok (.slice (some ⟨W.heap.size, 0, none⟩) 1 1) (W.alloc (.cells #[.int .u32 0] 41)) := fun _ => by kernel_rfl
  have hr : ∀ W, TabO W → Calls Tryz.prog 55 #[.agg #[.int .i64 1, .int .i64 n, .int .i64 a, .int .i64 b], .int .i64 th] W fun e w' => e = .returned (.bool true) ∧ Below W.heap.size W w' := fun W T => (right_any W T 1 n a b th).mono (fun e w' h => ⟨by rw [h.1, decide_eq_true hR], h.2⟩)
  have hb0 := (Below.refl w.heap.size w).alloc (Nat.le_refl _) (.cells #[.int .i64 1, .int .i64 n, .int .i64 a, .int .i64 b] 26)
  have hrr := hr _ (TO.below hb0 (Nat.le_refl _))
  have kb : ∀ w1, Below (w.alloc (.cells #[.int .i64 1, .int .i64 n, .int .i64 a, .int .i64 b] 26)).heap.size (w.alloc (.cells #[.int .i64 1, .int .i64 n, .int .i64 a, .int .i64 b] 26)) w1 → w1.cell? ⟨w.heap.size, 0, none⟩ = some (.int .i64 1) := fun w1 h => cell_of_row w1 w.heap.size 0 _ _ _ ((h.block w.heap.size (by simp)).trans (heap_alloc_new _ _))
  clear hr TO
  go_enter Tryz.func31, Tryz.ntmps31
  go_wp2_with (go_at_call 55; refine hrr.mono ?_; rintro r w1 ⟨rfl, hb1⟩; have k0 := kb _ hb1)
  go_ret
  have hB := hb0.trans (hb1.mono (by simp))
  exact ⟨_, rfl, ⟨rfl, .inr ⟨w1.heap.size, 1, _, rfl, hB.size, heap_alloc_new _ _, Nat.le_refl _, by decide, rfl, rfl⟩⟩, hB.alloc hB.size _⟩
set_option maxHeartbeats 2000000 in
theorem first_2 (w : World) (TO : TabO w) (n a b th : Int) (hR : RightP 2 n a b th) :
    Calls Tryz.prog 31 #[.agg #[.int .i64 2, .int .i64 n, .int .i64 a, .int .i64 b], .int .i64 th] w (FirstOk w [0]) := by
  have hmk : ∀ W, (Instr.makeSlice 44 (.int .i64 1) (.int .i64 1)).run Tryz.prog W = .ok (.slice (some ⟨W.heap.size, 0, none⟩) 1 1) (W.alloc (.cells #[.int .u32 0] 41)) := fun _ => by kernel_rfl
  have hr : ∀ W, TabO W → Calls Tryz.prog 55 #[.agg #[.int .i64 2, .int .i64 n, .int .i64 a, .int .i64 b], .int .i64 th] W fun e w' => e = .returned (.bool true) ∧ Below W.heap.size W w' := fun W T => (right_any W T 2 n a b th).mono (fun e w' h => ⟨by rw [h.1, decide_eq_true hR], h.2⟩)
  have hb0 := (Below.refl w.heap.size w).alloc (Nat.le_refl _) (.cells #[.int .i64 2, .int .i64 n, .int .i64 a, .int .i64 b] 26)
  have hrr := hr _ (TO.below hb0 (Nat.le_refl _))
  have kb : ∀ w1, Below (w.alloc (.cells #[.int .i64 2, .int .i64 n, .int .i64 a, .int .i64 b] 26)).heap.size (w.alloc (.cells #[.int .i64 2, .int .i64 n, .int .i64 a, .int .i64 b] 26)) w1 → w1.cell? ⟨w.heap.size, 0, none⟩ = some (.int .i64 2) := fun w1 h => cell_of_row w1 w.heap.size 0 _ _ _ ((h.block w.heap.size (by simp)).trans (heap_alloc_new _ _))
  clear hr TO
  go_enter Tryz.func31, Tryz.ntmps31
  go_wp2_with (go_at_call 55; refine hrr.mono ?_; rintro r w1 ⟨rfl, hb1⟩; have k0 := kb _ hb1)
  go_ret
  have hB := hb0.trans (hb1.mono (by simp))
  exact ⟨_, rfl, ⟨rfl, .inr ⟨w1.heap.size, 1, _, rfl, hB.size, heap_alloc_new _ _, Nat.le_refl _, by decide, rfl, rfl⟩⟩, hB.alloc hB.size _⟩
set_option maxHeartbeats 2000000 in
theorem first_3 (w : World) (TO : TabO w) (n a b th : Int) (hR : RightP 3 n a b th) :
    Calls Tryz.prog 31 #[.agg #[.int .i64 3, .int .i64 n, .int .i64 a, .int .i64 b], .int .i64 th] w (FirstOk w [0, 0, 0]) := by
  have hmk : ∀ W, (Instr.makeSlice 44 (.int .i64 3) (.int .i64 3)).run Tryz.prog W = .ok (.slice (some ⟨W.heap.size, 0, none⟩) 3 3) (W.alloc (.cells #[.int .u32 0, .int .u32 0, .int .u32 0] 41)) := fun _ => by kernel_rfl
  have hr : ∀ W, TabO W → Calls Tryz.prog 55 #[.agg #[.int .i64 3, .int .i64 n, .int .i64 a, .int .i64 b], .int .i64 th] W fun e w' => e = .returned (.bool true) ∧ Below W.heap.size W w' := fun W T => (right_any W T 3 n a b th).mono (fun e w' h => ⟨by rw [h.1, decide_eq_true hR], h.2⟩)
  have hb0 := (Below.refl w.heap.size w).alloc (Nat.le_refl _) (.cells #[.int .i64 3, .int .i64 n, .int .i64 a, .int .i64 b] 26)
  have hrr := hr _ (TO.below hb0 (Nat.le_refl _))
  have kb : ∀ w1, Below (w.alloc (.cells #[.int .i64 3, .int .i64 n, .int .i64 a, .int .i64 b] 26)).heap.size (w.alloc (.cells #[.int .i64 3, .int .i64 n, .int .i64 a, .int .i64 b] 26)) w1 → w1.cell? ⟨w.heap.size, 0, none⟩ = some (.int .i64 3) := fun w1 h => cell_of_row w1 w.heap.size 0 _ _ _ ((h.block w.heap.size (by simp)).trans (heap_alloc_new _ _))
  clear hr TO
  go_enter Tryz.func31, Tryz.ntmps31
  go_wp2_with (go_at_call 55; refine hrr.mono ?_; rintro r w1 ⟨rfl, hb1⟩; have k0 := kb _ hb1)
  go_ret
  have hB := hb0.trans (hb1.mono (by simp))
  exact ⟨_, rfl, ⟨rfl, .inr ⟨w1.heap.size, 3, _, rfl, hB.size, heap_alloc_new _ _, Nat.le_refl _, by decide, rfl, rfl⟩⟩, hB.alloc hB.size _⟩
set_option maxHeartbeats 2000000 in
theorem first_6 (w : World) (TO : TabO w) (n a b th : Int) (hR : RightP 6 n a b th) :
    Calls Tryz.prog 31 #[.agg #[.int .i64 6, .int .i64 n, .int .i64 a, .int .i64 b], .int .i64 th] w (FirstOk w [0, 0, 0, 0]) := by
  have hmk : ∀ W, (Instr.makeSlice 44 (.int .i64 4) (.int .i64 4)).run Tryz.prog W = .ok (.slice (some ⟨W.heap.size, 0, none⟩) 4 4) (W.alloc (.cells #[.int .u32 0, .int .u32 0, .int .u32 0, .int .u32 0] 41)) := fun _ => by kernel_rfl
  have hr : ∀ W, TabO W → Calls Tryz.prog 55 #[.agg #[.int .i64 6, .int .i64 n, .int .i64 a, .int .i64 b], .int .i64 th] W fun e w' => e = .returned (.bool true) ∧ Below W.heap.size W w' := fun W T => (right_any W T 6 n a b th).mono (fun e w' h => ⟨by rw [h.1, decide_eq_true hR], h.2⟩)
  have hb0 := (Below.refl w.heap.size w).alloc (Nat.le_refl _) (.cells #[.int .i64 6, .int .i64 n, .int .i64 a, .int .i64 b] 26)
  have hrr := hr _ (TO.below hb0 (Nat.le_refl _))
  have kb : ∀ w1, Below (w.alloc (.cells #[.int .i64 6, .int .i64 n, .int .i64 a, .int .i64 b] 26)).heap.size (w.alloc (.cells #[.int .i64 6, .int .i64 n, .int .i64 a, .int .i64 b] 26)) w1 → w1.cell? ⟨w.heap.size, 0, none⟩ = some (.int .i64 6) := fun w1 h => cell_of_row w1 w.heap.size 0 _ _ _ ((h.block w.heap.size (by simp)).trans (heap_alloc_new _ _))
  clear hr TO
  go_enter Tryz.func31, Tryz.ntmps31
  go_wp2_with (go_at_call 55; refine hrr.mono ?_; rintro r w1 ⟨rfl, hb1⟩; have k0 := kb _ hb1)
  go_ret
  have hB := hb0.trans (hb1.mono (by simp))
  exact ⟨_, rfl, ⟨rfl, .inr ⟨w1.heap.size, 4, _, rfl, hB.size, heap_alloc_new _ _, Nat.le_refl _, by decide, rfl, rfl⟩⟩, hB.alloc hB.size _⟩
set_option maxHeartbeats 2000000 in
theorem first_7 (w : World) (TO : TabO w) (n a b th : Int) (hR : RightP 7 n a b th) :
    Calls Tryz.prog 31 #[.agg #[.int .i64 7, .int .i64 n, .int .i64 a, .int .i64 b], .int .i64 th] w (FirstOk w [0, 0, 0]) := by
  have hmk : ∀ W, (Instr.makeSlice 44 (.int .i64 3) (.int .i64 3)).run Tryz.prog W = .ok (.slice (some ⟨W.heap.size, 0, none⟩) 3 3) (W.alloc (.cells #[.int .u32 0, .int .u32 0, .int .u32 0] 41)) := fun _ => by kernel_rfl
  have hr : ∀ W, TabO W → Calls Tryz.prog 55 #[.agg #[.int .i64 7, .int .i64 n, .int .i64 a, .int .i64 b], .int .i64 th] W fun e w' => e = .returned (.bool true) ∧ Below W.heap.size W w' := fun W T => (right_any W T 7 n a b th).mono (fun e w' h => ⟨by rw [h.1, decide_eq_true hR], h.2⟩)
  have hb0 := (Below.refl w.heap.size w).alloc (Nat.le_refl _) (.cells #[.int .i64 7, .int .i64 n, .int .i64 a, .int .i64 b] 26)
  have hrr := hr _ (TO.below hb0 (Nat.le_refl _))
  have kb : ∀ w1, Below (w.alloc (.cells #[.int .i64 7, .int .i64 n, .int .i64 a, .int .i64 b] 26)).heap.size (w.alloc (.cells #[.int .i64 7, .int .i64 n, .int .i64 a, .int .i64 b] 26)) w1 → w1.cell? ⟨w.heap.size, 0, none⟩ = some (.int .i64 7) := fun w1 h => cell_of_row w1 w.heap.size 0 _ _ _ ((h.block w.heap.size (by simp)).trans (heap_alloc_new _ _))
  clear hr TO
  go_enter Tryz.func31, Tryz.ntmps31
  go_wp2_with (go_at_call 55; refine hrr.mono ?_; rintro r w1 ⟨rfl, hb1⟩; have k0 := kb _ hb1)
  go_ret
  have hB := hb0.trans (hb1.mono (by simp))
  exact ⟨_, rfl, ⟨rfl, .inr ⟨w1.heap.size, 3, _, rfl, hB.size, heap_alloc_new _ _, Nat.le_refl _, by decide, rfl, rfl⟩⟩, hB.alloc hB.size _⟩
set_option maxHeartbeats 2000000 in
theorem first_8 (w : World) (TO : TabO w) (n a b th : Int) (hR : RightP 8 n a b th) :
    Calls Tryz.prog 31 #[.agg #[.int .i64 8, .int .i64 n, .int .i64 a, .int .i64 b], .int .i64 th] w (FirstOk w [0, 0, 0, 0]) := by
  have hmk : ∀ W, (Instr.makeSlice 44 (.int .i64 4) (.int .i64 4)).run Tryz.prog W = .ok (.slice (some ⟨W.heap.size, 0, none⟩) 4 4) (W.alloc (.cells #[.int .u32 0, .int .u32 0, .int .u32 0, .int .u32 0] 41)) := fun _ => by kernel_rfl
  have hr : ∀ W, TabO W → Calls Tryz.prog 55 #[.agg #[.int .i64 8, .int .i64 n, .int .i64 a, .int .i64 b], .int .i64 th] W fun e w' => e = .returned (.bool true) ∧ Below W.heap.size W w' := fun W T => (right_any W T 8 n a b th).mono (fun e w' h => ⟨by rw [h.1, decide_eq_true hR], h.2⟩)
  have hb0 := (Below.refl w.heap.size w).alloc (Nat.le_refl _) (.cells #[.int .i64 8, .int .i64 n, .int .i64 a, .int .i64 b] 26)
  have hrr := hr _ (TO.below hb0 (Nat.le_refl _))
  have kb : ∀ w1, Below (w.alloc (.cells #[.int .i64 8, .int .i64 n, .int .i64 a, .int .i64 b] 26)).heap.size (w.alloc (.cells #[.int .i64 8, .int .i64 n, .int .i64 a, .int .i64 b] 26)) w1 → w1.cell? ⟨w.heap.size, 0, none⟩ = some (.int .i64 8) := fun w1 h => cell_of_row w1 w.heap.size 0 _ _ _ ((h.block w.heap.size (by simp)).trans (heap_alloc_new _ _))
  clear hr TO
  go_enter Tryz.func31, Tryz.ntmps31
  go_wp2_with (go_at_call 55; refine hrr.mono ?_; rintro r w1 ⟨rfl, hb1⟩; have k0 := kb _ hb1)
  go_ret
  have hB := hb0.trans (hb1.mono (by simp))
  exact ⟨_, rfl, ⟨rfl, .inr ⟨w1.heap.size, 4, _, rfl, hB.size, heap_alloc_new _ _, Nat.le_refl _, by decide, rfl, rfl⟩⟩, hB.alloc hB.size _⟩
set_option maxHeartbeats 2000000 in
theorem first_10 (w : World) (TO : TabO w) (n a b th : Int) (hR : RightP 10 n a b th) :
    Calls Tryz.prog 31 #[.agg #[.int .i64 10, .int .i64 n, .int .i64 a, .int .i64 b], .int .i64 th] w (FirstOk w [0, 0]) := by
  have hmk : ∀ W, (Instr.makeSlice 44 (.int .i64 2) (.int .i64 2)).run Tryz.prog W = .ok (.slice (some ⟨W.heap.size, 0, none⟩) 2 2) (W.alloc (.cells #[.int .u32 0, .int .u32 0] 41)) := fun _ => by kernel_rfl
  have hr : ∀ W, TabO W → Calls Tryz.prog 55 #[.agg #[.int .i64 10, .int .i64 n, .int .i64 a, .int .i64 b], .int .i64 th] W fun e w' => e = .returned (.bool true) ∧ Below W.heap.size W w' := fun W T => (right_any W T 10 n a b th).mono (fun e w' h => ⟨by rw [h.1, decide_eq_true hR], h.2⟩)
  have hb0 := (Below.refl w.heap.size w).alloc (Nat.le_refl _) (.cells #[.int .i64 10, .int .i64 n, .int .i64 a, .int .i64 b] 26)
  have hrr := hr _ (TO.below hb0 (Nat.le_refl _))
  have kb : ∀ w1, Below (w.alloc (.cells #[.int .i64 10, .int .i64 n, .int .i64 a, .int .i64 b] 26)).heap.size (w.alloc (.cells #[.int .i64 10, .int .i64 n, .int .i64 a, .int .i64 b] 26)) w1 → w1.cell? ⟨w.heap.size, 0, none⟩ = some (.int .i64 10) := fun w1 h => cell_of_row w1 w.heap.size 0 _ _ _ ((h.block w.heap.size (by simp)).trans (heap_alloc_new _ _))
  clear hr TO
  go_enter Tryz.func31, Tryz.ntmps31
  go_wp2_with (go_at_call 55; refine hrr.mono ?_; rintro r w1 ⟨rfl, hb1⟩; have k0 := kb _ hb1)
  go_ret
  have hB := hb0.trans (hb1.mono (by simp))
  exact ⟨_, rfl, ⟨rfl, .inr ⟨w1.heap.size, 2, _, rfl, hB.size, heap_alloc_new _ _, Nat.le_refl _, by decide, rfl, rfl⟩⟩, hB.alloc hB.size _⟩
end Go.Proofs.YtackbadmcgjncaaGreatDoor.As
