/- The walks of the package obj: which objects there may be. -/
import Derived.Test.YtackbadmcgjncaaGreatDoorObjA
set_option linter.unusedVariables false
namespace Go.Proofs.YtackbadmcgjncaaGreatDoor.As
open Go.RowKit

set_option linter.unusedSimpArgs false in
set_option maxHeartbeats 40000000 in
theorem right_any (w : World) (T : TabO w) (k n a b th : Int) : Calls Tryz.prog 55 #[.agg #[.int .i64 k, .int .i64 n, .int .i64 a, .int .i64 b], .int .i64 th] w fun e w' => e = .returned (.bool (decide (RightP k n a b th))) ∧ Below w.heap.size w w' := by
  obtain ⟨r, hr⟩ : ∃ r, r = decide (RightP k n a b th) := ⟨_, rfl⟩
  rw [← hr]
  have HR := Lib.hid hr
  clear hr
  have ha : ∀ o, Below w.heap.size w (w.alloc o) := fun o => (Below.refl _ w).alloc (Nat.le_refl _) o
  have TA : ∀ o, TabO (w.alloc o) := fun o => T.below (ha o) (Nat.le_refl _)
  by_cases hth : 1 ≤ th ∧ th ≤ 8
  · have f1 : IntKind.i64.wrap (th - 1) = th - 1 := by rw [IntKind.wrap_i64]; omega
    go_enter Tryz.func55, Tryz.ntmps55
    go_wp2_with (first
      | (go_at_call 97; refine (in_any _ _ _ _).mono ?_; rintro e w1 ⟨rfl, rfl⟩)
      | (go_at_call 98; refine (kname_any _ (TA _) _).mono ?_; rintro e w1 ⟨⟨s, rfl, hs⟩, rfl⟩; have hs0 := kname_iff hs; clear hs))
    all_goals go_ret
    all_goals refine ⟨congrArg (fun x => Ending.returned (.bool x)) ?_, ha _⟩
    all_goals rw [HR.out]
    all_goals clear HR TA ha f1 T
    all_goals rw [Bool.eq_iff_iff, decide_eq_true_iff (p := RightP _ _ _ _ _)]
    all_goals unfold RightP
    all_goals simp only [beq_iff_eq, beq_eq_false_iff_ne, ne_eq, decide_eq_true_eq, Bool.false_eq_true, true_iff, false_iff, Bool.or_eq_true, Bool.and_eq_true, bne_iff_ne, bne_eq_false_iff_eq, Bool.not_eq_true', decide_eq_false_iff_not] at *
    all_goals omega
  · have hv : r = false := by rw [HR.out]; exact decide_eq_false (by unfold RightP; omega)
    subst hv
    go_enter Tryz.func55, Tryz.ntmps55
    by_cases h1 : th < 1
    · have d1 : decide (th < 1) = true := decide_eq_true h1
      go_wp2_with fail
      go_ret
      exact ⟨rfl, ha _⟩
    · have h2 : 8 < th := by omega
      have d1 : decide (th < 1) = false := decide_eq_false h1
      have d2 : decide (8 < th) = true := decide_eq_true h2
      go_wp2_with fail
      go_ret
      exact ⟨rfl, ha _⟩
end Go.Proofs.YtackbadmcgjncaaGreatDoor.As
