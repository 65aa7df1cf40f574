/- The walks of the package deadlatchref14: which calls may be asked. -/
import Derived.Test.YtmohjegcecimfaaDoorObjA
set_option linter.unusedVariables false
namespace Go.Proofs.YtmohjegcecimfaaDoor.As
open Go.RowKit

/-- May a call be asked of a kind? -/
def MayP (k c : Int) : Prop := (k = 9 ∧ 1 ≤ c ∧ c ≤ 4) ∨ (k = 12 ∧ 5 ≤ c ∧ c ≤ 8) ∨ (k = 13 ∧ c = 9) ∨ (k = 14 ∧ 1 ≤ c ∧ c ≤ 3) ∨ (k = 15 ∧ (c = 9 ∨ c = 10)) ∨ (1 ≤ k ∧ k ≤ 11 ∧ k ≠ 9 ∧ (c = 1 ∨ c = 2))
instance (k c : Int) : Decidable (MayP k c) := by unfold MayP; infer_instance
set_option maxHeartbeats 4000000 in
theorem refMay_any (w : World) (k c : Int) : Calls Tryd.prog 41 #[.int .i64 k, .int .i64 c] w fun e w' => e = .returned (.bool (decide (MayP k c))) ∧ w' = w := by
  obtain ⟨r, hr⟩ : ∃ r, r = decide (MayP k c) := ⟨_, rfl⟩
  rw [← hr]
  have HR := Lib.hid hr
  clear hr
  go_enter Tryd.func41, Tryd.ntmps41
  go_wp2_with fail
  all_goals (try go_wp2_with fail)
  all_goals go_ret
  all_goals refine ⟨congrArg (fun x => Ending.returned (.bool x)) ?_, rfl⟩
  all_goals rw [HR.out]
  all_goals clear HR
  all_goals rw [Bool.eq_iff_iff, decide_eq_true_iff (p := MayP _ _)]
  all_goals unfold MayP
  all_goals simp only [beq_iff_eq, beq_eq_false_iff_ne, ne_eq, decide_eq_true_eq, Bool.false_eq_true, true_iff, false_iff, Bool.or_eq_true] at *
  all_goals omega
end Go.Proofs.YtmohjegcecimfaaDoor.As
