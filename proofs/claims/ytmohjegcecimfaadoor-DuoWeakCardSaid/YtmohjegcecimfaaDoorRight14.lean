/- The walks of the package deadlatchref14: which objects there may be. -/
import Derived.Test.YtmohjegcecimfaaDoorObjA
import Derived.Test.YtmohjegcecimfaaDoorCode
import Derived.BigQuiet
import Derived.Deep.QuietTactic
set_option linter.unusedVariables false
namespace Go.Proofs.YtmohjegcecimfaaDoor.As
open Go.RowKit
set_option linter.unusedSimpArgs false in
set_option maxHeartbeats 40000000 in
theorem refRight_any (w : World) (k n a b th : Int) : Calls Tryd.prog 40 #[.agg #[.int .i64 k, .int .i64 n, .int .i64 a, .int .i64 b], .int .i64 th] w fun e w' => e = .returned (.bool (decide (RightP k n a b th))) ∧ Below w.heap.size w w' := by
  obtain ⟨r, hr⟩ : ∃ r, r = decide (RightP k n a b th) := ⟨_, rfl⟩
  rw [← hr]
  have HR := Lib.hid hr
  clear hr
  go_enter Tryd.func40, Tryd.ntmps40
  go_wp2_with fail
  all_goals (try go_quiet (fail))
  all_goals (try go_wp2_with fail)
  all_goals go_ret
  all_goals refine ⟨congrArg (fun x => Ending.returned (.bool x)) ?_, by first | exact bl_drewN ((Below.refl _ w).alloc (Nat.le_refl _) _) _ | exact (Below.refl _ w).alloc (Nat.le_refl _) _⟩
  all_goals rw [HR.out]
  all_goals clear HR
  all_goals rw [Bool.eq_iff_iff, decide_eq_true_iff (p := RightP _ _ _ _ _)]
  all_goals unfold RightP
  all_goals simp only [beq_iff_eq, beq_eq_false_iff_ne, ne_eq, decide_eq_true_eq, Bool.false_eq_true, true_iff, false_iff, Bool.or_eq_true, Bool.and_eq_true, bne_iff_ne, bne_eq_false_iff_eq] at *
  all_goals omega
end Go.Proofs.YtmohjegcecimfaaDoor.As
