/- The walks of the package spin: no code. -/
import Derived.Test.YtmohjegcecimfaaDoorBld
set_option linter.unusedVariables false
namespace Go.Proofs.YtmohjegcecimfaaDoor.As
open Go.RowKit

def NoCode (w : World) (e : Ending) (w' : World) : Prop := e = .returned (.tuple #[.slice none 0 0, .bool false]) ∧ Below w.heap.size w w'
set_option maxHeartbeats 4000000 in
theorem spinNo_any (w : World) (TO : TabO w) (k n a b c th t : Int) (base ar : Int) (h : ¬ (AskP k n a b c th t ∧ k ≤ 3)) :
    Calls Tryd.prog 10 #[.agg #[.int .i64 k, .int .i64 n, .int .i64 a, .int .i64 b], .int .i64 c, .int .i64 th, .int .i64 t, .int .u32 base, .int .u32 ar] w (NoCode w) := by
  have ha : ∀ o, Below w.heap.size w (w.alloc o) := fun o => (Below.refl _ w).alloc (Nat.le_refl _) o
  have TA : ∀ o, TabO (w.alloc o) := fun o => TO.below (ha o) (Nat.le_refl _)
  by_cases h1 : k < 1
  · have d1 : decide (k < 1) = true := decide_eq_true h1
    clear h
    go_enter Tryd.func10, Tryd.ntmps10
    go_wp2_with fail
    go_ret2
    exact ⟨rfl, ha _⟩
  · have d1 : decide (k < 1) = false := decide_eq_false h1
    by_cases h3 : 3 < k
    · have d3 : decide (3 < k) = true := decide_eq_true h3
      clear h
      go_enter Tryd.func10, Tryd.ntmps10
      go_wp2_with fail
      go_ret2
      exact ⟨rfl, ha _⟩
    · have d3 : decide (3 < k) = false := decide_eq_false h3
      have dA : decide (AskP k n a b c th t) = false := decide_eq_false (fun e => h ⟨e, by omega⟩)
      clear h
      go_enter Tryd.func10, Tryd.ntmps10
      go_wp2_with (go_at_call 12; refine (spinMay_any _ (TA _) _ _ _ _ _ _ _).mono ?_; rintro e w1 ⟨rfl, hb1⟩)
      go_ret2
      exact ⟨rfl, (ha _).trans (hb1.mono (ha _).size)⟩
end Go.Proofs.YtmohjegcecimfaaDoor.As
