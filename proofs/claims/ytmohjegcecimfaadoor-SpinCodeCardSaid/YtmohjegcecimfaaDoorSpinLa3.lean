/- The walks of the package deadlatchlaw15: the law on code, whatever is asked. -/
import Derived.Test.YtmohjegcecimfaaDoorSpinLa2
set_option linter.unusedVariables false
namespace Go.Proofs.YtmohjegcecimfaaDoor.As
open Go.RowKit

theorem spinLaw_any (w : World) (TI : TabI w) (TO : TabO w) (k n a b c th t : Int) (base : Nat) (ar : Int) (hb : base ≤ 65535) :
    Calls Tryd.prog 3 #[askV k n a b c th t base ar] w fun e w' => e = .returned (.bool true) ∧ Below w.heap.size w w' := by
  by_cases h : AskP k n a b c th t ∧ k ≤ 3
  · obtain ⟨hA, hk⟩ := h
    have hA2 := hA
    obtain ⟨⟨h1, h2, h3⟩, h4, h5, h6⟩ := hA2
    obtain ⟨tn, rfl⟩ : ∃ tn : Nat, t = tn := ⟨t.toNat, by omega⟩
    have hk1 : 1 ≤ k := by omega
    have hc : c = 1 ∨ c = 2 := by unfold MayP at h6; omega
    have hkk : k = 1 ∨ k = 2 ∨ k = 3 := by omega
    have htn : tn ≤ 1000 := by omega
    rcases hc with rfl | rfl
    · rcases hkk with rfl | rfl | rfl
      · exact spinLaw_yes w TI TO _ _ _ _ _ _ _ _ _ srcTas (linTas base tn) hA hk hb htn (fun w TI TO => spinTas_any w TI TO n a b th ar tn base hA (by omega) (by omega)) text15_tas (parseTas (by omega) (by omega)) (by decide) (by decide +kernel) (Nat.le_of_ble_eq_true rfl)
      · exact spinLaw_yes w TI TO _ _ _ _ _ _ _ _ _ srcTtas (linTtas base tn) hA hk hb htn (fun w TI TO => spinTtas_any w TI TO n a b th ar tn base hA (by omega) (by omega)) text15_ttas (parseTtas (by omega) (by omega)) (by decide) (by decide +kernel) (Nat.le_of_ble_eq_true rfl)
      · exact spinLaw_yes w TI TO _ _ _ _ _ _ _ _ _ srcTick (linTick base tn) hA hk hb htn (fun w TI TO => spinTick_any w TI TO n a b th ar tn base hA (by omega) (by omega)) text15_tick (parseTick (by omega) (by omega)) (by decide) (by decide +kernel) (Nat.le_of_ble_eq_true rfl)
    · rcases hkk with rfl | rfl | rfl
      · exact spinLaw_yes w TI TO _ _ _ _ _ _ _ _ _ srcRel (linRel base tn) hA hk hb htn (fun w TI TO => spinRel1_any w TI TO n a b th ar tn base hA (by omega) (by omega)) text15_rel1 (parseRel (by omega) (by omega)) (by decide) (by decide +kernel) (Nat.le_of_ble_eq_true rfl)
      · exact spinLaw_yes w TI TO _ _ _ _ _ _ _ _ _ srcRel (linRel base tn) hA hk hb htn (fun w TI TO => spinRel2_any w TI TO n a b th ar tn base hA (by omega) (by omega)) text15_rel2 (parseRel (by omega) (by omega)) (by decide) (by decide +kernel) (Nat.le_of_ble_eq_true rfl)
      · exact spinLaw_yes w TI TO _ _ _ _ _ _ _ _ _ srcPass (linPass base tn) hA hk hb htn (fun w TI TO => spinPass_any w TI TO n a b th ar tn base hA (by omega) (by omega)) text15_pass (parsePass (by omega) (by omega)) (by decide) (by decide +kernel) (Nat.le_of_ble_eq_true rfl)
  · exact spinLaw_no w TI TO k n a b c th t base ar h hb
end Go.Proofs.YtmohjegcecimfaaDoor.As
