/- The walks of the package deadlatchlaw18: the law on code, whatever is asked. -/
import Derived.Test.YtmohjegcecimfaaDoorBiasLaw
set_option linter.unusedVariables false
set_option linter.unusedSimpArgs false
namespace Go.Proofs.YtmohjegcecimfaaDoor.As
open Go.RowKit

set_option maxHeartbeats 4000000 in
theorem law18_no (w : World) (TI : TabI w) (TO : TabO w) (k n a b c th t : Int) (base : Nat) (ar : Int) (hn : ¬ (AskP k n a b c th t ∧ k = 8)) (hb : base ≤ 65535) :
    Calls Tryd.prog 5 #[askV k n a b c th t base ar] w fun e w' => e = .returned (.bool true) ∧ Below w.heap.size w w' := by
  have q1 : IntKind.u32.wrap (base : Int) = base := by rw [IntKind.wrap_u32]; omega
  have ha : ∀ o, Below w.heap.size w (w.alloc o) := fun o => (Below.refl _ w).alloc (Nat.le_refl _) o
  have TOA : ∀ o, TabO (w.alloc o) := fun o => TO.below (ha o) (Nat.le_refl _)
  have TIA : ∀ o, TabI (w.alloc o) := fun o => TI.below (ha o) (Nat.le_refl _)
  have hcode := fun w TO => no18_any w TO k n a b c th t base ar hn
  have hd : AskP k n a b c th t → ¬ (k = 8) := fun e h => hn ⟨e, h⟩
  clear TI TO hn
  go_enter Tryd.func5, Tryd.ntmps5
  go_wp2_with fail
  refine (awake18_any _ (TIA _) (TOA _)).mono ?_; rintro e w1 ⟨rfl, hb1⟩
  have hx := new_keep hb1
  have TO1 := (TOA _).below hb1 (Nat.le_refl _)
  have hB1 := (ha _).trans (hb1.mono (ha _).size)
  obtain ⟨c0, c1, c2, c3, c4, c5, c6, c7, c8⟩ := cells9 hx
  go_wp2_with fail
  refine (hcode w1 TO1).mono ?_; rintro e w2 ⟨rfl, hb2⟩
  have hx2 := obj_keep hx hb2
  obtain ⟨d0, d1, d2, d3, d4, d5, d6, d7, d8⟩ := cells9 hx2
  go_wp2_with fail
  refine (may15_any w2 _ _ _ _ _ _ _).mono ?_; rintro e w4 ⟨rfl, hb4⟩
  have hx4 := obj_keep hx2 hb4
  obtain ⟨f0, f1, f2, f3, f4, f5, f6, f7, f8⟩ := cells9 hx4
  clear c0 c1 c2 c3 c4 c5 c6 c7 c8 d0 d1 d2 d3 d4 d5 d6 d7 d8
  have hB2 := hB1.trans (hb2.mono hB1.size)
  have hB4 := hB2.trans (hb4.mono hB2.size)
  by_cases hA : AskP k n a b c th t
  · have dA : decide (AskP k n a b c th t) = true := decide_eq_true hA
    have d0 := hd hA
    have d8 : (k == 8) = false := by simp [d0]
    have m8 : (k != 8) = true := by simp [d0]
    clear hd d0
    go_wp2_with fail
    go_ret
    exact ⟨rfl, hB4⟩
  · have dA : decide (AskP k n a b c th t) = false := decide_eq_false hA
    clear hd
    go_wp2_with fail
    go_ret
    exact ⟨rfl, hB4⟩

theorem biasLaw_any (w : World) (TI : TabI w) (TO : TabO w) (k n a b c th t : Int) (base : Nat) (ar : Int) (hb : base ≤ 65535) :
    Calls Tryd.prog 5 #[askV k n a b c th t base ar] w fun e w' => e = .returned (.bool true) ∧ Below w.heap.size w w' := by
  by_cases h : AskP k n a b c th t ∧ k = 8
  · obtain ⟨hA, rfl⟩ := h
    have hA2 := hA
    obtain ⟨⟨h1, h2, h3⟩, h4, h5, h6⟩ := hA2
    obtain ⟨tn, rfl⟩ : ∃ tn : Nat, t = tn := ⟨t.toNat, by omega⟩
    have hc : c = 1 ∨ c = 2 := by unfold MayP at h6; omega
    have htn : tn ≤ 1000 := by omega
    by_cases he : (tn : Int) = a
    · subst he
      rcases hc with rfl | rfl
      · exact law18_own w TI TO _ _ _ _ _ _ _ srcBiasOwn (linBiasOwn base tn) hA hb htn (fun w TI TO => codeBiasOwn_any w TI TO n b th ar tn base hA (by omega) (by omega)) text18_own (parseBiasOwn (by omega) (by omega)) (by decide) (by decide +kernel) (Nat.le_of_ble_eq_true rfl)
      · exact law18_own w TI TO _ _ _ _ _ _ _ srcBiasLeave (linBiasLeave base tn) hA hb htn (fun w TI TO => codeBiasLeave_any w TI TO n b th ar tn base hA (by omega) (by omega)) text18_leave (parseBiasLeave (by omega) (by omega)) (by decide) (by decide +kernel) (Nat.le_of_ble_eq_true rfl)
    · have hf : ((tn : Int) == a) = false := by simp [he]
      rcases hc with rfl | rfl
      · exact law18_other w TI TO _ _ _ _ _ _ _ _ srcBiasOther (linBiasOther base tn) hA hb htn (fun w TI TO => codeBiasOther_any w TI TO n a b th ar tn base hA (by omega) (by omega) hf) text18_other (parseBiasOther (by omega) (by omega)) (by decide) (by decide +kernel) (Nat.le_of_ble_eq_true rfl) hf
      · exact law18_other w TI TO _ _ _ _ _ _ _ _ srcBiasOut (linBiasOut base tn) hA hb htn (fun w TI TO => codeBiasOut_any w TI TO n a b th ar tn base hA (by omega) (by omega) hf) text18_out (parseBiasOut (by omega) (by omega)) (by decide) (by decide +kernel) (Nat.le_of_ble_eq_true rfl) hf
  · exact law18_no w TI TO k n a b c th t base ar h hb

end Go.Proofs.YtmohjegcecimfaaDoor.As
