/- The walks of the package deadlatchlaw15: the law on code, where there is none. -/
import Derived.Test.YtmohjegcecimfaaDoorSpinLaw
set_option linter.unusedVariables false
namespace Go.Proofs.YtmohjegcecimfaaDoor.As
open Go.RowKit

set_option maxHeartbeats 4000000 in
theorem spinLaw_no (w : World) (TI : TabI w) (TO : TabO w) (k n a b c th t : Int) (base : Nat) (ar : Int) (hn : ¬ (AskP k n a b c th t ∧ k ≤ 3)) (hb : base ≤ 65535) :
    Calls Tryd.prog 3 #[askV k n a b c th t base ar] w fun e w' => e = .returned (.bool true) ∧ Below w.heap.size w w' := by
  have q1 : IntKind.u32.wrap (base : Int) = base := by rw [IntKind.wrap_u32]; omega
  have ha : ∀ o, Below w.heap.size w (w.alloc o) := fun o => (Below.refl _ w).alloc (Nat.le_refl _) o
  have TOA : ∀ o, TabO (w.alloc o) := fun o => TO.below (ha o) (Nat.le_refl _)
  have TIA : ∀ o, TabI (w.alloc o) := fun o => TI.below (ha o) (Nat.le_refl _)
  have hcode := fun w TO => spinNo_any w TO k n a b c th t base ar hn
  have hd : AskP k n a b c th t → decide (3 < k) = true := fun e => decide_eq_true (by
    have : ¬ k ≤ 3 := fun h => hn ⟨e, h⟩
    omega)
  clear TI TO hn
  go_enter Tryd.func3, Tryd.ntmps3
  go_wp2_with fail
  refine (awake15_any _ (TIA _) (TOA _)).mono ?_; rintro e w1 ⟨rfl, hb1⟩
  have hx := new_keep hb1
  have TO1 := (TOA _).below hb1 (Nat.le_refl _)
  have hB1 := (ha _).trans (hb1.mono (ha _).size)
  obtain ⟨c0, c1, c2, c3, c4, c5, c6, c7, c8⟩ := cells9 hx
  go_wp2_with fail
  refine (hcode w1 TO1).mono ?_; rintro e w2 ⟨rfl, hb2⟩
  have hx2 := obj_keep hx hb2
  obtain ⟨d0, d1, d2, d3, d4, d5, d6, d7, d8⟩ := cells9 hx2
  have TO2 := TO1.below hb2 (Nat.le_refl _)
  go_wp2_with fail
  refine (may15_any w2 _ _ _ _ _ _ _).mono ?_; rintro e w3 ⟨rfl, hb3⟩
  have hx3 := obj_keep hx2 hb3
  obtain ⟨e0, e1, e2, e3, e4, e5, e6, e7, e8⟩ := cells9 hx3
  have TO3 := TO2.below hb3 (Nat.le_refl _)
  clear c0 c1 c2 c3 c4 c5 c6 c7 c8 d0 d1 d2 d3 d4 d5 d6 d7 d8
  go_wp2_with fail
  refine (spinMay_any w3 TO3 _ _ _ _ _ _ _).mono ?_; rintro e w4 ⟨rfl, hb4⟩
  have hx4 := obj_keep hx3 hb4
  obtain ⟨f0, f1, f2, f3, f4, f5, f6, f7, f8⟩ := cells9 hx4
  have hB2 := hB1.trans (hb2.mono hB1.size)
  have hB3 := hB2.trans (hb3.mono hB2.size)
  have hB4 := hB3.trans (hb4.mono hB3.size)
  by_cases hA : AskP k n a b c th t
  · have dA : decide (AskP k n a b c th t) = true := decide_eq_true hA
    have d3 := hd hA
    clear hd
    go_wp2_with fail
    go_ret
    exact ⟨rfl, hB4⟩
  · have dA : decide (AskP k n a b c th t) = false := decide_eq_false hA
    clear hd
    go_wp2_with fail
    go_ret
    exact ⟨rfl, hB4⟩
end Go.Proofs.YtmohjegcecimfaaDoor.As
