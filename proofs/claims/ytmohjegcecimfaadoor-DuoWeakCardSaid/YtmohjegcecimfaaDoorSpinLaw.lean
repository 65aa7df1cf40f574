/- The walks of the package deadlatchlaw15: the law on code. -/
import Derived.Test.YtmohjegcecimfaaDoorSpinC
import Derived.Test.YtmohjegcecimfaaDoorSpinN
import Derived.Test.YtmohjegcecimfaaDoorSame
import Derived.Test.YtmohjegcecimfaaDoorCode15
import Derived.Deep.RegionHeld
set_option linter.unusedVariables false
namespace Go.Proofs.YtmohjegcecimfaaDoor.As
open Go.RowKit

theorem awake15_any (w : World) (TI : TabI w) (TO : TabO w) : Calls Tryd.prog 9 #[] w fun e w' => e = .returned (.bool true) ∧ Below w.heap.size w w' := by
  have hA : AskP 1 0 0 0 2 1 ((0 : Nat) : Int) := by decide
  have hc := fun w TI TO => spinRel1_any w TI TO 0 0 0 1 0 0 16 hA (by omega) (by omega)
  go_enter Tryd.func9, Tryd.ntmps9
  go_wp2_with fail
  refine (hc w TI TO).mono ?_; rintro e w1 ⟨⟨v, rfl, hv⟩, hb1⟩
  have h9 : (resL (linRel 16 0)).length = 9 := rfl
  rw [h9] at hv
  have hR := Rd.of_own hv
  obtain ⟨A, cap, rfl⟩ := hR.form
  obtain ⟨b1, o1, rfl, hlt1, c0, c1, c2, c3, c4⟩ := ins_cells (i := 8) (x := ⟨1, 7, 0, 0, 0⟩) hR rfl (by decide)
  clear hR hv h9 hc
  have x0 : w1.cell? ⟨b1, o1 + 40, none⟩ = some (.int .i64 1) := c0
  have x1 : w1.cell? ⟨b1, o1 + 40 + 1, none⟩ = some (.int .i64 7) := c1
  have x2 : w1.cell? ⟨b1, o1 + 40 + 2, none⟩ = some (.int .i64 0) := c2
  have x3 : w1.cell? ⟨b1, o1 + 40 + 3, none⟩ = some (.int .i64 0) := c3
  have x4 : w1.cell? ⟨b1, o1 + 40 + 4, none⟩ = some (.int .u32 0) := c4
  clear c0 c1 c2 c3 c4
  go_wp2_with fail
  go_ret
  exact ⟨rfl, hb1⟩
theorem cells9 {w : World} {g : Nat} {a b c d e f h i j : Value} {t : TypeId} (hx : w.heap[g]? = some (.cells #[a, b, c, d, e, f, h, i, j] t (0, 0))) :
    w.cell? ⟨g, 0, none⟩ = some a ∧ w.cell? ⟨g, 1, none⟩ = some b ∧ w.cell? ⟨g, 2, none⟩ = some c ∧ w.cell? ⟨g, 3, none⟩ = some d ∧ w.cell? ⟨g, 4, none⟩ = some e ∧ w.cell? ⟨g, 5, none⟩ = some f ∧ w.cell? ⟨g, 6, none⟩ = some h ∧ w.cell? ⟨g, 7, none⟩ = some i ∧ w.cell? ⟨g, 8, none⟩ = some j := by
  have c0 := cell_of_row w g 0 _ _ _ hx
  have c1 := cell_of_row w g 1 _ _ _ hx
  have c2 := cell_of_row w g 2 _ _ _ hx
  have c3 := cell_of_row w g 3 _ _ _ hx
  have c4 := cell_of_row w g 4 _ _ _ hx
  have c5 := cell_of_row w g 5 _ _ _ hx
  have c6 := cell_of_row w g 6 _ _ _ hx
  have c7 := cell_of_row w g 7 _ _ _ hx
  have c8 := cell_of_row w g 8 _ _ _ hx
  exact ⟨c0, c1, c2, c3, c4, c5, c6, c7, c8⟩
theorem askS {w : World} {g : Nat} {a b c d e f h i j : Value} {t : TypeId} (hx : w.heap[g]? = some (.cells #[a, b, c, d, e, f, h, i, j] t (0, 0))) :
    w.cell? ⟨g, 0, none⟩ = some a ∧ w.cell? ⟨g, 4, none⟩ = some e ∧ w.cell? ⟨g, 6, none⟩ = some h ∧ w.cell? ⟨g, 7, none⟩ = some i := by
  obtain ⟨c0, c1, c2, c3, c4, c5, c6, c7, c8⟩ := cells9 hx
  exact ⟨c0, c4, c6, c7⟩
abbrev askV (k n a b c th t : Int) (base ar : Int) : Value := .agg #[.int .i64 k, .int .i64 n, .int .i64 a, .int .i64 b, .int .i64 c, .int .i64 th, .int .i64 t, .int .u16 base, .int .u32 ar]
set_option maxHeartbeats 4000000 in
theorem spinLaw_yes (w : World) (TI : TabI w) (TO : TabO w) (k n a b c th ar : Int) (t base : Nat) (src : List B8) (lin : List Ln) (hA : AskP k n a b c th t) (hk : k ≤ 3) (hb : base ≤ 65535) (ht : t ≤ 1000)
    (hcode : ∀ w, TabI w → TabO w → Calls Tryd.prog 10 #[.agg #[.int .i64 k, .int .i64 n, .int .i64 a, .int .i64 b], .int .i64 c, .int .i64 th, .int .i64 t, .int .u32 base, .int .u32 ar] w (CodeOk w lin))
    (htext : ∀ w, Calls Tryd.prog 14 #[.int .i64 k, .int .i64 c] w (TextPost w (unl src)))
    (hp : parseB (fillB base t (unl src)) = (resL lin, 0, 0)) (h0 : unl src ≠ []) (hsz : (unl src).length ≤ 10000) (hlen : (resL lin).length ≤ 1000000) :
    Calls Tryd.prog 3 #[askV k n a b c th t base ar] w fun e w' => e = .returned (.bool true) ∧ Below w.heap.size w w' := by
  have dA : decide (AskP k n a b c th t) = true := decide_eq_true hA
  have dk : decide (3 < k) = false := decide_eq_false (by omega)
  have q1 : IntKind.u32.wrap (base : Int) = base := by rw [IntKind.wrap_u32]; omega
  have q2 : IntKind.i64.wrap (base : Int) = base := by rw [IntKind.wrap_i64]; omega
  have ha : ∀ o, Below w.heap.size w (w.alloc o) := fun o => (Below.refl _ w).alloc (Nat.le_refl _) o
  have TOA : ∀ o, TabO (w.alloc o) := fun o => TO.below (ha o) (Nat.le_refl _)
  have TIA : ∀ o, TabI (w.alloc o) := fun o => TI.below (ha o) (Nat.le_refl _)
  obtain ⟨N, hN⟩ : ∃ N, N = (resL lin).length := ⟨_, rfl⟩
  have hN6 : N ≤ 1000000 := by omega
  have HN := Lib.hid hN
  clear hN hlen
  clear hA TI TO
  go_enter Tryd.func3, Tryd.ntmps3
  go_wp2_with fail
  refine (awake15_any _ (TIA _) (TOA _)).mono ?_; rintro e w1 ⟨rfl, hb1⟩
  have hx := new_keep hb1
  have TI1 := (TIA _).below hb1 (Nat.le_refl _)
  have TO1 := (TOA _).below hb1 (Nat.le_refl _)
  have hB1 := (ha _).trans (hb1.mono (ha _).size)
  obtain ⟨c0, c1, c2, c3, c4, c5, c6, c7, c8⟩ := cells9 hx
  go_wp2_with fail
  refine (hcode w1 TI1 TO1).mono ?_; rintro e w2 ⟨⟨v, rfl, hv⟩, hb2⟩
  rw [← HN.out] at hv
  have hRv := Rd.of_own hv
  clear hv
  obtain ⟨A, cap, rfl⟩ := hRv.form
  have hx2 := obj_keep hx hb2
  obtain ⟨d0, d1, d2, d3, d4, d5, d6, d7, d8⟩ := cells9 hx2
  go_wp2_with fail
  have TO2 := TO1.below hb2 (Nat.le_refl _)
  refine (may15_any w2 _ _ _ _ _ _ _).mono ?_; rintro e w3 ⟨rfl, hb3⟩
  have hx3 := obj_keep hx2 hb3
  obtain ⟨e0, e1, e2, e3, e4, e5, e6, e7, e8⟩ := cells9 hx3
  have TO3 := TO2.below hb3 (Nat.le_refl _)
  clear c0 c1 c2 c3 c4 c5 c6 c7 c8 d0 d1 d2 d3 d4 d5 d6 d7 d8
  go_wp2_with fail
  refine (spinMay_any w3 TO3 _ _ _ _ _ _ _).mono ?_; rintro e w4 ⟨rfl, hb4⟩
  have hx4 := obj_keep hx3 hb4
  obtain ⟨f0, f1, f2, f3, f4, f5, f6, f7, f8⟩ := cells9 hx4
  clear e0 e3 e4 e5 e6 e7 e8
  go_wp2_with fail
  go_region_held (fun w' => w'.cell? ⟨w.heap.size, 0, none⟩ = some (.int .i64 k) ∧ w'.cell? ⟨w.heap.size, 4, none⟩ = some (.int .i64 c) ∧ w'.cell? ⟨w.heap.size, 6, none⟩ = some (.int .i64 t) ∧ w'.cell? ⟨w.heap.size, 7, none⟩ = some (.int .u16 base))
    (first | exact askS (obj_keep (obj_keep (w1 := w4.drew) hx4 hb5) hb6) | exact askS (obj_keep (w1 := w4.drew) hx4 hb5) | exact ⟨f0, f4, f6, f7⟩)
    (first
      | (go_at_call 14; refine (htext _).mono ?_; rintro e w5 ⟨⟨o, rfl, ho⟩, hb5⟩)
      | (go_at_call 13; refine (code15_any _ o base t (resL lin) (by rw [ho]; exact h0) (by rw [size_toList, ho]; exact hsz) (by omega) (by omega) (by rw [ho]; exact hp)).mono ?_; rintro e w6 ⟨⟨u, rfl, hu⟩, hb6⟩))
  go_wp2_with fail
  rw [← HN.out] at hu
  have hRu := Rd.of_own hu
  have hb5' : Below w4.heap.size w4 w5 := (bl_drew (Below.refl _ w4)).trans hb5
  have hRv6 := (((hRv.below hb3 (Nat.le_refl _)).below hb4 (Nat.le_refl _)).below hb5' (Nat.le_refl _)).below hb6 (Nat.le_refl _)
  have hB2 := hB1.trans (hb2.mono hB1.size)
  have hB3 := hB2.trans (hb3.mono hB2.size)
  have hB4 := hB3.trans (hb4.mono hB3.size)
  have hB5 := hB4.trans (hb5'.mono hB4.size)
  have hB6 := hB5.trans (hb6.mono hB5.size)
  refine (same15_any _ _ _ (resL lin) N HN.out.symm hRv6 hRu (by omega)).mono ?_; rintro e w7 ⟨rfl, m, rfl⟩
  go_wp2_with fail
  go_ret
  exact ⟨rfl, bl_drewN hB6 m⟩
end Go.Proofs.YtmohjegcecimfaaDoor.As
