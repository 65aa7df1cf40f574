/- The walks of the package spin: a call's code. -/
import Derived.Test.YtckmkaeopnnbbaaGreatDoorGp
import Derived.Test.YtckmkaeopnnbbaaGreatDoorGo
set_option linter.unusedVariables false
namespace Go.Proofs.YtckmkaeopnnbbaaGreatDoor.As
open Go.RowKit

set_option maxHeartbeats 4000000 in
theorem spinTas_any (w : World) (TI : TabI w) (TO : TabO w) (n a b th ar : Int) (t base : Nat) (hA : AskP 1 n a b 1 th t) (hb : base ≤ 100000) (ht : t ≤ 100000) :
  Calls Tryz.prog 38 #[.agg #[.int .i64 1, .int .i64 n, .int .i64 a, .int .i64 b], .int .i64 1, .int .i64 th, .int .i64 t, .int .u32 base, .int .u32 ar] w (CodeOk w (linTas base t)) := by
 have dA : decide (AskP 1 n a b 1 th t) = true := decide_eq_true hA
 have ha : ∀ o, Below w.heap.size w (w.alloc o) := fun o => (Below.refl _ w).alloc (Nat.le_refl _) o
 have TA : ∀ o, TabO (w.alloc o) := fun o => TO.below (ha o) (Nat.le_refl _)
 have e1 : IntKind.u32.wrap ((base : Int) + 0) = ((base + 0 : Nat) : Int) := by rw [IntKind.wrap_u32]; omega
 have eo : IntKind.u32.wrap (ownerI 1) = 0 := by decide
 go_enter Tryz.func38, Tryz.ntmps38
 go_wp2_with (go_at_call 60; refine (spinMay_any _ (TA _) _ _ _ _ _ _ _).mono ?_; rintro e w1 ⟨rfl, hb1⟩; have hx := new_keep hb1; obtain ⟨c0, c1, c2, c3⟩ := cells4 hx; obtain ⟨d0, d1, d2, d3⟩ := cells4 (obj_keep hx ((Below.refl _ w1).alloc (Nat.le_refl _) zeroB)))
 refine (owner_any _ _ _ _ _ _ rfl).mono ?_; rintro e w2 ⟨rfl, hb2⟩
 have h2 := (bat_zero w1).below hb2
 have hs2 := h2.since
 have T1 : TabI w1 := (TI.below (ha _) (Nat.le_refl _)).below hb1 (Nat.le_refl _)
 have hw1 := (ha (.cells #[.int .i64 1, .int .i64 n, .int .i64 a, .int .i64 b] 27)).trans (hb1.mono (by simp))
 obtain ⟨f0, f1, f2, f3⟩ := cells4 (obj_keep hx hs2.below)
 go_wp2_with fail
 refine (claim_at h2 (by omega) (base + 0) t (by omega)).mono ?_; rintro e w3 ⟨rfl, h3⟩
 have hs3 := h3.since
 obtain ⟨g0, g1, g2, g3⟩ := cells4 (obj_keep hx hs3.below)
 have gA := fun o => (cells4 (obj_keep (obj_keep hx hs3.below) ((Below.refl _ w3).alloc (Nat.le_refl _) o))).1
 go_wp2_with fail
 refine (tas_at (h3.below ((Below.refl _ w3).alloc (Nat.le_refl _) _)) (by omega) base (by omega)).mono ?_; rintro e w4 ⟨rfl, h4⟩
 go_wp2_with fail
 refine (close_at h4 (by omega)).mono ?_; rintro e w5 ⟨rfl, h5⟩
 go_wp2_with fail
 refine (code_at (b := linTas base t) h5 rfl T1 (okTas (by omega) (by omega))).mono ?_; rintro e w6 h6
 obtain ⟨⟨v, rfl, hv⟩, hb6⟩ := h6
 go_wp2_with fail
 first | go_ret2 | go_ret
 exact ⟨⟨v, rfl, own_base' hv hw1.size⟩, hw1.trans (hb6.mono hw1.size)⟩
set_option maxHeartbeats 4000000 in
theorem spinTtas_any (w : World) (TI : TabI w) (TO : TabO w) (n a b th ar : Int) (t base : Nat) (hA : AskP 2 n a b 1 th t) (hb : base ≤ 100000) (ht : t ≤ 100000) :
  Calls Tryz.prog 38 #[.agg #[.int .i64 2, .int .i64 n, .int .i64 a, .int .i64 b], .int .i64 1, .int .i64 th, .int .i64 t, .int .u32 base, .int .u32 ar] w (CodeOk w (linTtas base t)) := by
 have dA : decide (AskP 2 n a b 1 th t) = true := decide_eq_true hA
 have ha : ∀ o, Below w.heap.size w (w.alloc o) := fun o => (Below.refl _ w).alloc (Nat.le_refl _) o
 have TA : ∀ o, TabO (w.alloc o) := fun o => TO.below (ha o) (Nat.le_refl _)
 have e1 : IntKind.u32.wrap ((base : Int) + 0) = ((base + 0 : Nat) : Int) := by rw [IntKind.wrap_u32]; omega
 have eo : IntKind.u32.wrap (ownerI 2) = 0 := by decide
 go_enter Tryz.func38, Tryz.ntmps38
 go_wp2_with (go_at_call 60; refine (spinMay_any _ (TA _) _ _ _ _ _ _ _).mono ?_; rintro e w1 ⟨rfl, hb1⟩; have hx := new_keep hb1; obtain ⟨c0, c1, c2, c3⟩ := cells4 hx; obtain ⟨d0, d1, d2, d3⟩ := cells4 (obj_keep hx ((Below.refl _ w1).alloc (Nat.le_refl _) zeroB)))
 refine (owner_any _ _ _ _ _ _ rfl).mono ?_; rintro e w2 ⟨rfl, hb2⟩
 have h2 := (bat_zero w1).below hb2
 have hs2 := h2.since
 have T1 : TabI w1 := (TI.below (ha _) (Nat.le_refl _)).below hb1 (Nat.le_refl _)
 have hw1 := (ha (.cells #[.int .i64 2, .int .i64 n, .int .i64 a, .int .i64 b] 27)).trans (hb1.mono (by simp))
 obtain ⟨f0, f1, f2, f3⟩ := cells4 (obj_keep hx hs2.below)
 go_wp2_with fail
 refine (claim_at h2 (by omega) (base + 0) t (by omega)).mono ?_; rintro e w3 ⟨rfl, h3⟩
 have hs3 := h3.since
 obtain ⟨g0, g1, g2, g3⟩ := cells4 (obj_keep hx hs3.below)
 have gA := fun o => (cells4 (obj_keep (obj_keep hx hs3.below) ((Below.refl _ w3).alloc (Nat.le_refl _) o))).1
 go_wp2_with fail
 refine (ttas_at (h3.below ((Below.refl _ w3).alloc (Nat.le_refl _) _)) (by omega) base (by omega)).mono ?_; rintro e w4 ⟨rfl, h4⟩
 go_wp2_with fail
 refine (close_at h4 (by omega)).mono ?_; rintro e w5 ⟨rfl, h5⟩
 go_wp2_with fail
 refine (code_at (b := linTtas base t) h5 rfl T1 (okTtas (by omega) (by omega))).mono ?_; rintro e w6 h6
 obtain ⟨⟨v, rfl, hv⟩, hb6⟩ := h6
 go_wp2_with fail
 first | go_ret2 | go_ret
 exact ⟨⟨v, rfl, own_base' hv hw1.size⟩, hw1.trans (hb6.mono hw1.size)⟩
set_option maxHeartbeats 4000000 in
theorem spinTick_any (w : World) (TI : TabI w) (TO : TabO w) (n a b th ar : Int) (t base : Nat) (hA : AskP 3 n a b 1 th t) (hb : base ≤ 100000) (ht : t ≤ 100000) :
  Calls Tryz.prog 38 #[.agg #[.int .i64 3, .int .i64 n, .int .i64 a, .int .i64 b], .int .i64 1, .int .i64 th, .int .i64 t, .int .u32 base, .int .u32 ar] w (CodeOk w (linTick base t)) := by
 have dA : decide (AskP 3 n a b 1 th t) = true := decide_eq_true hA
 have ha : ∀ o, Below w.heap.size w (w.alloc o) := fun o => (Below.refl _ w).alloc (Nat.le_refl _) o
 have TA : ∀ o, TabO (w.alloc o) := fun o => TO.below (ha o) (Nat.le_refl _)
 have e1 : IntKind.u32.wrap ((base : Int) + 2) = ((base + 2 : Nat) : Int) := by rw [IntKind.wrap_u32]; omega
 have eo : IntKind.u32.wrap (ownerI 3) = 2 := by decide
 go_enter Tryz.func38, Tryz.ntmps38
 go_wp2_with (go_at_call 60; refine (spinMay_any _ (TA _) _ _ _ _ _ _ _).mono ?_; rintro e w1 ⟨rfl, hb1⟩; have hx := new_keep hb1; obtain ⟨c0, c1, c2, c3⟩ := cells4 hx; obtain ⟨d0, d1, d2, d3⟩ := cells4 (obj_keep hx ((Below.refl _ w1).alloc (Nat.le_refl _) zeroB)))
 refine (owner_any _ _ _ _ _ _ rfl).mono ?_; rintro e w2 ⟨rfl, hb2⟩
 have h2 := (bat_zero w1).below hb2
 have hs2 := h2.since
 have T1 : TabI w1 := (TI.below (ha _) (Nat.le_refl _)).below hb1 (Nat.le_refl _)
 have hw1 := (ha (.cells #[.int .i64 3, .int .i64 n, .int .i64 a, .int .i64 b] 27)).trans (hb1.mono (by simp))
 obtain ⟨f0, f1, f2, f3⟩ := cells4 (obj_keep hx hs2.below)
 go_wp2_with fail
 refine (claim_at h2 (by omega) (base + 2) t (by omega)).mono ?_; rintro e w3 ⟨rfl, h3⟩
 have hs3 := h3.since
 obtain ⟨g0, g1, g2, g3⟩ := cells4 (obj_keep hx hs3.below)
 have gA := fun o => (cells4 (obj_keep (obj_keep hx hs3.below) ((Below.refl _ w3).alloc (Nat.le_refl _) o))).1
 go_wp2_with fail
 refine (ticket_at (h3.below ((Below.refl _ w3).alloc (Nat.le_refl _) _)) (by omega) base (by omega)).mono ?_; rintro e w4 ⟨rfl, h4⟩
 go_wp2_with fail
 refine (close_at h4 (by omega)).mono ?_; rintro e w5 ⟨rfl, h5⟩
 go_wp2_with fail
 refine (code_at (b := linTick base t) h5 rfl T1 (okTick (by omega) (by omega))).mono ?_; rintro e w6 h6
 obtain ⟨⟨v, rfl, hv⟩, hb6⟩ := h6
 go_wp2_with fail
 first | go_ret2 | go_ret
 exact ⟨⟨v, rfl, own_base' hv hw1.size⟩, hw1.trans (hb6.mono hw1.size)⟩
set_option maxHeartbeats 4000000 in
theorem spinRel1_any (w : World) (TI : TabI w) (TO : TabO w) (n a b th ar : Int) (t base : Nat) (hA : AskP 1 n a b 2 th t) (hb : base ≤ 100000) (ht : t ≤ 100000) :
  Calls Tryz.prog 38 #[.agg #[.int .i64 1, .int .i64 n, .int .i64 a, .int .i64 b], .int .i64 2, .int .i64 th, .int .i64 t, .int .u32 base, .int .u32 ar] w (CodeOk w (linRel base t)) := by
 have dA : decide (AskP 1 n a b 2 th t) = true := decide_eq_true hA
 have ha : ∀ o, Below w.heap.size w (w.alloc o) := fun o => (Below.refl _ w).alloc (Nat.le_refl _) o
 have TA : ∀ o, TabO (w.alloc o) := fun o => TO.below (ha o) (Nat.le_refl _)
 have e1 : IntKind.u32.wrap ((base : Int) + 0) = ((base + 0 : Nat) : Int) := by rw [IntKind.wrap_u32]; omega
 have eo : IntKind.u32.wrap (ownerI 1) = 0 := by decide
 go_enter Tryz.func38, Tryz.ntmps38
 go_wp2_with (go_at_call 60; refine (spinMay_any _ (TA _) _ _ _ _ _ _ _).mono ?_; rintro e w1 ⟨rfl, hb1⟩; have hx := new_keep hb1; obtain ⟨c0, c1, c2, c3⟩ := cells4 hx; obtain ⟨d0, d1, d2, d3⟩ := cells4 (obj_keep hx ((Below.refl _ w1).alloc (Nat.le_refl _) zeroB)))
 refine (owner_any _ _ _ _ _ _ rfl).mono ?_; rintro e w2 ⟨rfl, hb2⟩
 have h2 := (bat_zero w1).below hb2
 have hs2 := h2.since
 have T1 : TabI w1 := (TI.below (ha _) (Nat.le_refl _)).below hb1 (Nat.le_refl _)
 have hw1 := (ha (.cells #[.int .i64 1, .int .i64 n, .int .i64 a, .int .i64 b] 27)).trans (hb1.mono (by simp))
 obtain ⟨f0, f1, f2, f3⟩ := cells4 (obj_keep hx hs2.below)
 go_wp2_with fail
 refine (prove_at h2 (by omega) (base + 0) t (by omega)).mono ?_; rintro e w3 ⟨rfl, h3⟩
 have hs3 := h3.since
 obtain ⟨g0, g1, g2, g3⟩ := cells4 (obj_keep hx hs3.below)
 have gA := fun o => (cells4 (obj_keep (obj_keep hx hs3.below) ((Below.refl _ w3).alloc (Nat.le_refl _) o))).1
 go_wp2_with fail
 refine (zero_at h3 (by omega) (base + 0)).mono ?_; rintro e w4 ⟨rfl, h4⟩
 go_wp2_with fail
 refine (close_at h4 (by omega)).mono ?_; rintro e w5 ⟨rfl, h5⟩
 go_wp2_with fail
 refine (code_at (b := linRel base t) h5 rfl T1 (okRel (by omega) (by omega))).mono ?_; rintro e w6 h6
 obtain ⟨⟨v, rfl, hv⟩, hb6⟩ := h6
 go_wp2_with fail
 first | go_ret2 | go_ret
 exact ⟨⟨v, rfl, own_base' hv hw1.size⟩, hw1.trans (hb6.mono hw1.size)⟩
set_option maxHeartbeats 4000000 in
theorem spinRel2_any (w : World) (TI : TabI w) (TO : TabO w) (n a b th ar : Int) (t base : Nat) (hA : AskP 2 n a b 2 th t) (hb : base ≤ 100000) (ht : t ≤ 100000) :
  Calls Tryz.prog 38 #[.agg #[.int .i64 2, .int .i64 n, .int .i64 a, .int .i64 b], .int .i64 2, .int .i64 th, .int .i64 t, .int .u32 base, .int .u32 ar] w (CodeOk w (linRel base t)) := by
 have dA : decide (AskP 2 n a b 2 th t) = true := decide_eq_true hA
 have ha : ∀ o, Below w.heap.size w (w.alloc o) := fun o => (Below.refl _ w).alloc (Nat.le_refl _) o
 have TA : ∀ o, TabO (w.alloc o) := fun o => TO.below (ha o) (Nat.le_refl _)
 have e1 : IntKind.u32.wrap ((base : Int) + 0) = ((base + 0 : Nat) : Int) := by rw [IntKind.wrap_u32]; omega
 have eo : IntKind.u32.wrap (ownerI 2) = 0 := by decide
 go_enter Tryz.func38, Tryz.ntmps38
 go_wp2_with (go_at_call 60; refine (spinMay_any _ (TA _) _ _ _ _ _ _ _).mono ?_; rintro e w1 ⟨rfl, hb1⟩; have hx := new_keep hb1; obtain ⟨c0, c1, c2, c3⟩ := cells4 hx; obtain ⟨d0, d1, d2, d3⟩ := cells4 (obj_keep hx ((Below.refl _ w1).alloc (Nat.le_refl _) zeroB)))
 refine (owner_any _ _ _ _ _ _ rfl).mono ?_; rintro e w2 ⟨rfl, hb2⟩
 have h2 := (bat_zero w1).below hb2
 have hs2 := h2.since
 have T1 : TabI w1 := (TI.below (ha _) (Nat.le_refl _)).below hb1 (Nat.le_refl _)
 have hw1 := (ha (.cells #[.int .i64 2, .int .i64 n, .int .i64 a, .int .i64 b] 27)).trans (hb1.mono (by simp))
 obtain ⟨f0, f1, f2, f3⟩ := cells4 (obj_keep hx hs2.below)
 go_wp2_with fail
 refine (prove_at h2 (by omega) (base + 0) t (by omega)).mono ?_; rintro e w3 ⟨rfl, h3⟩
 have hs3 := h3.since
 obtain ⟨g0, g1, g2, g3⟩ := cells4 (obj_keep hx hs3.below)
 have gA := fun o => (cells4 (obj_keep (obj_keep hx hs3.below) ((Below.refl _ w3).alloc (Nat.le_refl _) o))).1
 go_wp2_with fail
 refine (zero_at h3 (by omega) (base + 0)).mono ?_; rintro e w4 ⟨rfl, h4⟩
 go_wp2_with fail
 refine (close_at h4 (by omega)).mono ?_; rintro e w5 ⟨rfl, h5⟩
 go_wp2_with fail
 refine (code_at (b := linRel base t) h5 rfl T1 (okRel (by omega) (by omega))).mono ?_; rintro e w6 h6
 obtain ⟨⟨v, rfl, hv⟩, hb6⟩ := h6
 go_wp2_with fail
 first | go_ret2 | go_ret
 exact ⟨⟨v, rfl, own_base' hv hw1.size⟩, hw1.trans (hb6.mono hw1.size)⟩
set_option maxHeartbeats 4000000 in
theorem spinPass_any (w : World) (TI : TabI w) (TO : TabO w) (n a b th ar : Int) (t base : Nat) (hA : AskP 3 n a b 2 th t) (hb : base ≤ 100000) (ht : t ≤ 100000) :
  Calls Tryz.prog 38 #[.agg #[.int .i64 3, .int .i64 n, .int .i64 a, .int .i64 b], .int .i64 2, .int .i64 th, .int .i64 t, .int .u32 base, .int .u32 ar] w (CodeOk w (linPass base t)) := by
 have dA : decide (AskP 3 n a b 2 th t) = true := decide_eq_true hA
 have ha : ∀ o, Below w.heap.size w (w.alloc o) := fun o => (Below.refl _ w).alloc (Nat.le_refl _) o
 have TA : ∀ o, TabO (w.alloc o) := fun o => TO.below (ha o) (Nat.le_refl _)
 have e1 : IntKind.u32.wrap ((base : Int) + 2) = ((base + 2 : Nat) : Int) := by rw [IntKind.wrap_u32]; omega
 have eo : IntKind.u32.wrap (ownerI 3) = 2 := by decide
 go_enter Tryz.func38, Tryz.ntmps38
 go_wp2_with (go_at_call 60; refine (spinMay_any _ (TA _) _ _ _ _ _ _ _).mono ?_; rintro e w1 ⟨rfl, hb1⟩; have hx := new_keep hb1; obtain ⟨c0, c1, c2, c3⟩ := cells4 hx; obtain ⟨d0, d1, d2, d3⟩ := cells4 (obj_keep hx ((Below.refl _ w1).alloc (Nat.le_refl _) zeroB)))
 refine (owner_any _ _ _ _ _ _ rfl).mono ?_; rintro e w2 ⟨rfl, hb2⟩
 have h2 := (bat_zero w1).below hb2
 have hs2 := h2.since
 have T1 : TabI w1 := (TI.below (ha _) (Nat.le_refl _)).below hb1 (Nat.le_refl _)
 have hw1 := (ha (.cells #[.int .i64 3, .int .i64 n, .int .i64 a, .int .i64 b] 27)).trans (hb1.mono (by simp))
 obtain ⟨f0, f1, f2, f3⟩ := cells4 (obj_keep hx hs2.below)
 go_wp2_with fail
 refine (prove_at h2 (by omega) (base + 2) t (by omega)).mono ?_; rintro e w3 ⟨rfl, h3⟩
 have hs3 := h3.since
 obtain ⟨g0, g1, g2, g3⟩ := cells4 (obj_keep hx hs3.below)
 have gA := fun o => (cells4 (obj_keep (obj_keep hx hs3.below) ((Below.refl _ w3).alloc (Nat.le_refl _) o))).1
 go_wp2_with fail
 refine (pass_at h3 (by omega) base (by omega)).mono ?_; rintro e w4 ⟨rfl, h4⟩
 go_wp2_with fail
 refine (close_at h4 (by omega)).mono ?_; rintro e w5 ⟨rfl, h5⟩
 go_wp2_with fail
 refine (code_at (b := linPass base t) h5 rfl T1 (okPass (by omega) (by omega))).mono ?_; rintro e w6 h6
 obtain ⟨⟨v, rfl, hv⟩, hb6⟩ := h6
 go_wp2_with fail
 first | go_ret2 | go_ret
 exact ⟨⟨v, rfl, own_base' hv hw1.size⟩, hw1.trans (hb6.mono hw1.size)⟩
end Go.Proofs.YtckmkaeopnnbbaaGreatDoor.As
