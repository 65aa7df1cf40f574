/- The walks of the package bias: a call's code. The law BiasAlone. From a row's condition to the tables in memory; what a call of an object is, opened. A thread alone, tried by the machine as it is set: its acquire and its release of any object of the package bias come to their ends in the answers that the document gives, for every case and every thread, the tables of the packages obj and isa being as the program's text lays them. -/
import Derived.Test.YtackbadmcgjncaaDoorBld
import Derived.Test.YtackbadmcgjncaaDoorBiasA
import Derived.Test.YtackbadmcgjncaaDoorLocks3
import Derived.Test.YtackbadmcgjncaaDoorAlZ
import Derived.Test.YtackbadmcgjncaaDoorAlQ
import Derived.Deep.RegionHeld
import Derived.WalkKit
import Derived.ProofKit
import Derived.OpenShut
import Derived.Deep.DeepHandedRow
import Derived.Lib.LaidTab
import Derived.Test.YtackbadmcgjncaaDoorCards
import Derived.Test.YtackbadmcgjncaaDoorTie
import Derived.Below
import Derived.Carry
set_option linter.unusedVariables false
set_option linter.unusedSimpArgs false
set_option maxRecDepth 20000
namespace Go.Proofs.YtackbadmcgjncaaDoor.As
open Go.RowKit

set_option maxHeartbeats 4000000 in
theorem codeBiasOwn_any (w : World) (TI : TabI w) (TO : TabO w) (n b : Int) (th ar : Int) (t base : Nat) (hA : AskP 8 n t b 1 th t) (hb : base ≤ 100000) (ht : t ≤ 100000) :
    Calls Tryd.prog 28 #[.agg #[.int .i64 8, .int .i64 n, .int .i64 t, .int .i64 b], .int .i64 1, .int .i64 th, .int .i64 t, .int .u32 base, .int .u32 ar] w (CodeOk w (linBiasOwn base t)) := by
  have dA : decide (AskP 8 n t b 1 th t) = true := decide_eq_true hA
  have ha : ∀ o, Below w.heap.size w (w.alloc o) := fun o => (Below.refl _ w).alloc (Nat.le_refl _) o
  have TA : ∀ o, TabO (w.alloc o) := fun o => TO.below (ha o) (Nat.le_refl _)
  have e0 : IntKind.u32.wrap ((base : Int) + 3) = ((base + 3 : Nat) : Int) := by rw [IntKind.wrap_u32]; omega
  have e1 : IntKind.u32.wrap ((base : Int) + 2) = ((base + 2 : Nat) : Int) := by rw [IntKind.wrap_u32]; omega
  go_enter Tryd.func28, Tryd.ntmps28
  go_wp2_with (go_at_call 33; refine (spinMay_any _ (TA _) _ _ _ _ _ _ _).mono ?_; rintro e w1 ⟨rfl, hb1⟩; have hx := new_keep hb1; obtain ⟨c0, c1, c2, c3⟩ := cells4 hx; obtain ⟨d0, d1, d2, d3⟩ := cells4 (obj_keep hx ((Below.refl _ w1).alloc (Nat.le_refl _) zeroB)))
  have h2 := bat_zero w1
  have T1 : TabI w1 := (TI.below (ha _) (Nat.le_refl _)).below hb1 (Nat.le_refl _)
  have hw1 := (ha (.cells #[.int .i64 8, .int .i64 n, .int .i64 t, .int .i64 b] 26)).trans (hb1.mono (by simp))
  refine (claim_at h2 (by omega) (base + 3) t (by omega)).mono ?_; rintro e w3 ⟨rfl, h3⟩
  have hs3 := h3.since
  obtain ⟨g3_0, g3_1, g3_2, g3_3⟩ := cells4 (obj_keep hx hs3.below)
  go_wp2_with fail
  refine (biased_at h3 (by omega) base (by omega)).mono ?_; rintro e w4 ⟨rfl, h4⟩
  have hs4 := h4.since
  obtain ⟨g4_0, g4_1, g4_2, g4_3⟩ := cells4 (obj_keep hx hs4.below)
  go_wp2_with fail
  refine (close_at h4 (by omega)).mono ?_; rintro e w5 ⟨rfl, h5⟩
  have hs5 := h5.since
  obtain ⟨g5_0, g5_1, g5_2, g5_3⟩ := cells4 (obj_keep hx hs5.below)
  go_wp2_with fail
  refine (code_at (b := linBiasOwn base t) h5 (by simp only [← BS.run_app]; exact congrArg (BS.run BS.zero) rfl) T1 (okBiasOwn (by omega) (by omega))).mono ?_; rintro e w20 h20
  obtain ⟨⟨v, rfl, hv⟩, hb20⟩ := h20
  go_wp2_with fail
  first | go_ret2 | go_ret
  exact ⟨⟨v, rfl, own_base' hv hw1.size⟩, hw1.trans (hb20.mono hw1.size)⟩
set_option maxHeartbeats 4000000 in
theorem codeBiasOther_any (w : World) (TI : TabI w) (TO : TabO w) (n a b : Int) (th ar : Int) (t base : Nat) (hA : AskP 8 n a b 1 th t) (hb : base ≤ 100000) (ht : t ≤ 100000) (he : ((t : Int) == a) = false) :
    Calls Tryd.prog 28 #[.agg #[.int .i64 8, .int .i64 n, .int .i64 a, .int .i64 b], .int .i64 1, .int .i64 th, .int .i64 t, .int .u32 base, .int .u32 ar] w (CodeOk w (linBiasOther base t)) := by
  have dA : decide (AskP 8 n a b 1 th t) = true := decide_eq_true hA
  have ha : ∀ o, Below w.heap.size w (w.alloc o) := fun o => (Below.refl _ w).alloc (Nat.le_refl _) o
  have TA : ∀ o, TabO (w.alloc o) := fun o => TO.below (ha o) (Nat.le_refl _)
  have e0 : IntKind.u32.wrap ((base : Int) + 3) = ((base + 3 : Nat) : Int) := by rw [IntKind.wrap_u32]; omega
  have e1 : IntKind.u32.wrap ((base : Int) + 2) = ((base + 2 : Nat) : Int) := by rw [IntKind.wrap_u32]; omega
  go_enter Tryd.func28, Tryd.ntmps28
  go_wp2_with (go_at_call 33; refine (spinMay_any _ (TA _) _ _ _ _ _ _ _).mono ?_; rintro e w1 ⟨rfl, hb1⟩; have hx := new_keep hb1; obtain ⟨c0, c1, c2, c3⟩ := cells4 hx; obtain ⟨d0, d1, d2, d3⟩ := cells4 (obj_keep hx ((Below.refl _ w1).alloc (Nat.le_refl _) zeroB)))
  have h2 := bat_zero w1
  have T1 : TabI w1 := (TI.below (ha _) (Nat.le_refl _)).below hb1 (Nat.le_refl _)
  have hw1 := (ha (.cells #[.int .i64 8, .int .i64 n, .int .i64 a, .int .i64 b] 26)).trans (hb1.mono (by simp))
  refine (claim_at h2 (by omega) (base + 3) t (by omega)).mono ?_; rintro e w3 ⟨rfl, h3⟩
  have hs3 := h3.since
  obtain ⟨g3_0, g3_1, g3_2, g3_3⟩ := cells4 (obj_keep hx hs3.below)
  go_wp2_with fail
  refine (other_at h3 (by omega) base (by omega)).mono ?_; rintro e w4 ⟨rfl, h4⟩
  have hs4 := h4.since
  obtain ⟨g4_0, g4_1, g4_2, g4_3⟩ := cells4 (obj_keep hx hs4.below)
  go_wp2_with fail
  refine (close_at h4 (by omega)).mono ?_; rintro e w5 ⟨rfl, h5⟩
  have hs5 := h5.since
  obtain ⟨g5_0, g5_1, g5_2, g5_3⟩ := cells4 (obj_keep hx hs5.below)
  go_wp2_with fail
  refine (code_at (b := linBiasOther base t) h5 (by simp only [← BS.run_app]; exact congrArg (BS.run BS.zero) rfl) T1 (okBiasOther (by omega) (by omega))).mono ?_; rintro e w20 h20
  obtain ⟨⟨v, rfl, hv⟩, hb20⟩ := h20
  go_wp2_with fail
  first | go_ret2 | go_ret
  exact ⟨⟨v, rfl, own_base' hv hw1.size⟩, hw1.trans (hb20.mono hw1.size)⟩
set_option maxHeartbeats 4000000 in
theorem codeBiasLeave_any (w : World) (TI : TabI w) (TO : TabO w) (n b : Int) (th ar : Int) (t base : Nat) (hA : AskP 8 n t b 2 th t) (hb : base ≤ 100000) (ht : t ≤ 100000) :
    Calls Tryd.prog 28 #[.agg #[.int .i64 8, .int .i64 n, .int .i64 t, .int .i64 b], .int .i64 2, .int .i64 th, .int .i64 t, .int .u32 base, .int .u32 ar] w (CodeOk w (linBiasLeave base t)) := by
  have dA : decide (AskP 8 n t b 2 th t) = true := decide_eq_true hA
  have ha : ∀ o, Below w.heap.size w (w.alloc o) := fun o => (Below.refl _ w).alloc (Nat.le_refl _) o
  have TA : ∀ o, TabO (w.alloc o) := fun o => TO.below (ha o) (Nat.le_refl _)
  have e0 : IntKind.u32.wrap ((base : Int) + 3) = ((base + 3 : Nat) : Int) := by rw [IntKind.wrap_u32]; omega
  have e1 : IntKind.u32.wrap ((base : Int) + 2) = ((base + 2 : Nat) : Int) := by rw [IntKind.wrap_u32]; omega
  go_enter Tryd.func28, Tryd.ntmps28
  go_wp2_with (go_at_call 33; refine (spinMay_any _ (TA _) _ _ _ _ _ _ _).mono ?_; rintro e w1 ⟨rfl, hb1⟩; have hx := new_keep hb1; obtain ⟨c0, c1, c2, c3⟩ := cells4 hx; obtain ⟨d0, d1, d2, d3⟩ := cells4 (obj_keep hx ((Below.refl _ w1).alloc (Nat.le_refl _) zeroB)))
  have h2 := bat_zero w1
  have T1 : TabI w1 := (TI.below (ha _) (Nat.le_refl _)).below hb1 (Nat.le_refl _)
  have hw1 := (ha (.cells #[.int .i64 8, .int .i64 n, .int .i64 t, .int .i64 b] 26)).trans (hb1.mono (by simp))
  refine (prove_at h2 (by omega) (base + 3) t (by omega)).mono ?_; rintro e w3 ⟨rfl, h3⟩
  have hs3 := h3.since
  obtain ⟨g3_0, g3_1, g3_2, g3_3⟩ := cells4 (obj_keep hx hs3.below)
  go_wp2_with fail
  refine (leave_at h3 (by omega) base (by omega)).mono ?_; rintro e w4 ⟨rfl, h4⟩
  have hs4 := h4.since
  obtain ⟨g4_0, g4_1, g4_2, g4_3⟩ := cells4 (obj_keep hx hs4.below)
  go_wp2_with fail
  refine (close_at h4 (by omega)).mono ?_; rintro e w5 ⟨rfl, h5⟩
  have hs5 := h5.since
  obtain ⟨g5_0, g5_1, g5_2, g5_3⟩ := cells4 (obj_keep hx hs5.below)
  go_wp2_with fail
  refine (code_at (b := linBiasLeave base t) h5 (by simp only [← BS.run_app]; exact congrArg (BS.run BS.zero) rfl) T1 (okBiasLeave (by omega) (by omega))).mono ?_; rintro e w20 h20
  obtain ⟨⟨v, rfl, hv⟩, hb20⟩ := h20
  go_wp2_with fail
  first | go_ret2 | go_ret
  exact ⟨⟨v, rfl, own_base' hv hw1.size⟩, hw1.trans (hb20.mono hw1.size)⟩
set_option maxHeartbeats 4000000 in
theorem codeBiasOut_any (w : World) (TI : TabI w) (TO : TabO w) (n a b : Int) (th ar : Int) (t base : Nat) (hA : AskP 8 n a b 2 th t) (hb : base ≤ 100000) (ht : t ≤ 100000) (he : ((t : Int) == a) = false) :
    Calls Tryd.prog 28 #[.agg #[.int .i64 8, .int .i64 n, .int .i64 a, .int .i64 b], .int .i64 2, .int .i64 th, .int .i64 t, .int .u32 base, .int .u32 ar] w (CodeOk w (linBiasOut base t)) := by
  have dA : decide (AskP 8 n a b 2 th t) = true := decide_eq_true hA
  have ha : ∀ o, Below w.heap.size w (w.alloc o) := fun o => (Below.refl _ w).alloc (Nat.le_refl _) o
  have TA : ∀ o, TabO (w.alloc o) := fun o => TO.below (ha o) (Nat.le_refl _)
  have e0 : IntKind.u32.wrap ((base : Int) + 3) = ((base + 3 : Nat) : Int) := by rw [IntKind.wrap_u32]; omega
  have e1 : IntKind.u32.wrap ((base : Int) + 2) = ((base + 2 : Nat) : Int) := by rw [IntKind.wrap_u32]; omega
  go_enter Tryd.func28, Tryd.ntmps28
  go_wp2_with (go_at_call 33; refine (spinMay_any _ (TA _) _ _ _ _ _ _ _).mono ?_; rintro e w1 ⟨rfl, hb1⟩; have hx := new_keep hb1; obtain ⟨c0, c1, c2, c3⟩ := cells4 hx; obtain ⟨d0, d1, d2, d3⟩ := cells4 (obj_keep hx ((Below.refl _ w1).alloc (Nat.le_refl _) zeroB)))
  have h2 := bat_zero w1
  have T1 : TabI w1 := (TI.below (ha _) (Nat.le_refl _)).below hb1 (Nat.le_refl _)
  have hw1 := (ha (.cells #[.int .i64 8, .int .i64 n, .int .i64 a, .int .i64 b] 26)).trans (hb1.mono (by simp))
  refine (prove_at h2 (by omega) (base + 3) t (by omega)).mono ?_; rintro e w3 ⟨rfl, h3⟩
  have hs3 := h3.since
  obtain ⟨g3_0, g3_1, g3_2, g3_3⟩ := cells4 (obj_keep hx hs3.below)
  go_wp2_with fail
  refine (zero_at h3 (by omega) (base + 3)).mono ?_; rintro e w4 ⟨rfl, h4⟩
  have hs4 := h4.since
  obtain ⟨g4_0, g4_1, g4_2, g4_3⟩ := cells4 (obj_keep hx hs4.below)
  go_wp2_with fail
  refine (zero_at h4 (by omega) (base + 2)).mono ?_; rintro e w5 ⟨rfl, h5⟩
  have hs5 := h5.since
  obtain ⟨g5_0, g5_1, g5_2, g5_3⟩ := cells4 (obj_keep hx hs5.below)
  go_wp2_with fail
  refine (close_at h5 (by omega)).mono ?_; rintro e w6 ⟨rfl, h6⟩
  have hs6 := h6.since
  obtain ⟨g6_0, g6_1, g6_2, g6_3⟩ := cells4 (obj_keep hx hs6.below)
  go_wp2_with fail
  refine (code_at (b := linBiasOut base t) h6 (by simp only [← BS.run_app]; exact congrArg (BS.run BS.zero) rfl) T1 (okBiasOut (by omega) (by omega))).mono ?_; rintro e w20 h20
  obtain ⟨⟨v, rfl, hv⟩, hb20⟩ := h20
  go_wp2_with fail
  first | go_ret2 | go_ret
  exact ⟨⟨v, rfl, own_base' hv hw1.size⟩, hw1.trans (hb20.mono hw1.size)⟩
end Go.Proofs.YtackbadmcgjncaaDoor.As

namespace Go.Proofs.YtackbadmcgjncaaDoor.As
open Go.RowKit

theorem set4_cell {w : World} {R : Nat} {a : Addr} {v v0 v1 v2 v3 : Value} (h : w.cell? a = some v) (hne : a.block ≠ R) :
    ((((w.setCell ⟨R, 0, none⟩ v0).setCell ⟨R, 1, none⟩ v1).setCell ⟨R, 2, none⟩ v2).setCell ⟨R, 3, none⟩ v3).cell? a = some v := by
  have e : ∀ (W : World) (j : Nat) (v : Value), (W.setCell ⟨R, j, none⟩ v).heap[a.block]? = W.heap[a.block]? := fun W j v => heap_setCell_other W ⟨R, j, none⟩ a.block v hne
  refine (World.cell?_of_block (w := w) (a := a) ?_).trans h
  rw [e, e, e, e]
theorem set4 {w : World} {R : Nat} {o0 o1 o2 o3 : Value} {t : TypeId} (h : w.heap[R]? = some (.cells #[o0, o1, o2, o3] t (0, 0))) (v0 v1 v2 v3 : Value) :
    ((((w.setCell ⟨R, 0, none⟩ v0).setCell ⟨R, 1, none⟩ v1).setCell ⟨R, 2, none⟩ v2).setCell ⟨R, 3, none⟩ v3).heap[R]? = some (.cells #[v0, v1, v2, v3] t (0, 0)) ∧ Only (fun k => k = R) w ((((w.setCell ⟨R, 0, none⟩ v0).setCell ⟨R, 1, none⟩ v1).setCell ⟨R, 2, none⟩ v2).setCell ⟨R, 3, none⟩ v3) :=
  ⟨(heap_setCell_same _ R 3 _ t _ (heap_setCell_same _ R 2 _ t _ (heap_setCell_same _ R 1 _ t _ (heap_setCell_same _ R 0 _ t _ h)))).trans (by simp), Only.set1 (F := fun k => k = R) (p := ⟨R, 3, none⟩) (Only.set1 (F := fun k => k = R) (p := ⟨R, 2, none⟩) (Only.set1 (F := fun k => k = R) (p := ⟨R, 1, none⟩) (Only.set1 (F := fun k => k = R) (p := ⟨R, 0, none⟩) (Only.refl _ w) rfl _) rfl _) rfl _) rfl _⟩
theorem results_obj4 {fn : Func} {p u1 u2 u3 : Tmp} (h : fn.results = #[.cell p 26, .tmp u1, .tmp u2, .tmp u3]) (tmps : Array Value) (w : World) (R : Nat) (a b c d : Value) (hb : w.heap[R]? = some (.cells #[a, b, c, d] 26 (0, 0))) (hp : tmps.getD p undef = .pointer (some ⟨R, 0, none⟩)) :
    (results fn tmps).run Tryd.prog w = .ok (.tuple #[.agg #[a, b, c, d], tmps.getD u1 undef, tmps.getD u2 undef, tmps.getD u3 undef]) w := by
  have hl := run_loadVar_row (P := Tryd.prog) w R 26 26 _ _ _ hb Tryd.underlying26 rfl (by kernel_rfl)
  simp only [Array.getD_eq_getD_getElem?] at hp
  simp [results, h, hp, asAddr, hl]
theorem cellsQ4 {w : World} {g : Nat} {a b c d : Value} {t : TypeId} (hx : w.heap[g]? = some (.cells #[a, b, c, d] t (0, 0))) :
    w.cell? ⟨g, 0, none⟩ = some a ∧ w.cell? ⟨g, 1, none⟩ = some b ∧ w.cell? ⟨g, 2, none⟩ = some c ∧ w.cell? ⟨g, 3, none⟩ = some d :=
  ⟨cell_of_row w g 0 _ _ _ hx, cell_of_row w g 1 _ _ _ hx, cell_of_row w g 2 _ _ _ hx, cell_of_row w g 3 _ _ _ hx⟩
theorem case_wrap (x : Int) (n : Int) (h : 0 ≤ x ∧ x ≤ 255) (hn : 0 < n ∧ n ≤ 10) : IntKind.i64.wrap (1 + (IntKind.i64.wrap x).tmod n) = 1 + x % n := by
  have e : IntKind.i64.wrap x = x := by rw [IntKind.wrap_i64]; omega
  have m1 := Int.emod_nonneg x (by omega : n ≠ 0)
  have m2 := Int.emod_lt_of_pos x hn.1
  rw [e, Int.tmod_eq_emod_of_nonneg h.1, IntKind.wrap_i64]
  omega
theorem below_of_only {R B : Nat} {a w : World} (h : Only (fun k => k = R) a w) (hB : B ≤ R) (hs : B ≤ a.heap.size) : Below B a w := ⟨h.os, h.tape, h.output, h.size, fun k hk => h.block k (by omega) (by omega)⟩
set_option maxRecDepth 100000 in
set_option maxHeartbeats 8000000 in
theorem object18 (w : World) (x0 x1 x2 x3 : Int) (h0 : 0 ≤ x0 ∧ x0 ≤ 255) (h1 : 0 ≤ x1 ∧ x1 ≤ 255) (h2 : 0 ≤ x2 ∧ x2 ≤ 255) (h3 : 0 ≤ x3 ∧ x3 ≤ 255) :
    Calls Tryd.prog 11 #[.agg #[.int .u8 x0, .int .u8 x1, .int .u8 x2, .int .u8 x3]] w fun e w' => (∃ r m, e = .returned (.tuple #[.agg #[.int .i64 8, .int .i64 0, .int .i64 (x0 % (1 + x1 % 4)), .int .i64 0], .int .i64 (1 + x1 % 4), .int .i64 r, .int .i64 m])) ∧ Below w.heap.size w w' := by
  go_enter Tryd.func11, Tryd.ntmps11
  go_wp2_with fail
  obtain ⟨WR, hWR⟩ : ∃ WR, ((w.alloc (.cells #[.int .u8 x0, .int .u8 x1, .int .u8 x2, .int .u8 x3] 35)).alloc (.cells #[.int .i64 0, .int .i64 0, .int .i64 0, .int .i64 0] 26)) = WR := ⟨_, rfl⟩
  have hX : WR.heap[w.heap.size]? = some (.cells #[.int .u8 x0, .int .u8 x1, .int .u8 x2, .int .u8 x3] 35 (0, 0)) := by rw [← hWR]; exact (Below.heap_alloc _ _ _ (by simp)).trans (heap_alloc_new _ _)
  have hY : WR.heap[w.heap.size + 1]? = some (.cells #[.int .i64 0, .int .i64 0, .int .i64 0, .int .i64 0] 26 (0, 0)) := by rw [← hWR, ← World.size_alloc w (.cells #[.int .u8 x0, .int .u8 x1, .int .u8 x2, .int .u8 x3] 35)]; exact heap_alloc_new _ _
  have hBW : Below w.heap.size w WR := by rw [← hWR]; exact ((Below.refl _ w).alloc (Nat.le_refl _) _).alloc (by simp) _
  rw [hWR]
  clear hWR
  have HY := Lib.hid hY
  obtain ⟨a0, a1, a2, a3⟩ := cellsQ4 hX
  obtain ⟨b0, b1, b2, b3⟩ := cellsQ4 hY
  have f0 := frozen_of_row WR _ 0 _ _ hY
  have f1 := frozen_of_row WR _ 1 _ _ hY
  have f2 := frozen_of_row WR _ 2 _ _ hY
  have f3 := frozen_of_row WR _ 3 _ _ hY
  have A0 : WR.drew.cell? ⟨w.heap.size, 0, none⟩ = some (.int .u8 x0) := a0
  have A1 : WR.drew.cell? ⟨w.heap.size, 1, none⟩ = some (.int .u8 x1) := a1
  have A2 : WR.drew.cell? ⟨w.heap.size, 2, none⟩ = some (.int .u8 x2) := a2
  have A3 : WR.drew.cell? ⟨w.heap.size, 3, none⟩ = some (.int .u8 x3) := a3
  clear hX hY
  go_region_held (fun w' => w'.cell? ⟨w.heap.size, 0, none⟩ = some (.int .u8 x0) ∧ w'.cell? ⟨w.heap.size, 1, none⟩ = some (.int .u8 x1) ∧ w'.cell? ⟨w.heap.size, 2, none⟩ = some (.int .u8 x2) ∧ w'.cell? ⟨w.heap.size, 3, none⟩ = some (.int .u8 x3)) (first | exact ⟨A0, A1, A2, A3⟩ | (refine ⟨set4_cell ?_ ?_, set4_cell ?_ ?_, set4_cell ?_ ?_, set4_cell ?_ ?_⟩ <;> first | assumption | (dsimp only; omega)) | go_keep) (fail)
  all_goals go_wp2_with fail
  all_goals
    obtain ⟨hs1, hs2⟩ := set4 HY.out (.int .i64 8) (.int .i64 0) (.int .i64 (x0 % (1 + x1 % 4))) (.int .i64 0)
    refine bodyPost_ret (results_obj4 rfl _ _ (w.heap.size + 1) _ _ _ _ hs1 rfl) rfl ?_
    exact ⟨⟨1 + x2 % 4, 1 + x3 % 5, rfl⟩, hBW.trans (bl_drew (below_of_only hs2 (by omega) hBW.size))⟩
theorem truth_any (w : World) : Calls Tryd.prog 29 #[.bool true] w fun e w' => e = .returned (.int .i64 1) ∧ w' = w := by
  go_enter Tryd.func29, Tryd.ntmps29
  go_wp2_with fail
  go_ret
  exact ⟨rfl, rfl⟩

theorem awake18_any (w : World) (TI : TabI w) (TO : TabO w) : Calls Tryd.prog 10 #[] w fun e w' => e = .returned (.bool true) ∧ Below w.heap.size w w' := by
  have hc := fun w TI TO => codeBiasOut_any w TI TO 0 0 0 2 0 1 16 (by decide) (by omega) (by omega) (by decide)
  go_enter Tryd.func10, Tryd.ntmps10
  go_wp2_with fail
  refine (hc w TI TO).mono ?_; rintro e w1 ⟨⟨v, rfl, hv⟩, hb1⟩
  have h9 : (resL (linBiasOut 16 1)).length = 11 := rfl
  rw [h9] at hv
  have hR := Rd.of_own hv
  obtain ⟨A, cap, rfl⟩ := hR.form
  clear hR hv h9 hc
  go_wp2_with fail
  go_ret
  exact ⟨rfl, hb1⟩

theorem maker18_any (w : World) (k n a b th : Int) : Calls Tryd.prog 13 #[.agg #[.int .i64 k, .int .i64 n, .int .i64 a, .int .i64 b], .int .i64 th] w fun e w' => e = .returned (.func (.func 30) #[] #[.pointer (some ⟨w.heap.size, 0, none⟩), .pointer (some ⟨w.heap.size + 1, 0, none⟩)]) ∧ w' = (w.alloc (.cells #[.int .i64 k, .int .i64 n, .int .i64 a, .int .i64 b] 26)).alloc (.cells #[.int .i64 th] 3) := by
  go_enter Tryd.func13, Tryd.ntmps13
  go_wp2_with fail
  go_ret
  exact ⟨rfl, rfl⟩
theorem maker18_1 (W : World) (k n a b th c t : Int) (bo bt : Nat) (l : List Ins) (ho : W.heap[bo]? = some (.cells #[.int .i64 k, .int .i64 n, .int .i64 a, .int .i64 b] 26 (0, 0))) (ht : W.heap[bt]? = some (.cells #[.int .i64 th] 3 (0, 0)))
    (hc : Calls Tryd.prog 28 #[.agg #[.int .i64 k, .int .i64 n, .int .i64 a, .int .i64 b], .int .i64 c, .int .i64 th, .int .i64 t, .int .u32 16, .int .u32 0] W (CodeIs W l)) :
    Calls Tryd.prog 30 #[.int .i64 c, .int .i64 t, .pointer (some ⟨bo, 0, none⟩), .pointer (some ⟨bt, 0, none⟩)] W (CodeIs W l) := by
  obtain ⟨a0, a1, a2, a3⟩ := cellsQ4 ho
  have b0 : W.cell? ⟨bt, 0, none⟩ = some (.int .i64 th) := cell_of_row W bt 0 _ _ _ ht
  clear ho ht
  go_enter Tryd.func30, Tryd.ntmps30
  go_wp2_with (go_at_call 28; refine hc.mono ?_; rintro r w1 ⟨⟨v, rfl, hv⟩, hb⟩)
  go_ret2
  exact ⟨⟨_, rfl, hv⟩, hb⟩
theorem goodCase_parts {a b : List Ins} {mem : List Int} {t own : Nat} (h : goodCase a b mem t own = true) : aloneGood a b mem t own = true ∧ a.length ≤ 100 ∧ b.length ≤ 100 ∧ 0 < a.length ∧ 0 < b.length ∧ (∀ x ∈ a, 0 ≤ x.k ∧ x.k ≤ 4294967295) ∧ (∀ x ∈ b, 0 ≤ x.k ∧ x.k ≤ 4294967295) := by
  simp only [goodCase, fineC, Bool.and_eq_true, decide_eq_true_eq] at h
  obtain ⟨⟨h0, ⟨a1, a2⟩, a3⟩, ⟨b1, b2⟩, b3⟩ := h
  exact ⟨h0, a2, b2, a1, b1, fun x hx => wd_iff.1 (List.all_eq_true.1 a3 x hx), fun x hx => wd_iff.1 (List.all_eq_true.1 b3 x hx)⟩
theorem aloneW_any (W : World) (k n a b th t : Int) (f : Value) (h : ∀ V, Below W.heap.size W V → Calls Tryd.prog 8 #[.agg #[.int .i64 k, .int .i64 n, .int .i64 a, .int .i64 b], .int .i64 th, .int .i64 t, f] V fun e w' => e = .returned (.bool true) ∧ Below V.heap.size V w') :
    Calls Tryd.prog 12 #[.agg #[.int .i64 k, .int .i64 n, .int .i64 a, .int .i64 b], .int .i64 th, .int .i64 t, f] W fun e w' => e = .returned (.int .i64 1) ∧ Below W.heap.size W w' := by
  have hB0 : Below W.heap.size W (W.alloc (.cells #[.int .i64 k, .int .i64 n, .int .i64 a, .int .i64 b] 26)) := (Below.refl _ W).alloc (Nat.le_refl _) _
  have h0 := h _ hB0
  go_enter Tryd.func12, Tryd.ntmps12
  go_wp2_with (go_at_call 8; refine h0.mono ?_; rintro e w1 ⟨rfl, hb1⟩)
  refine (truth_any _).mono ?_; rintro e w2 ⟨rfl, rfl⟩
  go_wp2_with fail
  go_ret
  exact ⟨rfl, hB0.trans (hb1.mono hB0.size)⟩
set_option maxHeartbeats 1000000 in
theorem alone18_all (W : World) (TI : TabI W) (TO : TabO W) (a th : Int) (t : Nat) (h1 : 1 ≤ th ∧ th ≤ 4) (ha : 0 ≤ a ∧ a < th) (ht : (t : Int) < th) (bo bt : Nat) (ho : W.heap[bo]? = some (.cells #[.int .i64 8, .int .i64 0, .int .i64 a, .int .i64 0] 26 (0, 0))) (hbt : W.heap[bt]? = some (.cells #[.int .i64 th] 3 (0, 0))) :
    Calls Tryd.prog 12 #[.agg #[.int .i64 8, .int .i64 0, .int .i64 a, .int .i64 0], .int .i64 th, .int .i64 (t : Int), .func (.func 30) #[] #[.pointer (some ⟨bo, 0, none⟩), .pointer (some ⟨bt, 0, none⟩)]] W fun e w' => e = .returned (.int .i64 1) ∧ Below W.heap.size W w' := by
  have hR : RightP 8 0 a 0 th := by unfold RightP; omega
  have hA1 : AskP 8 0 a 0 1 th t := ⟨hR, by omega, ht, by decide⟩
  have hA2 : AskP 8 0 a 0 2 th t := ⟨hR, by omega, ht, by decide⟩
  by_cases e : a = (t : Int)
  · subst e
    have hg := good_bown ⟨t, by omega⟩
    obtain ⟨g1, g2, g3, g4, g5, g6, g7⟩ := goodCase_parts hg
    refine aloneW_any W 8 0 t 0 th t _ (fun V hV => alone_any V (TI.below hV (Nat.le_refl _)) 8 0 t 0 th t (by omega) 30 #[.pointer (some ⟨bo, 0, none⟩), .pointer (some ⟨bt, 0, none⟩)] (resL (linBiasOwn 16 t)) (resL (linBiasLeave 16 t)) [0, 0, 0, 0] 3 ?_ ?_ ?_ (fun args w => enters_of Tryd.func30 (by kernel_rfl) rfl args w) (by decide) g1 g2 g3 g4 g5 g6 g7)
    · intro W' hb0
      have hb := hV.trans (hb0.mono hV.size)
      exact maker18_1 W' 8 0 t 0 th 1 t bo bt _ ((hb.block bo (Array.getElem?_eq_some_iff.1 ho).1).trans ho) ((hb.block bt (Array.getElem?_eq_some_iff.1 hbt).1).trans hbt) (codeBiasOwn_any W' (TI.below hb (Nat.le_refl _)) (TO.below hb (Nat.le_refl _)) 0 0 th 0 t 16 hA1 (by omega) (by omega))
    · intro W' hb0
      have hb := hV.trans (hb0.mono hV.size)
      exact maker18_1 W' 8 0 t 0 th 2 t bo bt _ ((hb.block bo (Array.getElem?_eq_some_iff.1 ho).1).trans ho) ((hb.block bt (Array.getElem?_eq_some_iff.1 hbt).1).trans hbt) (codeBiasLeave_any W' (TI.below hb (Nat.le_refl _)) (TO.below hb (Nat.le_refl _)) 0 0 th 0 t 16 hA2 (by omega) (by omega))
    · intro W' hb0
      have hb := hV.trans (hb0.mono hV.size)
      exact first_8 W' (TO.below hb (Nat.le_refl _)) 0 t 0 th hR
  · have he : ((t : Int) == a) = false := by simp; omega
    have hg := good_both ⟨t, by omega⟩
    obtain ⟨g1, g2, g3, g4, g5, g6, g7⟩ := goodCase_parts hg
    refine aloneW_any W 8 0 a 0 th t _ (fun V hV => alone_any V (TI.below hV (Nat.le_refl _)) 8 0 a 0 th t (by omega) 30 #[.pointer (some ⟨bo, 0, none⟩), .pointer (some ⟨bt, 0, none⟩)] (resL (linBiasOther 16 t)) (resL (linBiasOut 16 t)) [0, 0, 0, 0] 3 ?_ ?_ ?_ (fun args w => enters_of Tryd.func30 (by kernel_rfl) rfl args w) (by decide) g1 g2 g3 g4 g5 g6 g7)
    · intro W' hb0
      have hb := hV.trans (hb0.mono hV.size)
      exact maker18_1 W' 8 0 a 0 th 1 t bo bt _ ((hb.block bo (Array.getElem?_eq_some_iff.1 ho).1).trans ho) ((hb.block bt (Array.getElem?_eq_some_iff.1 hbt).1).trans hbt) (codeBiasOther_any W' (TI.below hb (Nat.le_refl _)) (TO.below hb (Nat.le_refl _)) 0 a 0 th 0 t 16 hA1 (by omega) (by omega) he)
    · intro W' hb0
      have hb := hV.trans (hb0.mono hV.size)
      exact maker18_1 W' 8 0 a 0 th 2 t bo bt _ ((hb.block bo (Array.getElem?_eq_some_iff.1 ho).1).trans ho) ((hb.block bt (Array.getElem?_eq_some_iff.1 hbt).1).trans hbt) (codeBiasOut_any W' (TI.below hb (Nat.le_refl _)) (TO.below hb (Nat.le_refl _)) 0 a 0 th 0 t 16 hA2 (by omega) (by omega) he)
    · intro W' hb0
      have hb := hV.trans (hb0.mono hV.size)
      exact first_8 W' (TO.below hb (Nat.le_refl _)) 0 a 0 th hR
set_option maxHeartbeats 4000000 in
theorem biasAlone_any (w : World) (TI : TabI w) (TO : TabO w) (x0 x1 x2 x3 tv : Int) (h0 : 0 ≤ x0 ∧ x0 ≤ 255) (h1 : 0 ≤ x1 ∧ x1 ≤ 255) (h2 : 0 ≤ x2 ∧ x2 ≤ 255) (h3 : 0 ≤ x3 ∧ x3 ≤ 255) (h4 : 0 ≤ tv ∧ tv ≤ 255) :
    Calls Tryd.prog 4 #[.agg #[.int .u8 x0, .int .u8 x1, .int .u8 x2, .int .u8 x3], .int .u8 tv] w fun e w' => e = .returned (.bool true) ∧ Below w.heap.size w w' := by
  obtain ⟨th, hth⟩ : ∃ th, 1 + x1 % 4 = th := ⟨_, rfl⟩
  have hth4 : 1 ≤ th ∧ th ≤ 4 := by omega
  obtain ⟨a, ha⟩ : ∃ a, x0 % th = a := ⟨_, rfl⟩
  have hA4 : 0 ≤ a ∧ a < th := by rw [← ha]; exact ⟨Int.emod_nonneg x0 (by omega), Int.emod_lt_of_pos x0 (by omega)⟩
  have hz : (th == 0) = false := by simp; omega
  have htv : IntKind.i64.wrap tv = tv := by rw [IntKind.wrap_i64]; omega
  obtain ⟨t, ht⟩ : ∃ t : Nat, tv.tmod th = (t : Int) := ⟨(tv % th).toNat, by
    rw [Int.tmod_eq_emod_of_nonneg h4.1]
    have := Int.emod_nonneg tv (by omega : th ≠ 0)
    omega⟩
  have htl : (t : Int) < th := by
    rw [← ht, Int.tmod_eq_emod_of_nonneg h4.1]
    exact Int.emod_lt_of_pos tv (by omega)
  have hB0 : Below w.heap.size w (w.alloc (.cells #[.int .u8 x0, .int .u8 x1, .int .u8 x2, .int .u8 x3] 35)) := (Below.refl _ w).alloc (Nat.le_refl _) _
  have haw := awake18_any _ (TI.below hB0 (Nat.le_refl _)) (TO.below hB0 (Nat.le_refl _))
  have hob := fun W => object18 W x0 x1 x2 x3 h0 h1 h2 h3
  rw [hth, ha] at hob
  have hAL : ∀ W, Below w.heap.size w W → ∀ bo bt, W.heap[bo]? = some (.cells #[.int .i64 8, .int .i64 0, .int .i64 a, .int .i64 0] 26 (0, 0)) → W.heap[bt]? = some (.cells #[.int .i64 th] 3 (0, 0)) → Calls Tryd.prog 12 #[.agg #[.int .i64 8, .int .i64 0, .int .i64 a, .int .i64 0], .int .i64 th, .int .i64 (t : Int), .func (.func 30) #[] #[.pointer (some ⟨bo, 0, none⟩), .pointer (some ⟨bt, 0, none⟩)]] W fun e w' => e = .returned (.int .i64 1) ∧ Below W.heap.size W w' :=
    fun W hW bo bt ho hbt => alone18_all W (TI.below hW (Nat.le_refl _)) (TO.below hW (Nat.le_refl _)) a th t hth4 hA4 htl bo bt ho hbt
  clear ha hth
  go_enter Tryd.func4, Tryd.ntmps4
  go_wp2_with (first
    | (go_at_call 10; refine haw.mono ?_; rintro r w1 ⟨rfl, hb1⟩; have c0 : w1.cell? ⟨w.heap.size, 0, none⟩ = some (.int .u8 x0) := cell_of_row w1 _ 0 _ _ _ ((hb1.block w.heap.size (by simp)).trans (heap_alloc_new _ _)); have c1 : w1.cell? ⟨w.heap.size, 1, none⟩ = some (.int .u8 x1) := cell_of_row w1 _ 1 _ _ _ ((hb1.block w.heap.size (by simp)).trans (heap_alloc_new _ _)); have c2 : w1.cell? ⟨w.heap.size, 2, none⟩ = some (.int .u8 x2) := cell_of_row w1 _ 2 _ _ _ ((hb1.block w.heap.size (by simp)).trans (heap_alloc_new _ _)); have c3 : w1.cell? ⟨w.heap.size, 3, none⟩ = some (.int .u8 x3) := cell_of_row w1 _ 3 _ _ _ ((hb1.block w.heap.size (by simp)).trans (heap_alloc_new _ _)))
    | (go_at_call 11; refine (hob _).mono ?_; rintro r w2 ⟨⟨rr, mm, rfl⟩, hb2⟩))
  have hB2 : Below w.heap.size w w2 := (hB0.trans (hb1.mono (by simp))).trans (hb2.mono (by have := hb1.size; simp at this; omega))
  obtain ⟨WR, hWR⟩ : ∃ WR, (w2.alloc (.cells #[.int .i64 8, .int .i64 0, .int .i64 a, .int .i64 0] 26)) = WR := ⟨_, rfl⟩
  have hO : WR.heap[w2.heap.size]? = some (.cells #[.int .i64 8, .int .i64 0, .int .i64 a, .int .i64 0] 26 (0, 0)) := by rw [← hWR]; exact heap_alloc_new _ _
  have hBR : Below w.heap.size w WR := by rw [← hWR]; exact hB2.alloc hB2.size _
  rw [hWR]
  clear hWR c0 c1 c2 c3 hb1 hb2
  obtain ⟨o0, o1, o2, o3⟩ := cellsQ4 (show WR.drew.heap[w2.heap.size]? = _ from hO)
  have hm := maker18_any WR.drew 8 0 a 0 th
  have hq := hAL ((WR.drew.alloc (.cells #[.int .i64 8, .int .i64 0, .int .i64 a, .int .i64 0] 26)).alloc (.cells #[.int .i64 th] 3)) (((bl_drew hBR).alloc (by have := hBR.size; simpa using this) _).alloc (by have := hBR.size; simp; omega) _) WR.heap.size (WR.heap.size + 1) (at_alloc (at_new rfl)) (at_new (by simp))
  have k0 : ∀ j v, WR.drew.cell? ⟨w2.heap.size, j, none⟩ = some v → ((WR.drew.alloc (.cells #[.int .i64 8, .int .i64 0, .int .i64 a, .int .i64 0] 26)).alloc (.cells #[.int .i64 th] 3)).cell? ⟨w2.heap.size, j, none⟩ = some v := fun j v h => alloc_cell1 (alloc_cell1 h)
  have p0 := k0 _ _ o0; have p1 := k0 _ _ o1; have p2 := k0 _ _ o2; have p3 := k0 _ _ o3
  go_region_held (fun w' => w'.cell? ⟨w2.heap.size, 0, none⟩ = some (.int .i64 8) ∧ w'.cell? ⟨w2.heap.size, 1, none⟩ = some (.int .i64 0) ∧ w'.cell? ⟨w2.heap.size, 2, none⟩ = some (.int .i64 a) ∧ w'.cell? ⟨w2.heap.size, 3, none⟩ = some (.int .i64 0)) (first | exact ⟨o0, o1, o2, o3⟩ | exact ⟨p0, p1, p2, p3⟩ | exact ⟨(hb4.cell (block_lt_of_cell p0)).trans p0, (hb4.cell (block_lt_of_cell p1)).trans p1, (hb4.cell (block_lt_of_cell p2)).trans p2, (hb4.cell (block_lt_of_cell p3)).trans p3⟩) (first
    | (go_at_call 13; refine hm.mono ?_; rintro r w3 ⟨rfl, rfl⟩)
    | (go_at_call 12; refine hq.mono ?_; rintro r w4 ⟨rfl, hb4⟩))
  all_goals go_wp2_with fail
  all_goals go_ret
  all_goals exact ⟨rfl, (((bl_drew hBR).alloc (by have := hBR.size; simpa using this) _).alloc (by have := hBR.size; simp; omega) _).trans (hb4.mono (by have := hBR.size; simp; omega))⟩
end Go.Proofs.YtackbadmcgjncaaDoor.As

namespace Go.Proofs.YtackbadmcgjncaaDoor.As
open Go.ChangeShapes Go.WideShapes Go.ChangeAt Go.RowKit

/-- A string, as a value. -/
def str (l : B8) : Value := .string ⟨l.toArray⟩
def layG (h : Array Obj) (g : Nat) (cs : Array Value) : Array Obj := h.modify g fun
  | .cells _ t frozen => .cells cs t frozen
  | o => o
def strData {H : Type} (ss : List B8) : DataW H := .agg (ss.map fun s => .lit (.string s))
/-- An array of strings that reads as a table holds the table's strings. -/
theorem cells_of_strs {H : Type} {enc : TypeId × Value → H} {P : Program} {w : World} {base : Nat} {sp : Nat → Bool} {held : Bool} {fuel : Nat} {t e : TypeId} {n : Nat} {cs : List Value} {ss : List B8} {p : List MemPlace}
    (ht : P.underlying t = some (.array n e)) (he : P.underlying e = some .string) (hce : P.cellsOf e = 1) (hct : P.cellsOf t = n)
    (h : DataW.trod enc P w base sp held fuel t cs = some (strData ss, p)) : cs = ss.map str := by
  cases fuel with
  | zero => simp [DataW.trod] at h
  | succ fuel =>
    simp only [DataW.trod, ht, hce, hct, Nat.mul_one] at h
    split at h
    · rename_i hl
      obtain ⟨xs, hm, hx⟩ := Option.map_eq_some_iff.1 h
      have hxs : xs.map (·.1) = ss.map fun s => (DataW.lit (.string s) : DataW H) := by
        have := congrArg Prod.fst hx
        simpa [strData] using this
      have hxl : xs.length = n := by simpa using Lib.mapM_length hm
      have hzl : ss.length = n := by
        have := congrArg List.length hxs
        simp at this
        omega
      apply List.ext_getElem?
      intro i
      by_cases hi : i < n
      · obtain ⟨b, hb, hf⟩ := Lib.mapM_at hm i i (by simp [hi])
        obtain ⟨s, hc, rfl, _⟩ := DataW.trod_string he hf
        have h1 : cs[i]? = some (.string s) := by
          have := congrArg (·[0]?) hc
          simpa [List.getElem?_take, List.getElem?_drop] using this
        have h2 : (xs.map (·.1))[i]? = some (DataW.lit (.string s.data.toList) : DataW H) := by simp [hb]
        rw [hxs] at h2
        simp only [List.getElem?_map, Option.map_eq_some_iff, DataW.lit.injEq, Lit.string.injEq] at h2
        obtain ⟨z', hz', e'⟩ := h2
        rw [h1, List.getElem?_map, hz', e']; rfl
      · rw [List.getElem?_eq_none (by omega), List.getElem?_eq_none (by simp; omega)]
    · cases h
theorem gUses : Tryd.prog.globalNamed "deadlatch/isa.uses" = some 0 := by kernel_rfl
theorem gNames : Tryd.prog.globalNamed "deadlatch/isa.names" = some 1 := by kernel_rfl
theorem gObj : Tryd.prog.globalNamed "deadlatch/obj.names" = some 2 := by kernel_rfl
def laid3 : List (String × DataW Unit) := [("deadlatch/isa.uses", Lib.tabData .i64 opUses), ("deadlatch/isa.names", strData opNames), ("deadlatch/obj.names", strData kindNames)]
/-- What a row's list gives. -/
theorem tables {W : World} (h : laidMetH Tryd.prog laid3 W) : TabI W ∧ TabO W := by
  have h' : laidMet Tryd.prog laid3 W := h
  obtain ⟨ps, ⟨g0, t0, cs0, f0, p0, q0, hg0, ht0, hv0, hd0, ⟨g1, t1, cs1, f1, p1, q1, hg1, ht1, hv1, hd1, ⟨g2, t2, cs2, f2, p2, q2, hg2, ht2, hv2, hd2, _, _⟩, _⟩, _⟩, _⟩ := h'
  obtain rfl := Option.some.inj (gUses.symm.trans hg0)
  obtain rfl := Option.some.inj (gNames.symm.trans hg1)
  obtain rfl := Option.some.inj (gObj.symm.trans hg2)
  obtain rfl := Option.some.inj ((show (Tryd.prog.globals[0]?).map (·.type) = some 129 by kernel_rfl).symm.trans ht0)
  obtain rfl := Option.some.inj ((show (Tryd.prog.globals[1]?).map (·.type) = some 153 by kernel_rfl).symm.trans ht1)
  obtain rfl := Option.some.inj ((show (Tryd.prog.globals[2]?).map (·.type) = some 156 by kernel_rfl).symm.trans ht2)
  have e0 := Lib.cells_of_tab Tryd.underlying129 Tryd.underlying3 (by kernel_rfl) (by kernel_rfl) hd0
  have e1 := cells_of_strs Tryd.underlying153 Tryd.underlying9 (by kernel_rfl) (by kernel_rfl) hd1
  have e2 := cells_of_strs Tryd.underlying156 Tryd.underlying9 (by kernel_rfl) (by kernel_rfl) hd2
  have k0 := World.var?_cell gUses (show W.var? Tryd.prog "deadlatch/isa.uses" = some (opUses.map fun z => Value.int .i64 z).toArray by rw [hv0, ← e0])
  have k1 := World.var?_cell gNames (show W.var? Tryd.prog "deadlatch/isa.names" = some (opNames.map str).toArray by rw [hv1, ← e1])
  have k2 := World.var?_cell gObj (show W.var? Tryd.prog "deadlatch/obj.names" = some (kindNames.map str).toArray by rw [hv2, ← e2])
  refine ⟨⟨fun i hi => ?_, fun i hi => ?_⟩, ⟨fun i hi => ?_⟩⟩
  · have hl : i < opNames.length := hi
    rw [k1 i]
    simp [List.getD, hl, str]
  · have hl : i < opUses.length := hi
    rw [k0 i]
    simp [List.getD, hl]
  · have hl : i < kindNames.length := hi
    rw [k2 i]
    simp [List.getD, hl, str]
theorem list4 {α : Type} : ∀ {l : List α}, l.length = 4 → ∃ a b c d, l = [a, b, c, d]
  | [a, b, c, d], _ => ⟨a, b, c, d, rfl⟩
theorem get_some {α : Type} {xs : List α} {i n : Nat} (h : xs.length = n) (hi : i < n) : ∃ y, xs[i]? = some y := ⟨_, List.getElem?_eq_getElem (by omega)⟩
/-- What is drawn for a case, opened. -/
theorem case_shape {H : Type} {enc : TypeId × Value → H} {W : World} {b0 base : Nat} {r : Reach} {sp : Nat → Bool} {held : Bool} {v : Value} {d : DataW H} {p : List MemPlace}
    (hv : Value.okWide Tryd.prog W r b0 35 v) (h : DataW.Trod enc Tryd.prog W base sp held 35 v d p) :
    ∃ (a b c e : Int), v = .agg #[.int .u8 a, .int .u8 b, .int .u8 c, .int .u8 e] ∧ (0 ≤ a ∧ a ≤ 255) ∧ (0 ≤ b ∧ b ≤ 255) ∧ (0 ≤ c ∧ c ≤ 255) ∧ (0 ≤ e ∧ e ≤ 255) := by
  obtain ⟨cs, rfl, hsz⟩ := okWide_struct Tryd.underlying35 hv
  obtain ⟨fuel, hf⟩ := h
  obtain ⟨l⟩ := cs
  have z4 : Tryd.prog.cellsOf 35 = 4 := by kernel_rfl
  have z1 : Tryd.prog.cellsOf 5 = 1 := by kernel_rfl
  obtain ⟨x0, x1, x2, x3, rfl⟩ := list4 (show l.length = 4 from hsz.trans z4)
  obtain ⟨xs, n, _, _, hl, hx, hfs⟩ := DataW.trod_struct Tryd.underlying35 hf
  have hx4 : xs.length = 4 := hx
  have f0 : DataW.trod enc Tryd.prog W base sp held n 5 (List.take (Tryd.prog.cellsOf 5) [x0, x1, x2, x3]) = xs[0]? := hfs 0 _ rfl
  have f1 : DataW.trod enc Tryd.prog W base sp held n 5 (List.take (Tryd.prog.cellsOf 5) [x1, x2, x3]) = xs[1]? := hfs 1 _ rfl
  have f2 : DataW.trod enc Tryd.prog W base sp held n 5 (List.take (Tryd.prog.cellsOf 5) [x2, x3]) = xs[2]? := hfs 2 _ rfl
  have f3 : DataW.trod enc Tryd.prog W base sp held n 5 (List.take (Tryd.prog.cellsOf 5) [x3]) = xs[3]? := hfs 3 _ rfl
  rw [z1] at f0 f1 f2 f3
  obtain ⟨y0, hy0⟩ := get_some hx4 (show 0 < 4 by decide)
  obtain ⟨y1, hy1⟩ := get_some hx4 (show 1 < 4 by decide)
  obtain ⟨y2, hy2⟩ := get_some hx4 (show 2 < 4 by decide)
  obtain ⟨y3, hy3⟩ := get_some hx4 (show 3 < 4 by decide)
  obtain ⟨a, ha, _, wa⟩ := DataW.trod_int Tryd.underlying5 (f0.trans hy0)
  obtain ⟨b, hb, _, wb⟩ := DataW.trod_int Tryd.underlying5 (f1.trans hy1)
  obtain ⟨c, hc, _, wc⟩ := DataW.trod_int Tryd.underlying5 (f2.trans hy2)
  obtain ⟨e, he, _, we⟩ := DataW.trod_int Tryd.underlying5 (f3.trans hy3)
  simp only [List.take_succ_cons, List.take_zero, List.cons.injEq, and_true] at ha hb hc he
  subst ha hb hc he
  simp [Lit.wf] at wa wb wc we
  have e1 : IntKind.u8.min = 0 := by decide
  have e2 : IntKind.u8.max = 255 := by decide
  exact ⟨a, b, c, e, rfl, by omega, by omega, by omega, by omega⟩
end Go.Proofs.YtackbadmcgjncaaDoor.As

namespace Go.Proofs.YtackbadmcgjncaaDoor.biasAloneL
open Go.ChangeShapes Go.WideShapes Go.ChangeAt Go.RowKit
open Go.Proofs.YtackbadmcgjncaaDoor.As

theorem own : ownKnob Tryd.prog.godebug = none := by kernel_rfl
theorem laidOut : laidOutB Tryd.prog = true := by kernel_rfl

theorem laid_eq : Rows.biasAloneRow.laid = laid3 := by kernel_rfl
set_option maxRecDepth 100000 in
/-- What the walks give, for every argument and every world that holds the tables. -/
theorem contract (H : Type) (enc : TypeId × Value → H) (W : World) (base : Nat) (args : Array Value) (ds gs : List (DataW H)) (before : List MemPlace)
    (hval : ∀ (j : Nat) t v, Tryd.f4.params[j]? = some t → args[j]? = some v → Value.okWide Tryd.prog W .any base t v)
    (hW : DataW.Whole enc Tryd.prog Tryd.f4.params.toList Rows.biasAloneSpec.vars false W args.toList ds gs before) (hL : laidMetH Tryd.prog Rows.biasAloneRow.laid W) :
    Calls Tryd.prog 4 args W fun e W' => ∃ v, e = .returned v ∧ Rows.biasAloneSpec.post enc Tryd.prog Tryd.f4 false true false false W args v W' := by
  have hW' := hW
  obtain ⟨p, q, hA0, hV, rfl, hfz, hnd⟩ := hW
  have hA : DataW.TrodAll enc Tryd.prog W 0 (fun _ => true) true Tryd.f4.params.toList args.toList ds p := hA0
  rw [Tryd.params4] at hA hval
  obtain ⟨v0, vs0, d0, ds0, p0, q0, hargs, rfl, rfl, h0, r0⟩ := trodAll_cons hA
  obtain ⟨v1, vs1, d1, ds1, p1, q1, rfl, rfl, rfl, h1, r1⟩ := trodAll_cons r0
  obtain ⟨rfl, rfl, rfl⟩ := trodAll_nil r1
  obtain rfl : args = #[v0, v1] := by cases args; simp_all
  have k0 := h0
  have lt0 : ∀ x ∈ p0, x.block < W.heap.size := by obtain ⟨m, hm⟩ := k0; exact DataW.trod_lt m _ _ _ hm
  obtain ⟨x0, x1, x2, x3, rfl, b0, b1, b2, b3⟩ := case_shape (hval 0 35 v0 rfl rfl) h0
  obtain ⟨a1, rfl, rfl, rfl, w1⟩ := open_int Tryd.underlying5 (hval 1 5 v1 rfl rfl) h1
  have w1' := w1
  simp [Lit.wf] at w1'
  have e3 : IntKind.u8.min = 0 := by decide
  have e4 : IntKind.u8.max = 255 := by decide
  obtain ⟨rfl, rfl⟩ := trodVars_none hV
  clear hA0
  obtain ⟨TI, TO⟩ := tables (laid_eq ▸ hL)
  refine (biasAlone_any W TI TO x0 x1 x2 x3 a1 b0 b1 b2 b3 (by omega)).mono fun e W' ⟨he, bel⟩ => ?_
  subst he
  exact ⟨_, rfl, _, _, _, [], _, [], hW', trodAll_mk1 (shut_bool Tryd.underlying4 _), (trodAll_cons_mk (Below.trod laidOut (by kernel_rfl) (of_decide_eq_true (by kernel_rfl)) k0 bel lt0) (trodAll_cons_mk (shut_int Tryd.underlying5 w1) trodAll_mk0)), rfl, bel.frame _, fun h => by cases h⟩

/-- A world for the witness: the settled one, the tables as their initialisers lay them. -/
noncomputable def laidWorld (os : Os) : World :=
  { World.holding Tryd.prog os ⟨#[], #[], []⟩ with heap := layG (layG (layG (World.holding Tryd.prog os ⟨#[], #[], []⟩).heap 0 (opUses.map (Value.int .i64)).toArray) 1 (opNames.map str).toArray) 2 (kindNames.map str).toArray }
theorem laid_met (os : Os) : laidMet Tryd.prog Rows.biasAloneRow.laid ((laidWorld os).forCall (fun _ _ => 0) ⟨#[], #[.agg #[.int .u8 0, .int .u8 0, .int .u8 0, .int .u8 0], .int .u8 0], []⟩).memory :=
  laidMet_of_run' 8 (by kernel_rfl) (by kernel_rfl)
theorem reads (os : Os) {H : Type} (enc : TypeId × Value → H) : ∃ places, DataW.whole enc Tryd.prog ((laidWorld os).forCall (fun _ _ => 0) ⟨#[], #[.agg #[.int .u8 0, .int .u8 0, .int .u8 0, .int .u8 0], .int .u8 0], []⟩).memory Tryd.f4.params.toList Rows.biasAloneSpec.vars false #[.agg #[.int .u8 0, .int .u8 0, .int .u8 0, .int .u8 0], .int .u8 0].toList 8 = some ([.agg [.lit (.int .u8 0), .lit (.int .u8 0), .lit (.int .u8 0), .lit (.int .u8 0)], .lit (.int .u8 0)], [], places) :=
  ⟨[], by kernel_rfl⟩

set_option maxRecDepth 100000 in
theorem lifted (os : Os) (started : os.Started) (H : Type) (enc : TypeId × Value → H) (F : Stop.Interp) :
    ReturnsInHanded {} Tryd.checked os 4 .any ((OpenSpec.ofChange Rows.biasAloneSpec).preRow enc Tryd.prog Tryd.f4 Rows.biasAloneRow.domain false Rows.biasAloneRow.laid) (((OpenSpec.ofChange Rows.biasAloneSpec).at F).post enc Tryd.prog Tryd.f4 false true false false) := by
  obtain ⟨places, hx⟩ := reads os enc
  refine returnsInHanded_of_row (C := Tryd.checked) (s := OpenSpec.ofChange Rows.biasAloneSpec) own started (by kernel_rfl) Tryd.func4
    (witness_row_at (enc := enc) (C := Tryd.checked) false (laidWorld os) #[.agg #[.int .u8 0, .int .u8 0, .int .u8 0, .int .u8 0], .int .u8 0] rfl (by kernel_rfl) (by kernel_rfl) (by kernel_rfl)
      (OpenSpec.preRow_of_cond 8 hx (by kernel_rfl) (fun k hk => by cases hk) (by kernel_rfl) (laid_met os))) ?_
  intro W base args ds gs before hval hW _ _ _ hL _ _
  exact contract H enc W base args ds gs before hval hW hL
theorem said : Rows.BiasAloneSaid :=
  OpenClaim.holds_of_cond 4 Tryd.f4 rfl rfl rfl rfl rfl rfl rfl ⟨rfl, rfl, rfl, rfl, rfl⟩ rfl rfl rfl rfl rfl (by kernel_rfl) Tryd.func4 (by kernel_rfl)
    (of_decide_eq_true (by kernel_rfl)) (by unfold Func.isWrapper; first | (rw [if_pos (by decide +kernel)]; kernel_rfl) | (rw [if_neg (by decide +kernel)]; exact ⟨rfl, rfl⟩))
    (fun os started H enc _ F => by rw [OpenClaim.pre_eq_preRow]; exact lifted os started H enc F)
theorem plain (f : FuncId) (fn : Func) (hf : Tryd.pinned.checked.prog.funcNamed "deadlatch/deadlatchlaw18.BiasAlone" = some f) (hfn : Tryd.pinned.checked.prog.funcs[f]? = some fn) :
    false = Tryd.pinned.checked.prog.looks [] ∧ ∀ (j : Nat) t, fn.params[j]? = some t → Tryd.pinned.checked.prog.wantsStandIn t = false := by
  obtain rfl : f = 4 := Option.some.inj ((show Tryd.prog.funcNamed "deadlatch/deadlatchlaw18.BiasAlone" = some 4 by kernel_rfl).symm.trans hf) |>.symm
  obtain rfl : fn = Tryd.f4 := (Option.some.inj (Tryd.func4.symm.trans hfn)).symm
  refine ⟨by kernel_rfl, fun j t ht => ?_⟩
  rw [Tryd.params4] at ht
  have ht2 : t = 35 ∨ t = 5 := by simpa using Array.mem_of_getElem? ht
  rcases ht2 with rfl | rfl
  · exact (show Tryd.prog.wantsStandIn 35 = false by kernel_rfl)
  · exact (show Tryd.prog.wantsStandIn 5 = false by kernel_rfl)

/-- The card. -/
theorem card : Rows.BiasAloneCardSaid :=
  Claim7.holds_tied_plain_at .later [] _ _ _ _ said (fun _ h => by cases h) (by kernel_rfl) (fun _ h => by cases h) biasAlone_row_tie rfl ⟨rfl, rfl⟩ (by kernel_rfl) rfl plain (by kernel_rfl)
#print axioms card
end Go.Proofs.YtackbadmcgjncaaDoor.biasAloneL
