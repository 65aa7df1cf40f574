/- The walks of the packages mutex and deadlatchlaw20: no code; the law on code. -/
import Derived.Test.YtcnmhgblbikfkaaGreatDoorMuE
import Derived.Test.YtcnmhgblbikfkaaGreatDoorGv
import Derived.Test.YtcnmhgblbikfkaaGreatDoorCode15
import Derived.Test.YtcnmhgblbikfkaaGreatDoorGw
import Derived.Test.YtcnmhgblbikfkaaGreatDoorSpinLaw
import Derived.Deep.RegionHeld
set_option linter.unusedVariables false
set_option linter.unusedSimpArgs false
namespace Go.Proofs.YtcnmhgblbikfkaaGreatDoor.As
open Go.RowKit

theorem truth_any (w : World) : Calls Tryz.prog 51 #[.bool true] w fun e w' => e = .returned (.int .i64 1) ∧ w' = w := by
  go_enter Tryz.func51, Tryz.ntmps51
  go_wp2_with fail
  go_ret
  exact ⟨rfl, rfl⟩

theorem sameN_any (w : World) (v u : Value) (l : List Ins) (n : Nat) (hn : l.length = n) (hv : Rd w 5 v n (flat l)) (hu : Rd w 5 u n (flat l)) (hs : n ≤ 1000000) :
    Calls Tryz.prog 14 #[v, u] w fun e w' => e = .returned (.int .i64 1) ∧ ∃ m, w' = w.drewN m := by
  go_enter Tryz.func14, Tryz.ntmps14
  go_wp2_with (go_at_call 52; refine (same15_any _ _ _ l n hn hv hu hs).mono ?_; rintro e w1 ⟨rfl, m, rfl⟩)
  refine (truth_any _).mono ?_; rintro e w2 ⟨rfl, rfl⟩
  go_wp2_with fail
  go_ret
  exact ⟨rfl, m, rfl⟩

set_option maxHeartbeats 4000000 in
theorem no20_any (w : World) (TO : TabO w) (k n a b c th t : Int) (base ar : Int) (h : ¬ (AskP k n a b c th t ∧ (k = 10 ∨ k = 11))) :
    Calls Tryz.prog 10 #[.agg #[.int .i64 k, .int .i64 n, .int .i64 a, .int .i64 b], .int .i64 c, .int .i64 th, .int .i64 t, .int .u32 base, .int .u32 ar] w (NoCode w) := by
  have ha : ∀ o, Below w.heap.size w (w.alloc o) := fun o => (Below.refl _ w).alloc (Nat.le_refl _) o
  have TA : ∀ o, TabO (w.alloc o) := fun o => TO.below (ha o) (Nat.le_refl _)
  by_cases h0 : k = 10
  · subst h0
    have dA : decide (AskP 10 n a b c th t) = false := decide_eq_false (fun e => h ⟨e, by omega⟩)
    clear h
    go_enter Tryz.func10, Tryz.ntmps10
    go_wp2_with (go_at_call 34; refine (spinMay_any _ (TA _) _ _ _ _ _ _ _).mono ?_; rintro e w1 ⟨rfl, hb1⟩)
    go_ret2
    exact ⟨rfl, (ha _).trans (hb1.mono (ha _).size)⟩
  have b0 : (k == 10) = false := by simp [h0]
  have m0 : (k != 10) = true := by simp [h0]
  by_cases h1 : k = 11
  · subst h1
    have dA : decide (AskP 11 n a b c th t) = false := decide_eq_false (fun e => h ⟨e, by omega⟩)
    clear h
    go_enter Tryz.func10, Tryz.ntmps10
    go_wp2_with (go_at_call 34; refine (spinMay_any _ (TA _) _ _ _ _ _ _ _).mono ?_; rintro e w1 ⟨rfl, hb1⟩)
    go_ret2
    exact ⟨rfl, (ha _).trans (hb1.mono (ha _).size)⟩
  have b1 : (k == 11) = false := by simp [h1]
  have m1 : (k != 11) = true := by simp [h1]
  clear h
  go_enter Tryz.func10, Tryz.ntmps10
  go_wp2_with fail
  go_ret2
  exact ⟨rfl, ha _⟩

theorem pick20 {w : World} {g : Nat} {a b c d e f h i j : Value} {t : TypeId} (hx : w.heap[g]? = some (.cells #[a, b, c, d, e, f, h, i, j] t (0, 0))) :
    w.cell? ⟨g, 0, none⟩ = some a ∧ w.cell? ⟨g, 2, none⟩ = some c ∧ w.cell? ⟨g, 4, none⟩ = some e ∧ w.cell? ⟨g, 6, none⟩ = some h ∧ w.cell? ⟨g, 7, none⟩ = some i := by
  obtain ⟨c0, c1, c2, c3, c4, c5, c6, c7, c8⟩ := cells9 hx
  exact ⟨c0, c2, c4, c6, c7⟩

set_option maxHeartbeats 4000000 in
theorem law20_M (w : World) (TI : TabI w) (TO : TabO w) (n a b : Int) (c th ar : Int) (t base : Nat) (src : List B8) (lin : List Ln) (hA : AskP 10 n a b c th t) (hb : base ≤ 65535) (ht : t ≤ 1000)
    (hcode : ∀ w, TabI w → TabO w → Calls Tryz.prog 10 #[.agg #[.int .i64 10, .int .i64 n, .int .i64 a, .int .i64 b], .int .i64 c, .int .i64 th, .int .i64 t, .int .u32 base, .int .u32 ar] w (CodeOk w lin))
    (htext : ∀ w, Calls Tryz.prog 13 #[.int .i64 10, .int .i64 c, .int .i64 a] w (TextPost w (unl src)))
    (hp : parseB (fillB base t (unl src)) = (resL lin, 0, 0)) (h0 : unl src ≠ []) (hsz : (unl src).length ≤ 10000) (hlen : (resL lin).length ≤ 1000000) :
    Calls Tryz.prog 3 #[.agg #[.int .i64 10, .int .i64 n, .int .i64 a, .int .i64 b, .int .i64 c, .int .i64 th, .int .i64 t, .int .u16 base, .int .u32 ar]] w fun e w' => e = .returned (.bool true) ∧ Below w.heap.size w w' := by
  have dA : decide (AskP 10 n a b c th t) = true := decide_eq_true hA
  have q1 : IntKind.u32.wrap (base : Int) = base := by rw [IntKind.wrap_u32]; omega
  have q2 : IntKind.i64.wrap (base : Int) = base := by rw [IntKind.wrap_i64]; omega
  have ha : ∀ o, Below w.heap.size w (w.alloc o) := fun o => (Below.refl _ w).alloc (Nat.le_refl _) o
  have TOA : ∀ o, TabO (w.alloc o) := fun o => TO.below (ha o) (Nat.le_refl _)
  have TIA : ∀ o, TabI (w.alloc o) := fun o => TI.below (ha o) (Nat.le_refl _)
  obtain ⟨N, hN⟩ : ∃ N, N = (resL lin).length := ⟨_, rfl⟩
  have hN6 : N ≤ 1000000 := by omega
  have HN := Lib.hid hN
  clear hN hlen hA TI TO
  go_enter Tryz.func3, Tryz.ntmps3
  go_wp2_with fail
  refine (T.awake20_any _ (TIA _) (TOA _)).mono ?_; rintro e w1 ⟨rfl, hb1⟩
  have hx := new_keep hb1
  have TI1 := (TIA _).below hb1 (Nat.le_refl _)
  have TO1 := (TOA _).below hb1 (Nat.le_refl _)
  have hB1 := (ha _).trans (hb1.mono (ha _).size)
  obtain ⟨c0, c1, c2, c3, c4, c5, c6, c7, c8⟩ := cells9 hx
  go_wp2_with fail
  refine (hcode w1 TI1 TO1).mono ?_; rintro e w2 ⟨⟨v, rfl, hv⟩, hb2⟩
  rw [← HN.out] at hv
  have hRv := Rd.of_own hv
  clear hv
  obtain ⟨A, cap, rfl⟩ := hRv.form
  have hx2 := obj_keep hx hb2
  obtain ⟨d0, d1, d2, d3, d4, d5, d6, d7, d8⟩ := cells9 hx2
  go_wp2_with fail
  refine (may15_any w2 _ _ _ _ _ _ _).mono ?_; rintro e w4 ⟨rfl, hb4⟩
  have hx4 := obj_keep hx2 hb4
  obtain ⟨f0, f1, f2, f3, f4, f5, f6, f7, f8⟩ := cells9 hx4
  clear c0 c1 c2 c3 c4 c5 c6 c7 c8 d0 d1 d2 d3 d4 d5 d6 d7 d8
  go_wp2_with fail
  go_region_held (fun w' => w'.cell? ⟨w.heap.size, 0, none⟩ = some (.int .i64 10) ∧ w'.cell? ⟨w.heap.size, 2, none⟩ = some (.int .i64 a) ∧ w'.cell? ⟨w.heap.size, 4, none⟩ = some (.int .i64 c) ∧ w'.cell? ⟨w.heap.size, 6, none⟩ = some (.int .i64 t) ∧ w'.cell? ⟨w.heap.size, 7, none⟩ = some (.int .u16 base))
    (first | exact pick20 (obj_keep (obj_keep (w1 := w4.drew) hx4 hb5) hb6) | exact pick20 (obj_keep (w1 := w4.drew) hx4 hb5) | exact pick20 (show w4.drew.heap[w.heap.size]? = _ from hx4))
    (first
      | (go_at_call 13; refine (htext _).mono ?_; rintro e w5 ⟨⟨o, rfl, ho⟩, hb5⟩)
      | (go_at_call 12; refine (code15_any _ o base t (resL lin) (by rw [ho]; exact h0) (by rw [size_toList, ho]; exact hsz) (by omega) (by omega) (by rw [ho]; exact hp)).mono ?_; rintro e w6 ⟨⟨u, rfl, hu⟩, hb6⟩))
  go_wp2_with fail
  rw [← HN.out] at hu
  have hRu := Rd.of_own hu
  have hb5' : Below w4.heap.size w4 w5 := (bl_drew (Below.refl _ w4)).trans hb5
  have hRv6 := ((hRv.below hb4 (Nat.le_refl _)).below hb5' (Nat.le_refl _)).below hb6 (Nat.le_refl _)
  have hB2 := hB1.trans (hb2.mono hB1.size)
  have hB4 := hB2.trans (hb4.mono hB2.size)
  have hB5 := hB4.trans (hb5'.mono hB4.size)
  have hB6 := hB5.trans (hb6.mono hB5.size)
  refine (sameN_any _ _ _ (resL lin) N HN.out.symm hRv6 hRu (by omega)).mono ?_; rintro e w7 ⟨rfl, m, rfl⟩
  go_wp2_with fail
  go_ret
  exact ⟨rfl, bl_drewN hB6 m⟩

set_option maxHeartbeats 4000000 in
theorem law20_S (w : World) (TI : TabI w) (TO : TabO w) (n a b : Int) (c th ar : Int) (t base : Nat) (src : List B8) (lin : List Ln) (hA : AskP 11 n a b c th t) (hb : base ≤ 65535) (ht : t ≤ 1000)
    (hcode : ∀ w, TabI w → TabO w → Calls Tryz.prog 10 #[.agg #[.int .i64 11, .int .i64 n, .int .i64 a, .int .i64 b], .int .i64 c, .int .i64 th, .int .i64 t, .int .u32 base, .int .u32 ar] w (CodeOk w lin))
    (htext : ∀ w, Calls Tryz.prog 13 #[.int .i64 11, .int .i64 c, .int .i64 a] w (TextPost w (unl src)))
    (hp : parseB (fillB base t (unl src)) = (resL lin, 0, 0)) (h0 : unl src ≠ []) (hsz : (unl src).length ≤ 10000) (hlen : (resL lin).length ≤ 1000000) :
    Calls Tryz.prog 3 #[.agg #[.int .i64 11, .int .i64 n, .int .i64 a, .int .i64 b, .int .i64 c, .int .i64 th, .int .i64 t, .int .u16 base, .int .u32 ar]] w fun e w' => e = .returned (.bool true) ∧ Below w.heap.size w w' := by
  have dA : decide (AskP 11 n a b c th t) = true := decide_eq_true hA
  have q1 : IntKind.u32.wrap (base : Int) = base := by rw [IntKind.wrap_u32]; omega
  have q2 : IntKind.i64.wrap (base : Int) = base := by rw [IntKind.wrap_i64]; omega
  have ha : ∀ o, Below w.heap.size w (w.alloc o) := fun o => (Below.refl _ w).alloc (Nat.le_refl _) o
  have TOA : ∀ o, TabO (w.alloc o) := fun o => TO.below (ha o) (Nat.le_refl _)
  have TIA : ∀ o, TabI (w.alloc o) := fun o => TI.below (ha o) (Nat.le_refl _)
  obtain ⟨N, hN⟩ : ∃ N, N = (resL lin).length := ⟨_, rfl⟩
  have hN6 : N ≤ 1000000 := by omega
  have HN := Lib.hid hN
  clear hN hlen hA TI TO
  go_enter Tryz.func3, Tryz.ntmps3
  go_wp2_with fail
  refine (T.awake20_any _ (TIA _) (TOA _)).mono ?_; rintro e w1 ⟨rfl, hb1⟩
  have hx := new_keep hb1
  have TI1 := (TIA _).below hb1 (Nat.le_refl _)
  have TO1 := (TOA _).below hb1 (Nat.le_refl _)
  have hB1 := (ha _).trans (hb1.mono (ha _).size)
  obtain ⟨c0, c1, c2, c3, c4, c5, c6, c7, c8⟩ := cells9 hx
  go_wp2_with fail
  refine (hcode w1 TI1 TO1).mono ?_; rintro e w2 ⟨⟨v, rfl, hv⟩, hb2⟩
  rw [← HN.out] at hv
  have hRv := Rd.of_own hv
  clear hv
  obtain ⟨A, cap, rfl⟩ := hRv.form
  have hx2 := obj_keep hx hb2
  obtain ⟨d0, d1, d2, d3, d4, d5, d6, d7, d8⟩ := cells9 hx2
  go_wp2_with fail
  refine (may15_any w2 _ _ _ _ _ _ _).mono ?_; rintro e w4 ⟨rfl, hb4⟩
  have hx4 := obj_keep hx2 hb4
  obtain ⟨f0, f1, f2, f3, f4, f5, f6, f7, f8⟩ := cells9 hx4
  clear c0 c1 c2 c3 c4 c5 c6 c7 c8 d0 d1 d2 d3 d4 d5 d6 d7 d8
  go_wp2_with fail
  go_region_held (fun w' => w'.cell? ⟨w.heap.size, 0, none⟩ = some (.int .i64 11) ∧ w'.cell? ⟨w.heap.size, 2, none⟩ = some (.int .i64 a) ∧ w'.cell? ⟨w.heap.size, 4, none⟩ = some (.int .i64 c) ∧ w'.cell? ⟨w.heap.size, 6, none⟩ = some (.int .i64 t) ∧ w'.cell? ⟨w.heap.size, 7, none⟩ = some (.int .u16 base))
    (first | exact pick20 (obj_keep (obj_keep (w1 := w4.drew) hx4 hb5) hb6) | exact pick20 (obj_keep (w1 := w4.drew) hx4 hb5) | exact pick20 (show w4.drew.heap[w.heap.size]? = _ from hx4))
    (first
      | (go_at_call 13; refine (htext _).mono ?_; rintro e w5 ⟨⟨o, rfl, ho⟩, hb5⟩)
      | (go_at_call 12; refine (code15_any _ o base t (resL lin) (by rw [ho]; exact h0) (by rw [size_toList, ho]; exact hsz) (by omega) (by omega) (by rw [ho]; exact hp)).mono ?_; rintro e w6 ⟨⟨u, rfl, hu⟩, hb6⟩))
  go_wp2_with fail
  rw [← HN.out] at hu
  have hRu := Rd.of_own hu
  have hb5' : Below w4.heap.size w4 w5 := (bl_drew (Below.refl _ w4)).trans hb5
  have hRv6 := ((hRv.below hb4 (Nat.le_refl _)).below hb5' (Nat.le_refl _)).below hb6 (Nat.le_refl _)
  have hB2 := hB1.trans (hb2.mono hB1.size)
  have hB4 := hB2.trans (hb4.mono hB2.size)
  have hB5 := hB4.trans (hb5'.mono hB4.size)
  have hB6 := hB5.trans (hb6.mono hB5.size)
  refine (sameN_any _ _ _ (resL lin) N HN.out.symm hRv6 hRu (by omega)).mono ?_; rintro e w7 ⟨rfl, m, rfl⟩
  go_wp2_with fail
  go_ret
  exact ⟨rfl, bl_drewN hB6 m⟩

set_option maxHeartbeats 4000000 in
theorem law20_no (w : World) (TI : TabI w) (TO : TabO w) (k n a b c th t : Int) (base : Nat) (ar : Int) (hn : ¬ (AskP k n a b c th t ∧ (k = 10 ∨ k = 11))) (hb : base ≤ 65535) :
    Calls Tryz.prog 3 #[askV k n a b c th t base ar] w fun e w' => e = .returned (.bool true) ∧ Below w.heap.size w w' := by
  have q1 : IntKind.u32.wrap (base : Int) = base := by rw [IntKind.wrap_u32]; omega
  have ha : ∀ o, Below w.heap.size w (w.alloc o) := fun o => (Below.refl _ w).alloc (Nat.le_refl _) o
  have TOA : ∀ o, TabO (w.alloc o) := fun o => TO.below (ha o) (Nat.le_refl _)
  have TIA : ∀ o, TabI (w.alloc o) := fun o => TI.below (ha o) (Nat.le_refl _)
  have hcode := fun w TO => no20_any w TO k n a b c th t base ar hn
  have hd : AskP k n a b c th t → ¬ ((k = 10 ∨ k = 11)) := fun e h => hn ⟨e, h⟩
  clear TI TO hn
  go_enter Tryz.func3, Tryz.ntmps3
  go_wp2_with fail
  refine (T.awake20_any _ (TIA _) (TOA _)).mono ?_; rintro e w1 ⟨rfl, hb1⟩
  have hx := new_keep hb1
  have TO1 := (TOA _).below hb1 (Nat.le_refl _)
  have hB1 := (ha _).trans (hb1.mono (ha _).size)
  obtain ⟨c0, c1, c2, c3, c4, c5, c6, c7, c8⟩ := cells9 hx
  go_wp2_with fail
  refine (hcode w1 TO1).mono ?_; rintro e w2 ⟨rfl, hb2⟩
  have hx2 := obj_keep hx hb2
  obtain ⟨d0, d1, d2, d3, d4, d5, d6, d7, d8⟩ := cells9 hx2
  go_wp2_with fail
  refine (may15_any w2 _ _ _ _ _ _ _).mono ?_; rintro e w4 ⟨rfl, hb4⟩
  have hx4 := obj_keep hx2 hb4
  obtain ⟨f0, f1, f2, f3, f4, f5, f6, f7, f8⟩ := cells9 hx4
  clear c0 c1 c2 c3 c4 c5 c6 c7 c8 d0 d1 d2 d3 d4 d5 d6 d7 d8
  have hB2 := hB1.trans (hb2.mono hB1.size)
  have hB4 := hB2.trans (hb4.mono hB2.size)
  by_cases hA : AskP k n a b c th t
  · have dA : decide (AskP k n a b c th t) = true := decide_eq_true hA
    have d0 := hd hA
    have d10 : (k == 10) = false := by simp; omega
    have m10 : (k != 10) = true := by simp; omega
    have d11 : (k == 11) = false := by simp; omega
    have m11 : (k != 11) = true := by simp; omega
    clear hd d0
    go_wp2_with fail
    go_ret
    exact ⟨rfl, hB4⟩
  · have dA : decide (AskP k n a b c th t) = false := decide_eq_false hA
    clear hd
    go_wp2_with fail
    go_ret
    exact ⟨rfl, hB4⟩

theorem mutLaw_any (w : World) (TI : TabI w) (TO : TabO w) (k n a b c th t : Int) (base : Nat) (ar : Int) (hb : base ≤ 65535) :
    Calls Tryz.prog 3 #[askV k n a b c th t base ar] w fun e w' => e = .returned (.bool true) ∧ Below w.heap.size w w' := by
  by_cases h : AskP k n a b c th t ∧ (k = 10 ∨ k = 11)
  · obtain ⟨hA, hk⟩ := h
    have hA2 := hA
    obtain ⟨⟨h1, h2, h3⟩, h4, h5, h6⟩ := hA2
    obtain ⟨tn, rfl⟩ : ∃ tn : Nat, t = tn := ⟨t.toNat, by omega⟩
    have hc : c = 1 ∨ c = 2 := by unfold MayP at h6; omega
    have htn : tn ≤ 1000 := by omega
    rcases hk with rfl | rfl
    · rcases hc with rfl | rfl
      · exact law20_M w TI TO n a b _ _ _ _ _ srcMutIn (linMutIn base tn) hA hb htn (fun w TI TO => codeMutIn_any w TI TO n a b th ar tn base hA (by omega) (by omega)) (fun w => text20_MutIn w a) (parseMutIn (by omega) (by omega)) (List.cons_ne_nil _ _) (by decide +kernel) (Nat.le_of_ble_eq_true rfl)
      · exact law20_M w TI TO n a b _ _ _ _ _ srcMutOut (linMutOut base tn) hA hb htn (fun w TI TO => codeMutOut_any w TI TO n a b th ar tn base hA (by omega) (by omega)) (fun w => text20_MutOut w a) (parseMutOut (by omega) (by omega)) (List.cons_ne_nil _ _) (by decide +kernel) (Nat.le_of_ble_eq_true rfl)
    · obtain ⟨m, rfl⟩ : ∃ m : Nat, a = m := ⟨a.toNat, by omega⟩
      have hm : m ≤ 1000 := by omega
      rcases hc with rfl | rfl
      · exact law20_S w TI TO n m b _ _ _ _ _ srcSemIn (linSemIn base tn) hA hb htn (fun w TI TO => codeSemIn_any w TI TO n m b th ar tn base hA (by omega) (by omega)) (fun w => text20_SemIn w m) (parseSemIn (by omega) (by omega)) (List.cons_ne_nil _ _) (by decide +kernel) (Nat.le_of_ble_eq_true rfl)
      · exact law20_S w TI TO n m b _ _ _ _ _ (srcSemOut m) (linSemOut m base tn) hA hb htn (fun w TI TO => codeSemOut_any w TI TO n b m th ar tn base hA (by omega) (by omega) hm) (fun w => text20_SemOut w m hm) (parseSemOut (by omega) (by omega) hm) (List.cons_ne_nil _ _) (lenSemOut hm) (Nat.le_of_ble_eq_true rfl)
  · exact law20_no w TI TO k n a b c th t base ar h hb

end Go.Proofs.YtcnmhgblbikfkaaGreatDoor.As
