/- The law DuoEnds. -/
import Derived.Test.YtckmkaeopnnbbaaGreatDoorEhD
set_option linter.unusedVariables false
set_option linter.unusedSimpArgs false
set_option maxRecDepth 20000
namespace Go.Proofs.YtckmkaeopnnbbaaGreatDoor.As.T
open Go.RowKit

theorem wr_k64 {x : Int} (h0 : 0 ≤ x) (h1 : x ≤ 1000000) : IntKind.i64.wrap x = x := by rw [IntKind.wrap_i64]; omega

theorem Ends1_any (W : World) (k n a b th rr mm ww : Int) (f sv : Value) (h : ∀ V, Below W.heap.size W V → Calls Tryz.prog 29 #[.agg #[.int .i64 k, .int .i64 n, .int .i64 a, .int .i64 b], .int .i64 th, .int .i64 rr, .int .i64 mm, f, sv, .int .i64 ww] V fun e w' => e = .returned (.bool true) ∧ Below V.heap.size V w') :
    Calls Tryz.prog 32 #[.agg #[.int .i64 k, .int .i64 n, .int .i64 a, .int .i64 b], .int .i64 th, .int .i64 rr, .int .i64 mm, f, sv, .int .i64 ww] W fun e w' => e = .returned (.int .i64 1) ∧ Below W.heap.size W w' := by
  have hB0 : Below W.heap.size W (W.alloc (.cells #[.int .i64 k, .int .i64 n, .int .i64 a, .int .i64 b] 27)) := (Below.refl _ W).alloc (Nat.le_refl _) _
  have h0 := h _ hB0
  go_enter Tryz.func32, Tryz.ntmps32
  go_wp2_with (go_at_call 29; refine h0.mono ?_; rintro e w1 ⟨rfl, hb1⟩)
  refine (truth_any _).mono ?_; rintro e w2 ⟨rfl, rfl⟩
  go_wp2_with fail
  go_ret
  exact ⟨rfl, hB0.trans (hb1.mono hB0.size)⟩
theorem short_du : ∀ (k A : Fin 2) (t : Fin 4), shortL (resL (duF (k + 6) A t)) = true ∧ shortL (resL (duG (k + 6) A t)) = true := by decide +kernel
theorem fine_du : ∀ (k A : Fin 2) (r t : Fin 4), fineL (roundsR (resL (duF (k + 6) A t)) (resL (duG (k + 6) A t)) (r + 1) []) = true := by decide +kernel
set_option maxHeartbeats 1000000 in
theorem ends17 (W : World) (TI : TabI W) (TO : TabO W) (k A R M w0 : Nat) (hww : 4 * 2 ≤ w0 ∧ w0 ≤ 1000) (hk : k = 6 ∨ k = 7) (hA : A < 2) (hR : 1 ≤ R ∧ R ≤ 4) (hM : 1 ≤ M ∧ M ≤ 6) (bo : Nat) (ho : W.heap[bo]? = some (.cells #[.int .i64 (k : Int), .int .i64 0, .int .i64 (A : Int), .int .i64 ((1 - A : Nat) : Int)] 27 (0, 0))) (sv : Value) (bs : List Nat) (hs : Rd W 1 sv bs.length (u8s bs)) (hb : ∀ b ∈ bs, b ≤ 255) (hn : bs.length ≤ 100000) :
    Calls Tryz.prog 32 #[.agg #[.int .i64 (k : Int), .int .i64 0, .int .i64 (A : Int), .int .i64 ((1 - A : Nat) : Int)], .int .i64 2, .int .i64 R, .int .i64 M, .func (.func 45) #[] #[.pointer (some ⟨bo, 0, none⟩)], sv, .int .i64 (w0 : Nat)] W fun e w' => e = .returned (.int .i64 1) ∧ Below W.heap.size W w' := by
  have hgo := duo_ends k A R M hk hA hR.1 hR.2 (by omega) w0 (bs.map pickB) hww.1
  obtain ⟨q, hq⟩ := k_fin hk
  refine Ends1_any W k 0 A ((1 - A : Nat) : Int) 2 R M w0 _ _ (fun V hV => ?_)
  have hbelow := fun W' (hW' : Below V.heap.size V W') => hV.trans (hW'.mono hV.size)
  have hkeep := fun W' (hW' : Below V.heap.size V W') => ((hbelow W' hW').block bo (Array.getElem?_eq_some_iff.1 ho).1).trans ho
  have ti := fun W' (hW' : Below V.heap.size V W') => TI.below (hbelow W' hW') (Nat.le_refl _)
  have to_ := fun W' (hW' : Below V.heap.size V W') => TO.below (hbelow W' hW') (Nat.le_refl _)
  exact ends_any V (TI.below hV (Nat.le_refl _)) k 0 A ((1 - A : Nat) : Int) 2 R M w0 45 #[.pointer (some ⟨bo, 0, none⟩)] (lim (duF k A)) (lim (duG k A)) (duM k) sv bs
    (fun t ht W' hW' => by
      rw [lim_eq (duF k A) (by omega)]
      exact maker17_1 W' k 0 A ((1 - A : Nat) : Int) 1 t bo _ (hkeep W' hW') (du1 W' (ti W' hW') (to_ W' hW') k A t hk hA ht))
    (fun t ht W' hW' => by
      rw [lim_eq (duG k A) (by omega)]
      exact maker17_1 W' k 0 A ((1 - A : Nat) : Int) 2 t bo _ (hkeep W' hW') (du2 W' (ti W' hW') (to_ W' hW') k A t hk hA ht))
    (fun W' hW' => by
      rcases hk with rfl | rfl
      · exact first_6 W' (to_ W' hW') 0 A _ 2 (by unfold RightP; omega)
      · exact first_7 W' (to_ W' hW') 0 A _ 2 (by unfold RightP; omega))
    (fun args w => enters_of Tryz.func45 (by kernel_rfl) rfl args w) (by rcases hk with rfl | rfl <;> decide) (by rcases hk with rfl | rfl <;> decide) (by rcases hk with rfl | rfl <;> decide) (by omega) (by omega) (by omega) (by omega) (by omega) (by omega) (short_of (fun t => by rw [hq]; exact (short_du q ⟨A, hA⟩ t).1)) (short_of (fun t => by rw [hq]; exact (short_du q ⟨A, hA⟩ t).2)) (codes_of (fun r t => by rw [hq]; exact fine_du q ⟨A, hA⟩ r t) (by omega) hR.1 hR.2) (hs.below hV (Nat.le_refl _)) hb hn hww.1 hww.2 hgo
set_option maxHeartbeats 4000000 in
theorem duoEnds_any (w : World) (TI : TabI w) (TO : TabO w) (x0 x1 x2 x3 : Int) (h0 : 0 ≤ x0 ∧ x0 ≤ 255) (h1 : 0 ≤ x1 ∧ x1 ≤ 255) (h2 : 0 ≤ x2 ∧ x2 ≤ 255) (h3 : 0 ≤ x3 ∧ x3 ≤ 255) (Ad : Option Addr) (cap : Nat) (bs : List Nat) (hl : bs.length ≤ maxLen) (hs : Rd w 1 (.slice Ad bs.length cap) bs.length (u8s bs)) (hb : ∀ b ∈ bs, b ≤ 255) (m0 : Int) (hm0 : 0 ≤ m0 ∧ m0 ≤ 255) :
    Calls Tryz.prog 9 #[.agg #[.int .u8 x0, .int .u8 x1, .int .u8 x2, .int .u8 x3], .slice Ad bs.length cap, .int .u8 m0] w fun e w' => e = .returned (.bool true) ∧ Below w.heap.size w w' := by
  obtain ⟨k, hk⟩ : ∃ k : Nat, 6 + x0 % 2 = (k : Int) := ⟨(6 + x0 % 2).toNat, by omega⟩
  obtain ⟨A, hA⟩ : ∃ A : Nat, x1 % 2 = (A : Int) := ⟨(x1 % 2).toNat, by omega⟩
  obtain ⟨R, hR⟩ : ∃ R : Nat, 1 + x2 % 4 = (R : Int) := ⟨(1 + x2 % 4).toNat, by omega⟩
  obtain ⟨M, hM⟩ : ∃ M : Nat, 1 + x3 % 6 = (M : Int) := ⟨(1 + x3 % 6).toNat, by omega⟩
  have hk6 : k = 6 ∨ k = 7 := by omega
  have hA2 : A < 2 := by omega
  have hAB : 1 - (A : Int) = ((1 - A : Nat) : Int) := by omega
  have hR4 : 1 ≤ R ∧ R ≤ 4 := by omega
  have hM6 : 1 ≤ M ∧ M ≤ 6 := by omega
  obtain ⟨w0, hw0⟩ : ∃ w0 : Nat, 8 + m0 = (w0 : Int) := ⟨(8 + m0).toNat, by omega⟩
  have hww9 : 4 * 2 ≤ w0 ∧ w0 ≤ 1000 := by omega
  have n1 : 0 ≤ (w0 : Int) ∧ (w0 : Int) ≤ 1000000 := by omega
  have e2 : IntKind.i64.wrap m0 = m0 := wr_k64 hm0.1 (by omega)
  have e3 : IntKind.i64.wrap (8 + m0) = (w0 : Int) := by rw [hw0]; exact wr_k64 n1.1 n1.2
  have haw := fun W (hW : Below w.heap.size w W) => awake17_any W (TI.below hW (Nat.le_refl _)) (TO.below hW (Nat.le_refl _))
  have hob := fun W => object17 W x0 x1 x2 x3 h0 h1 h2 h3
  rw [hk, hA, hAB, hR, hM] at hob
  have HAL : Hid (∀ W, Below w.heap.size w W → bs.length ≤ 3000 → ∀ bo, W.heap[bo]? = some (.cells #[.int .i64 (k : Int), .int .i64 0, .int .i64 (A : Int), .int .i64 ((1 - A : Nat) : Int)] 27 (0, 0)) → Calls Tryz.prog 32 #[.agg #[.int .i64 (k : Int), .int .i64 0, .int .i64 (A : Int), .int .i64 ((1 - A : Nat) : Int)], .int .i64 2, .int .i64 R, .int .i64 M, .func (.func 45) #[] #[.pointer (some ⟨bo, 0, none⟩)], .slice Ad bs.length cap, .int .i64 (w0 : Nat)] W fun e w' => e = .returned (.int .i64 1) ∧ Below W.heap.size W w') :=
    Lib.hid fun W hW hn bo ho => ends17 W (TI.below hW (Nat.le_refl _)) (TO.below hW (Nat.le_refl _)) k A R M w0 hww9 hk6 hA2 hR4 hM6 bo ho _ bs (hs.below hW (Nat.le_refl _)) hb (by omega)
  obtain ⟨n, hn⟩ : ∃ n : Nat, bs.length = n := ⟨_, rfl⟩
  rw [hn] at HAL hl ⊢
  obtain ⟨B, hB⟩ : ∃ B : Nat, 1 - A = B := ⟨_, rfl⟩
  rw [hB] at hob HAL
  clear hs hb hk hA hR hM hk6 hA2 hAB hR4 hM6 hB hw0 hww9 hm0 n1
  have HL := Lib.hid hl
  have HAW := Lib.hid haw
  have HOB := Lib.hid hob
  clear hl haw hob TI TO hn h0 h1 h2 h3
  go_enter Tryz.func9, Tryz.ntmps9
  have hB0 : Below w.heap.size w (w.alloc (.cells #[.int .u8 x0, .int .u8 x1, .int .u8 x2, .int .u8 x3] 39)) := (Below.refl _ w).alloc (Nat.le_refl _) _
  go_wp2_with (first
    | (go_at_call 19; refine (HAW.out _ hB0).mono ?_; rintro r w1 ⟨rfl, hb1⟩; have c0 : w1.cell? ⟨w.heap.size, 0, none⟩ = some (.int .u8 x0) := cell_of_row w1 _ 0 _ _ _ ((hb1.block w.heap.size (by simp)).trans (heap_alloc_new _ _)); have c1 : w1.cell? ⟨w.heap.size, 1, none⟩ = some (.int .u8 x1) := cell_of_row w1 _ 1 _ _ _ ((hb1.block w.heap.size (by simp)).trans (heap_alloc_new _ _)); have c2 : w1.cell? ⟨w.heap.size, 2, none⟩ = some (.int .u8 x2) := cell_of_row w1 _ 2 _ _ _ ((hb1.block w.heap.size (by simp)).trans (heap_alloc_new _ _)); have c3 : w1.cell? ⟨w.heap.size, 3, none⟩ = some (.int .u8 x3) := cell_of_row w1 _ 3 _ _ _ ((hb1.block w.heap.size (by simp)).trans (heap_alloc_new _ _)); have hB1 : Hid (Below w.heap.size w w1) := Lib.hid (hB0.trans (hb1.mono (by simp))); clear hb1)
    | (go_at_call 19; refine (HAW.out _ hB1.out).mono ?_; rintro r w2 ⟨rfl, hb2⟩)
    | (go_at_call 20; refine (HOB.out _).mono ?_; rintro r w2 ⟨rfl, hb2⟩))
  · go_ret
    exact ⟨rfl, hB1.out.trans (hb2.mono hB1.out.size)⟩
  have hB2 : Below w.heap.size w w2 := hB1.out.trans (hb2.mono hB1.out.size)
  obtain ⟨WR, hWR⟩ : ∃ WR, (w2.alloc (.cells #[.int .i64 (k : Int), .int .i64 0, .int .i64 (A : Int), .int .i64 (B : Int)] 27)) = WR := ⟨_, rfl⟩
  have hO : WR.heap[w2.heap.size]? = some (.cells #[.int .i64 (k : Int), .int .i64 0, .int .i64 (A : Int), .int .i64 (B : Int)] 27 (0, 0)) := by rw [← hWR]; exact heap_alloc_new _ _
  have hBR : Below w.heap.size w WR := by rw [← hWR]; exact hB2.alloc hB2.size _
  rw [hWR]
  clear hWR c0 c1 c2 c3 hb2 hB0 hB1 HAW HOB
  have hm := maker17_any WR.drew k 0 A B
  have hq := HAL.out (WR.drew.alloc (.cells #[.int .i64 (k : Int), .int .i64 0, .int .i64 (A : Int), .int .i64 (B : Int)] 27)) ((bl_drew hBR).alloc (by have := hBR.size; simpa using this) _) (by omega) WR.heap.size (at_new rfl)
  clear HAL
  have S0 : WR.drew.heap[w2.heap.size]? = some (.cells #[.int .i64 (k : Int), .int .i64 0, .int .i64 (A : Int), .int .i64 (B : Int)] 27 (0, 0)) := hO
  have HBR := Lib.hid hBR
  clear hO hBR hB2
  refine wp_region_g (fun W => W.heap[w2.heap.size]? = some (.cells #[.int .i64 (k : Int), .int .i64 0, .int .i64 (A : Int), .int .i64 (B : Int)] 27 (0, 0))) 99 (by kernel_rfl) ?_
  refine AnyG_take (i := 0) (oi := _) (v := ?_) rfl (by kernel_rfl) (fun _ _ _ h => h) (Or.inl ⟨by rfl, ?_⟩) S0 ?_
  rotate_left
  · intro W hSw; obtain ⟨s0, s1, s2, s3⟩ := cellsQ4 hSw; clear hSw; go_simp; first | done | with_reducible rfl
  simp only [Act.put, List.getElem_toArray, List.getElem_cons_zero, List.getElem_cons_succ, List.setIfInBounds_toArray, List.set_cons_zero, List.set_cons_succ]
  refine AnyG_take (i := 1) (oi := _) (v := ?_) rfl (by kernel_rfl) (fun _ _ _ h => h) (Or.inl ⟨by rfl, ?_⟩) S0 ?_
  rotate_left
  · intro W hSw; obtain ⟨s0, s1, s2, s3⟩ := cellsQ4 hSw; clear hSw; go_simp; first | done | with_reducible rfl
  simp only [Act.put, List.getElem_toArray, List.getElem_cons_zero, List.getElem_cons_succ, List.setIfInBounds_toArray, List.set_cons_zero, List.set_cons_succ]
  refine AnyG_take (i := 2) (oi := _) (v := ?_) rfl (by kernel_rfl) (fun _ _ _ h => h) (Or.inl ⟨by rfl, ?_⟩) S0 ?_
  rotate_left
  · intro W hSw; obtain ⟨s0, s1, s2, s3⟩ := cellsQ4 hSw; clear hSw; go_simp; first | done | with_reducible rfl
  simp only [Act.put, List.getElem_toArray, List.getElem_cons_zero, List.getElem_cons_succ, List.setIfInBounds_toArray, List.set_cons_zero, List.set_cons_succ]
  refine AnyG_take (i := 3) (oi := _) (v := ?_) rfl (by kernel_rfl) (fun _ _ _ h => h) (Or.inl ⟨by rfl, ?_⟩) S0 ?_
  rotate_left
  · intro W hSw; obtain ⟨s0, s1, s2, s3⟩ := cellsQ4 hSw; clear hSw; go_simp; first | done | with_reducible rfl
  simp only [Act.put, List.getElem_toArray, List.getElem_cons_zero, List.getElem_cons_succ, List.setIfInBounds_toArray, List.set_cons_zero, List.set_cons_succ]
  refine AnyG_take (i := 5) (oi := _) (v := ?_) rfl (by kernel_rfl) (fun _ _ _ h => h) (Or.inl ⟨by rfl, ?_⟩) S0 ?_
  rotate_left
  · intro W hSw; obtain ⟨s0, s1, s2, s3⟩ := cellsQ4 hSw; clear hSw; go_simp; first | done | with_reducible rfl
  simp only [Act.put, List.getElem_toArray, List.getElem_cons_zero, List.getElem_cons_succ, List.setIfInBounds_toArray, List.set_cons_zero, List.set_cons_succ]
  refine AnyG_take (i := 6) (oi := _) (v := ?_) rfl (by kernel_rfl) (fun _ _ _ h => h) (Or.inl ⟨by rfl, ?_⟩) S0 ?_
  rotate_left
  · intro W hSw; obtain ⟨s0, s1, s2, s3⟩ := cellsQ4 hSw; clear hSw; go_simp; first | done | with_reducible rfl
  simp only [Act.put, List.getElem_toArray, List.getElem_cons_zero, List.getElem_cons_succ, List.setIfInBounds_toArray, List.set_cons_zero, List.set_cons_succ]
  refine AnyG_take (i := 7) (oi := _) (v := ?_) rfl (by kernel_rfl) (fun _ _ _ h => h) (Or.inl ⟨by rfl, ?_⟩) S0 ?_
  rotate_left
  · intro W hSw; obtain ⟨s0, s1, s2, s3⟩ := cellsQ4 hSw; clear hSw; go_simp; first | done | with_reducible rfl
  simp only [Act.put, List.getElem_toArray, List.getElem_cons_zero, List.getElem_cons_succ, List.setIfInBounds_toArray, List.set_cons_zero, List.set_cons_succ]
  refine AnyG_take (i := 8) (oi := _) (v := ?_) rfl (by kernel_rfl) (fun _ _ _ h => h) (Or.inl ⟨by rfl, ?_⟩) S0 ?_
  rotate_left
  · intro W hSw; obtain ⟨s0, s1, s2, s3⟩ := cellsQ4 hSw; clear hSw; go_simp; first | done | with_reducible rfl
  simp only [Act.put, List.getElem_toArray, List.getElem_cons_zero, List.getElem_cons_succ, List.setIfInBounds_toArray, List.set_cons_zero, List.set_cons_succ]
  refine AnyG_one (i := 4) rfl (by kernel_rfl) ?_
  refine wpOp_of rfl rfl ?_
  try simp only [Act.put, List.getElem_toArray, List.getElem_cons_zero, List.getElem_cons_succ, List.setIfInBounds_toArray, List.set_cons_zero, List.set_cons_succ]
  go_simp
  refine hm.mono ?_
  rintro _ w3 ⟨rfl, hw3⟩
  subst hw3
  have S1 : (WR.drew.alloc (.cells #[.int .i64 (k : Int), .int .i64 0, .int .i64 (A : Int), .int .i64 (B : Int)] 27)).heap[w2.heap.size]? = some (.cells #[.int .i64 (k : Int), .int .i64 0, .int .i64 (A : Int), .int .i64 (B : Int)] 27 (0, 0)) := at_alloc S0
  refine ⟨S1, ?_⟩
  try simp only [Act.put, List.getElem_toArray, List.getElem_cons_zero, List.getElem_cons_succ, List.setIfInBounds_toArray, List.set_cons_zero, List.set_cons_succ]
  refine AnyG_one (i := 9) rfl (by kernel_rfl) ?_
  refine wpOp_of rfl rfl ?_
  try simp only [Act.put, List.getElem_toArray, List.getElem_cons_zero, List.getElem_cons_succ, List.setIfInBounds_toArray, List.set_cons_zero, List.set_cons_succ]
  go_simp
  refine hq.mono ?_
  rintro _ w4 ⟨rfl, hb4⟩
  have S2 : w4.heap[w2.heap.size]? = some (.cells #[.int .i64 (k : Int), .int .i64 0, .int .i64 (A : Int), .int .i64 (B : Int)] 27 (0, 0)) := (hb4.block _ (Array.getElem?_eq_some_iff.1 S1).1).trans S1
  refine ⟨S2, ?_⟩
  try simp only [Act.put, List.getElem_toArray, List.getElem_cons_zero, List.getElem_cons_succ, List.setIfInBounds_toArray, List.set_cons_zero, List.set_cons_succ]
  refine AnyG_take (i := 10) (oi := _) (v := ?_) rfl (by kernel_rfl) (fun _ _ _ h => h) (Or.inl ⟨by rfl, ?_⟩) S2 ?_
  rotate_left
  · intro W hSw; obtain ⟨s0, s1, s2, s3⟩ := cellsQ4 hSw; clear hSw; go_simp; first | done | with_reducible rfl
  simp only [Act.put, List.getElem_toArray, List.getElem_cons_zero, List.getElem_cons_succ, List.setIfInBounds_toArray, List.set_cons_zero, List.set_cons_succ]
  refine AnyG_one (i := 11) rfl (by kernel_rfl) ?_
  refine wpOp_of rfl rfl ?_
  try simp only [Act.put, List.getElem_toArray, List.getElem_cons_zero, List.getElem_cons_succ, List.setIfInBounds_toArray, List.set_cons_zero, List.set_cons_succ]
  go_simp
  try simp only [Act.put, List.getElem_toArray, List.getElem_cons_zero, List.getElem_cons_succ, List.setIfInBounds_toArray, List.set_cons_zero, List.set_cons_succ]
  refine AnyG_done (by kernel_rfl) ?_ _
  go_wp2_with fail
  go_ret
  have hBR := HBR.out
  exact ⟨rfl, ((bl_drew hBR).alloc (by have := hBR.size; simpa using this) _).trans (hb4.mono (by have := hBR.size; simp; omega))⟩
end Go.Proofs.YtckmkaeopnnbbaaGreatDoor.As.T
