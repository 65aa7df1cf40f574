/- The law QueueFifo. -/
import Derived.Test.YtckmkaeopnnbbaaGreatDoorQfR
import Derived.Test.YtckmkaeopnnbbaaGreatDoorTwC
set_option linter.unusedVariables false
set_option linter.unusedSimpArgs false
set_option maxRecDepth 20000
namespace Go.Proofs.YtckmkaeopnnbbaaGreatDoor.As.T
open Go.RowKit

theorem Fifo1_any (W : World) (k n a b th rr mm : Int) (f sv : Value) (h : ∀ V, Below W.heap.size W V → Calls Tryz.prog 17 #[.agg #[.int .i64 k, .int .i64 n, .int .i64 a, .int .i64 b], .int .i64 th, .int .i64 rr, .int .i64 mm, f, sv] V fun e w' => e = .returned (.bool true) ∧ Below V.heap.size V w') :
    Calls Tryz.prog 28 #[.agg #[.int .i64 k, .int .i64 n, .int .i64 a, .int .i64 b], .int .i64 th, .int .i64 rr, .int .i64 mm, f, sv] W fun e w' => e = .returned (.int .i64 1) ∧ Below W.heap.size W w' := by
  have hB0 : Below W.heap.size W (W.alloc (.cells #[.int .i64 k, .int .i64 n, .int .i64 a, .int .i64 b] 27)) := (Below.refl _ W).alloc (Nat.le_refl _) _
  have h0 := h _ hB0
  go_enter Tryz.func28, Tryz.ntmps28
  go_wp2_with (go_at_call 17; refine h0.mono ?_; rintro e w1 ⟨rfl, hb1⟩)
  refine (truth_any _).mono ?_; rintro e w2 ⟨rfl, rfl⟩
  go_wp2_with fail
  go_ret
  exact ⟨rfl, hB0.trans (hb1.mono hB0.size)⟩
set_option maxHeartbeats 1000000 in
theorem fifo16 (W : World) (TI : TabI W) (TO : TabO W) (k T R M : Nat) (hk : k = 4 ∨ k = 5) (hT : 1 ≤ T ∧ T ≤ 4) (hR : 1 ≤ R ∧ R ≤ 3) (hM : 1 ≤ M ∧ M ≤ 4) (bo bt : Nat) (ho : W.heap[bo]? = some (.cells #[.int .i64 (k : Int), .int .i64 0, .int .i64 0, .int .i64 0] 27 (0, 0))) (hbt : W.heap[bt]? = some (.cells #[.int .i64 (T : Int)] 3 (0, 0))) (sv : Value) (bs : List Nat) (hs : Rd W 1 sv bs.length (u8s bs)) (hb : ∀ b ∈ bs, b ≤ 255) (hn : bs.length ≤ 40000) :
    Calls Tryz.prog 28 #[.agg #[.int .i64 (k : Int), .int .i64 0, .int .i64 0, .int .i64 0], .int .i64 T, .int .i64 R, .int .i64 M, .func (.func 37) #[] #[.pointer (some ⟨bo, 0, none⟩), .pointer (some ⟨bt, 0, none⟩)], sv] W fun e w' => e = .returned (.int .i64 1) ∧ Below W.heap.size W w' := by
  obtain ⟨s', hr, Wq, stq, hff⟩ := que_runsF k T R M hk hT.2 hR.1 (by omega) (bs.map pickB)
  obtain ⟨q, hq⟩ := k_finq hk
  refine Fifo1_any W k 0 0 0 T R M _ _ (fun V hV => ?_)
  have ti := TI.below hV (Nat.le_refl _)
  have to_ := TO.below hV (Nat.le_refl _)
  have k1 := (hV.block bo (Array.getElem?_eq_some_iff.1 ho).1).trans ho
  have k2 := (hV.block bt (Array.getElem?_eq_some_iff.1 hbt).1).trans hbt
  obtain ⟨m1, m2, m3⟩ := mem_qu q ⟨T, by omega⟩
  rw [← hq] at m1 m2 m3
  exact fifo_any V ti k 0 0 0 T R M 37 #[.pointer (some ⟨bo, 0, none⟩), .pointer (some ⟨bt, 0, none⟩)] (lim (quF k T)) (lim (quG k T)) (quM k T) sv bs
    (fun t ht W' hW' => qu1 V ti to_ k T t hk hT.2 ht bo bt k1 k2 W' hW')
    (fun t ht W' hW' => qu2 V ti to_ k T t hk hT.2 ht bo bt k1 k2 W' hW')
    (fun W' hW' => quFirst V to_ k T hk hT W' hW')
    (fun args w => enters_of Tryz.func37 (by kernel_rfl) rfl args w) m1 m2 m3 (by omega) (by omega) (by omega) (by omega) (by omega) (by omega) (short_of (fun t => by rw [hq]; exact (short_qu q ⟨T, by omega⟩ t).1)) (short_of (fun t => by rw [hq]; exact (short_qu q ⟨T, by omega⟩ t).2)) (codes_of (fun r t => by rw [hq]; exact fine_qu q ⟨T, by omega⟩ r t) hT.2 hR.1 (by omega)) (hs.below hV (Nat.le_refl _)) hb hn s' hr Wq stq hff
set_option maxHeartbeats 4000000 in
theorem queueFifo_any (w : World) (TI : TabI w) (TO : TabO w) (x0 x1 x2 x3 : Int) (h0 : 0 ≤ x0 ∧ x0 ≤ 255) (h1 : 0 ≤ x1 ∧ x1 ≤ 255) (h2 : 0 ≤ x2 ∧ x2 ≤ 255) (h3 : 0 ≤ x3 ∧ x3 ≤ 255) (Ad : Option Addr) (cap : Nat) (bs : List Nat) (hl : bs.length ≤ maxLen) (hs : Rd w 1 (.slice Ad bs.length cap) bs.length (u8s bs)) (hb : ∀ b ∈ bs, b ≤ 255) :
    Calls Tryz.prog 6 #[.agg #[.int .u8 x0, .int .u8 x1, .int .u8 x2, .int .u8 x3], .slice Ad bs.length cap] w fun e w' => e = .returned (.bool true) ∧ Below w.heap.size w w' := by
  obtain ⟨T, hT⟩ : ∃ T : Nat, 1 + x1 % 4 = (T : Int) := ⟨(1 + x1 % 4).toNat, by omega⟩
  obtain ⟨k, hk⟩ : ∃ k : Nat, 4 + x0 % 2 = (k : Int) := ⟨(4 + x0 % 2).toNat, by omega⟩
  have hk2 : k = 4 ∨ k = 5 := by omega
  obtain ⟨R, hR⟩ : ∃ R : Nat, 1 + x2 % 3 = (R : Int) := ⟨(1 + x2 % 3).toNat, by omega⟩
  obtain ⟨M, hM⟩ : ∃ M : Nat, 1 + x3 % 4 = (M : Int) := ⟨(1 + x3 % 4).toNat, by omega⟩
  have hT4 : 1 ≤ T ∧ T ≤ 4 := by omega
  have hR4 : 1 ≤ R ∧ R ≤ 3 := by omega
  have hM5 : 1 ≤ M ∧ M ≤ 4 := by omega
  have haw := fun W (hW : Below w.heap.size w W) => awake16_any W (TI.below hW (Nat.le_refl _)) (TO.below hW (Nat.le_refl _))
  have hob := fun W => object16 W x0 x1 x2 x3 h0 h1 h2 h3
  rw [hT, hk, hR, hM] at hob
  have HAL : Hid (∀ W, Below w.heap.size w W → bs.length ≤ 3000 → ∀ bo bt, W.heap[bo]? = some (.cells #[.int .i64 (k : Int), .int .i64 0, .int .i64 0, .int .i64 0] 27 (0, 0)) → W.heap[bt]? = some (.cells #[.int .i64 (T : Int)] 3 (0, 0)) → Calls Tryz.prog 28 #[.agg #[.int .i64 (k : Int), .int .i64 0, .int .i64 0, .int .i64 0], .int .i64 (T : Int), .int .i64 R, .int .i64 M, .func (.func 37) #[] #[.pointer (some ⟨bo, 0, none⟩), .pointer (some ⟨bt, 0, none⟩)], .slice Ad bs.length cap] W fun e w' => e = .returned (.int .i64 1) ∧ Below W.heap.size W w') :=
    Lib.hid fun W hW hn bo bt ho hbt => fifo16 W (TI.below hW (Nat.le_refl _)) (TO.below hW (Nat.le_refl _)) k T R M hk2 hT4 hR4 hM5 bo bt ho hbt _ bs (hs.below hW (Nat.le_refl _)) hb (by omega)
  obtain ⟨n, hn⟩ : ∃ n : Nat, bs.length = n := ⟨_, rfl⟩
  rw [hn] at HAL hl ⊢
  clear hs hb hT hk hk2 hR hM hT4 hR4 hM5
  have HL := Lib.hid hl
  have HAW := Lib.hid haw
  have HOB := Lib.hid hob
  clear hl haw hob TI TO hn h0 h1 h2 h3
  go_enter Tryz.func6, Tryz.ntmps6
  have hB0 : Below w.heap.size w (w.alloc (.cells #[.int .u8 x0, .int .u8 x1, .int .u8 x2, .int .u8 x3] 23)) := (Below.refl _ w).alloc (Nat.le_refl _) _
  go_wp2_with (first
    | (go_at_call 11; refine (HAW.out _ hB0).mono ?_; rintro r w1 ⟨rfl, hb1⟩; have c0 : w1.cell? ⟨w.heap.size, 0, none⟩ = some (.int .u8 x0) := cell_of_row w1 _ 0 _ _ _ ((hb1.block w.heap.size (by simp)).trans (heap_alloc_new _ _)); have c1 : w1.cell? ⟨w.heap.size, 1, none⟩ = some (.int .u8 x1) := cell_of_row w1 _ 1 _ _ _ ((hb1.block w.heap.size (by simp)).trans (heap_alloc_new _ _)); have c2 : w1.cell? ⟨w.heap.size, 2, none⟩ = some (.int .u8 x2) := cell_of_row w1 _ 2 _ _ _ ((hb1.block w.heap.size (by simp)).trans (heap_alloc_new _ _)); have c3 : w1.cell? ⟨w.heap.size, 3, none⟩ = some (.int .u8 x3) := cell_of_row w1 _ 3 _ _ _ ((hb1.block w.heap.size (by simp)).trans (heap_alloc_new _ _)); have hB1 : Hid (Below w.heap.size w w1) := Lib.hid (hB0.trans (hb1.mono (by simp))); clear hb1)
    | (go_at_call 11; refine (HAW.out _ hB1.out).mono ?_; rintro r w2 ⟨rfl, hb2⟩)
    | (go_at_call 12; refine (HOB.out _).mono ?_; rintro r w2 ⟨rfl, hb2⟩))
  · go_ret
    exact ⟨rfl, hB1.out.trans (hb2.mono hB1.out.size)⟩
  have hB2 : Below w.heap.size w w2 := hB1.out.trans (hb2.mono hB1.out.size)
  obtain ⟨WR, hWR⟩ : ∃ WR, (w2.alloc (.cells #[.int .i64 (k : Int), .int .i64 0, .int .i64 0, .int .i64 0] 27)) = WR := ⟨_, rfl⟩
  have hO : WR.heap[w2.heap.size]? = some (.cells #[.int .i64 (k : Int), .int .i64 0, .int .i64 0, .int .i64 0] 27 (0, 0)) := by rw [← hWR]; exact heap_alloc_new _ _
  have hBR : Below w.heap.size w WR := by rw [← hWR]; exact hB2.alloc hB2.size _
  rw [hWR]
  clear hWR c0 c1 c2 c3 hb2 hB0 hB1 HAW HOB
  obtain ⟨o0, o1, o2, o3⟩ := cellsQ4 (show WR.drew.heap[w2.heap.size]? = _ from hO)
  have hm := maker16_any WR.drew k 0 0 0 T
  have hq := HAL.out ((WR.drew.alloc (.cells #[.int .i64 (k : Int), .int .i64 0, .int .i64 0, .int .i64 0] 27)).alloc (.cells #[.int .i64 (T : Int)] 3)) (((bl_drew hBR).alloc (by have := hBR.size; simpa using this) _).alloc (by have := hBR.size; simp; omega) _) (by omega) WR.heap.size (WR.heap.size + 1) (at_alloc (at_new rfl)) (at_new (by simp))
  have k0 : ∀ j v, WR.drew.cell? ⟨w2.heap.size, j, none⟩ = some v → ((WR.drew.alloc (.cells #[.int .i64 (k : Int), .int .i64 0, .int .i64 0, .int .i64 0] 27)).alloc (.cells #[.int .i64 (T : Int)] 3)).cell? ⟨w2.heap.size, j, none⟩ = some v := fun j v h => alloc_cell1 (alloc_cell1 h)
  have p0 := k0 _ _ o0; have p1 := k0 _ _ o1; have p2 := k0 _ _ o2; have p3 := k0 _ _ o3
  clear HAL
  go_region_held (fun w' => w'.cell? ⟨w2.heap.size, 0, none⟩ = some (.int .i64 (k : Int)) ∧ w'.cell? ⟨w2.heap.size, 1, none⟩ = some (.int .i64 0) ∧ w'.cell? ⟨w2.heap.size, 2, none⟩ = some (.int .i64 0) ∧ w'.cell? ⟨w2.heap.size, 3, none⟩ = some (.int .i64 0)) (first | exact ⟨o0, o1, o2, o3⟩ | exact ⟨p0, p1, p2, p3⟩ | exact ⟨(hb4.cell (block_lt_of_cell p0)).trans p0, (hb4.cell (block_lt_of_cell p1)).trans p1, (hb4.cell (block_lt_of_cell p2)).trans p2, (hb4.cell (block_lt_of_cell p3)).trans p3⟩) (first
    | (go_at_call 14; refine hm.mono ?_; rintro r w3 ⟨rfl, rfl⟩)
    | (go_at_call 28; refine hq.mono ?_; rintro r w4 ⟨rfl, hb4⟩))
  all_goals go_wp2_with fail
  all_goals go_ret
  all_goals exact ⟨rfl, (((bl_drew hBR).alloc (by have := hBR.size; simpa using this) _).alloc (by have := hBR.size; simp; omega) _).trans (hb4.mono (by have := hBR.size; simp; omega))⟩
end Go.Proofs.YtckmkaeopnnbbaaGreatDoor.As.T
