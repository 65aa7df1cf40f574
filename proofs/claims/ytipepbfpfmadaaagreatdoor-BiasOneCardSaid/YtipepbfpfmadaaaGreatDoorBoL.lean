/- The law BiasOne, of plain runs that are right. -/
import Derived.Test.YtipepbfpfmadaaaGreatDoorBiK
set_option linter.unusedVariables false
set_option linter.unusedSimpArgs false
set_option maxRecDepth 20000
namespace Go.Proofs.YtipepbfpfmadaaaGreatDoor.As.T
open Go.RowKit

theorem Holds1_any (W : World) (k n a b th rr mm : Int) (f sv : Value) (h : ∀ V, Below W.heap.size W V → Calls Tryz.prog 25 #[.agg #[.int .i64 k, .int .i64 n, .int .i64 a, .int .i64 b], .int .i64 th, .int .i64 rr, .int .i64 mm, f, sv] V fun e w' => e = .returned (.bool true) ∧ Below V.heap.size V w') :
    Calls Tryz.prog 27 #[.agg #[.int .i64 k, .int .i64 n, .int .i64 a, .int .i64 b], .int .i64 th, .int .i64 rr, .int .i64 mm, f, sv] W fun e w' => e = .returned (.int .i64 1) ∧ Below W.heap.size W w' := by
  have hB0 : Below W.heap.size W (W.alloc (.cells #[.int .i64 k, .int .i64 n, .int .i64 a, .int .i64 b] 27)) := (Below.refl _ W).alloc (Nat.le_refl _) _
  have h0 := h _ hB0
  go_enter Tryz.func27, Tryz.ntmps27
  go_wp2_with (go_at_call 25; refine h0.mono ?_; rintro e w1 ⟨rfl, hb1⟩)
  refine (truth_any _).mono ?_; rintro e w2 ⟨rfl, rfl⟩
  go_wp2_with fail
  go_ret
  exact ⟨rfl, hB0.trans (hb1.mono hB0.size)⟩
set_option maxHeartbeats 1000000 in
theorem one18 (hruns : ∀ (A T R room : Nat), A < T → T ≤ 4 → 0 < R → R ≤ 4 → RunsOk (codesR (lim (biF A)) (lim (biG A)) T R) [0, 0, 0, 0] room T R) (W : World) (TI : TabI W) (TO : TabO W) (A T R M : Nat) (hA : A < T) (hT : 1 ≤ T ∧ T ≤ 4) (hR : 1 ≤ R ∧ R ≤ 4) (hM : 1 ≤ M ∧ M ≤ 5) (bo bt : Nat) (ho : W.heap[bo]? = some (.cells #[.int .i64 8, .int .i64 0, .int .i64 (A : Int), .int .i64 0] 27 (0, 0))) (hbt : W.heap[bt]? = some (.cells #[.int .i64 (T : Int)] 3 (0, 0))) (sv : Value) (bs : List Nat) (hs : Rd W 1 sv bs.length (u8s bs)) (hb : ∀ b ∈ bs, b ≤ 255) (hn : bs.length ≤ 100000) :
    Calls Tryz.prog 27 #[.agg #[.int .i64 8, .int .i64 0, .int .i64 (A : Int), .int .i64 0], .int .i64 T, .int .i64 R, .int .i64 M, .func (.func 33) #[] #[.pointer (some ⟨bo, 0, none⟩), .pointer (some ⟨bt, 0, none⟩)], sv] W fun e w' => e = .returned (.int .i64 1) ∧ Below W.heap.size W w' := by
  obtain ⟨s', hr, ho1, hf, hd⟩ := hruns A T R M hA hT.2 hR.1 hR.2 (bs.map pickB)
  refine Holds1_any W 8 0 A 0 T R M _ _ (fun V hV => ?_)
  have ti := TI.below hV (Nat.le_refl _)
  have to_ := TO.below hV (Nat.le_refl _)
  have k1 := (hV.block bo (Array.getElem?_eq_some_iff.1 ho).1).trans ho
  have k2 := (hV.block bt (Array.getElem?_eq_some_iff.1 hbt).1).trans hbt
  exact holds_any V ti 8 0 A 0 T R M 33 #[.pointer (some ⟨bo, 0, none⟩), .pointer (some ⟨bt, 0, none⟩)] (lim (biF A)) (lim (biG A)) [0, 0, 0, 0] sv bs
    (fun t ht W' hW' => biA V ti to_ A T t hA hT.2 ht bo bt k1 k2 W' hW')
    (fun t ht W' hW' => biB V ti to_ A T t hA hT.2 ht bo bt k1 k2 W' hW')
    (fun W' hW' => biFirst V to_ A T hA hT.2 W' hW')
    (fun args w => enters_of Tryz.func33 (by kernel_rfl) rfl args w) (by decide) (by decide) (by decide) (by omega) (by omega) (by omega) (by omega) (by omega) (by omega) (short_of (fun t => short_biF ⟨A, by omega⟩ t)) (short_of (fun t => short_biG ⟨A, by omega⟩ t)) (codes_of (fun r t => fine_bi ⟨A, by omega⟩ r t) hT.2 hR.1 hR.2) (hs.below hV (Nat.le_refl _)) hb hn s' hr ho1 hf hd
set_option maxHeartbeats 4000000 in
theorem biasOne_of (hruns : ∀ (A T R room : Nat), A < T → T ≤ 4 → 0 < R → R ≤ 4 → RunsOk (codesR (lim (biF A)) (lim (biG A)) T R) [0, 0, 0, 0] room T R) (w : World) (TI : TabI w) (TO : TabO w) (x0 x1 x2 x3 : Int) (h0 : 0 ≤ x0 ∧ x0 ≤ 255) (h1 : 0 ≤ x1 ∧ x1 ≤ 255) (h2 : 0 ≤ x2 ∧ x2 ≤ 255) (h3 : 0 ≤ x3 ∧ x3 ≤ 255) (Ad : Option Addr) (cap : Nat) (bs : List Nat) (hl : bs.length ≤ maxLen) (hs : Rd w 1 (.slice Ad bs.length cap) bs.length (u8s bs)) (hb : ∀ b ∈ bs, b ≤ 255) :
    Calls Tryz.prog 6 #[.agg #[.int .u8 x0, .int .u8 x1, .int .u8 x2, .int .u8 x3], .slice Ad bs.length cap] w fun e w' => e = .returned (.bool true) ∧ Below w.heap.size w w' := by
  obtain ⟨T, hT⟩ : ∃ T : Nat, 1 + x1 % 4 = (T : Int) := ⟨(1 + x1 % 4).toNat, by omega⟩
  obtain ⟨A, hA⟩ : ∃ A : Nat, x0 % (T : Int) = (A : Int) := ⟨(x0 % (T : Int)).toNat, by have := Int.emod_nonneg x0 (by omega : (T : Int) ≠ 0); omega⟩
  obtain ⟨R, hR⟩ : ∃ R : Nat, 1 + x2 % 4 = (R : Int) := ⟨(1 + x2 % 4).toNat, by omega⟩
  obtain ⟨M, hM⟩ : ∃ M : Nat, 1 + x3 % 5 = (M : Int) := ⟨(1 + x3 % 5).toNat, by omega⟩
  have hT4 : 1 ≤ T ∧ T ≤ 4 := by omega
  have hAT : A < T := by have := Int.emod_lt_of_pos x0 (by omega : 0 < (T : Int)); omega
  have hR4 : 1 ≤ R ∧ R ≤ 4 := by omega
  have hM5 : 1 ≤ M ∧ M ≤ 5 := by omega
  have haw := fun W (hW : Below w.heap.size w W) => awake18_any W (TI.below hW (Nat.le_refl _)) (TO.below hW (Nat.le_refl _))
  have hob := fun W => object18 W x0 x1 x2 x3 h0 h1 h2 h3
  rw [hT, hA, hR, hM] at hob
  have HAL : Hid (∀ W, Below w.heap.size w W → bs.length ≤ 3000 → ∀ bo bt, W.heap[bo]? = some (.cells #[.int .i64 8, .int .i64 0, .int .i64 (A : Int), .int .i64 0] 27 (0, 0)) → W.heap[bt]? = some (.cells #[.int .i64 (T : Int)] 3 (0, 0)) → Calls Tryz.prog 27 #[.agg #[.int .i64 8, .int .i64 0, .int .i64 (A : Int), .int .i64 0], .int .i64 (T : Int), .int .i64 R, .int .i64 M, .func (.func 33) #[] #[.pointer (some ⟨bo, 0, none⟩), .pointer (some ⟨bt, 0, none⟩)], .slice Ad bs.length cap] W fun e w' => e = .returned (.int .i64 1) ∧ Below W.heap.size W w') :=
    Lib.hid fun W hW hn bo bt ho hbt => one18 hruns W (TI.below hW (Nat.le_refl _)) (TO.below hW (Nat.le_refl _)) A T R M hAT hT4 hR4 hM5 bo bt ho hbt _ bs (hs.below hW (Nat.le_refl _)) hb (by omega)
  obtain ⟨n, hn⟩ : ∃ n : Nat, bs.length = n := ⟨_, rfl⟩
  rw [hn] at HAL hl ⊢
  clear hs hb hT hA hR hM hT4 hAT hR4 hM5 hruns
  have HL := Lib.hid hl
  have HAW := Lib.hid haw
  have HOB := Lib.hid hob
  clear hl haw hob TI TO hn h0 h1 h2 h3
  go_enter Tryz.func6, Tryz.ntmps6
  have hB0 : Below w.heap.size w (w.alloc (.cells #[.int .u8 x0, .int .u8 x1, .int .u8 x2, .int .u8 x3] 23)) := (Below.refl _ w).alloc (Nat.le_refl _) _
  go_wp2_with (first
    | (go_at_call 8; refine (HAW.out _ hB0).mono ?_; rintro r w1 ⟨rfl, hb1⟩; have c0 : w1.cell? ⟨w.heap.size, 0, none⟩ = some (.int .u8 x0) := cell_of_row w1 _ 0 _ _ _ ((hb1.block w.heap.size (by simp)).trans (heap_alloc_new _ _)); have c1 : w1.cell? ⟨w.heap.size, 1, none⟩ = some (.int .u8 x1) := cell_of_row w1 _ 1 _ _ _ ((hb1.block w.heap.size (by simp)).trans (heap_alloc_new _ _)); have c2 : w1.cell? ⟨w.heap.size, 2, none⟩ = some (.int .u8 x2) := cell_of_row w1 _ 2 _ _ _ ((hb1.block w.heap.size (by simp)).trans (heap_alloc_new _ _)); have c3 : w1.cell? ⟨w.heap.size, 3, none⟩ = some (.int .u8 x3) := cell_of_row w1 _ 3 _ _ _ ((hb1.block w.heap.size (by simp)).trans (heap_alloc_new _ _)); have hB1 : Hid (Below w.heap.size w w1) := Lib.hid (hB0.trans (hb1.mono (by simp))); clear hb1)
    | (go_at_call 8; refine (HAW.out _ hB1.out).mono ?_; rintro r w2 ⟨rfl, hb2⟩)
    | (go_at_call 9; refine (HOB.out _).mono ?_; rintro r w2 ⟨rfl, hb2⟩))
  · go_ret
    exact ⟨rfl, hB1.out.trans (hb2.mono hB1.out.size)⟩
  have hB2 : Below w.heap.size w w2 := hB1.out.trans (hb2.mono hB1.out.size)
  obtain ⟨WR, hWR⟩ : ∃ WR, (w2.alloc (.cells #[.int .i64 8, .int .i64 0, .int .i64 (A : Int), .int .i64 0] 27)) = WR := ⟨_, rfl⟩
  have hO : WR.heap[w2.heap.size]? = some (.cells #[.int .i64 8, .int .i64 0, .int .i64 (A : Int), .int .i64 0] 27 (0, 0)) := by rw [← hWR]; exact heap_alloc_new _ _
  have hBR : Below w.heap.size w WR := by rw [← hWR]; exact hB2.alloc hB2.size _
  rw [hWR]
  clear hWR c0 c1 c2 c3 hb2 hB0 hB1 HAW HOB
  obtain ⟨o0, o1, o2, o3⟩ := cellsQ4 (show WR.drew.heap[w2.heap.size]? = _ from hO)
  have hm := maker18_any WR.drew 8 0 A 0 T
  have hq := HAL.out ((WR.drew.alloc (.cells #[.int .i64 8, .int .i64 0, .int .i64 (A : Int), .int .i64 0] 27)).alloc (.cells #[.int .i64 (T : Int)] 3)) (((bl_drew hBR).alloc (by have := hBR.size; simpa using this) _).alloc (by have := hBR.size; simp; omega) _) (by omega) WR.heap.size (WR.heap.size + 1) (at_alloc (at_new rfl)) (at_new (by simp))
  have k0 : ∀ j v, WR.drew.cell? ⟨w2.heap.size, j, none⟩ = some v → ((WR.drew.alloc (.cells #[.int .i64 8, .int .i64 0, .int .i64 (A : Int), .int .i64 0] 27)).alloc (.cells #[.int .i64 (T : Int)] 3)).cell? ⟨w2.heap.size, j, none⟩ = some v := fun j v h => alloc_cell1 (alloc_cell1 h)
  have p0 := k0 _ _ o0; have p1 := k0 _ _ o1; have p2 := k0 _ _ o2; have p3 := k0 _ _ o3
  clear HAL
  go_region_held (fun w' => w'.cell? ⟨w2.heap.size, 0, none⟩ = some (.int .i64 8) ∧ w'.cell? ⟨w2.heap.size, 1, none⟩ = some (.int .i64 0) ∧ w'.cell? ⟨w2.heap.size, 2, none⟩ = some (.int .i64 (A : Int)) ∧ w'.cell? ⟨w2.heap.size, 3, none⟩ = some (.int .i64 0)) (first | exact ⟨o0, o1, o2, o3⟩ | exact ⟨p0, p1, p2, p3⟩ | exact ⟨(hb4.cell (block_lt_of_cell p0)).trans p0, (hb4.cell (block_lt_of_cell p1)).trans p1, (hb4.cell (block_lt_of_cell p2)).trans p2, (hb4.cell (block_lt_of_cell p3)).trans p3⟩) (first
    | (go_at_call 11; refine hm.mono ?_; rintro r w3 ⟨rfl, rfl⟩)
    | (go_at_call 27; refine hq.mono ?_; rintro r w4 ⟨rfl, hb4⟩))
  all_goals go_wp2_with fail
  all_goals go_ret
  all_goals exact ⟨rfl, (((bl_drew hBR).alloc (by have := hBR.size; simpa using this) _).alloc (by have := hBR.size; simp; omega) _).trans (hb4.mono (by have := hBR.size; simp; omega))⟩
end Go.Proofs.YtipepbfpfmadaaaGreatDoor.As.T
