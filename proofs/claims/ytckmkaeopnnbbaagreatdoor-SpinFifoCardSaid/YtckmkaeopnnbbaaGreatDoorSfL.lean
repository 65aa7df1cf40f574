/- The law SpinFifo. -/
import Derived.Test.YtckmkaeopnnbbaaGreatDoorSfK
import Derived.Test.YtckmkaeopnnbbaaGreatDoorTwC
import Derived.Test.YtckmkaeopnnbbaaGreatDoorTqV
import Derived.Test.YtckmkaeopnnbbaaGreatDoorTqF
set_option linter.unusedVariables false
set_option linter.unusedSimpArgs false
namespace Go.Proofs.YtckmkaeopnnbbaaGreatDoor.As.T
open Go.RowKit

theorem fine_tick : ∀ r : Fin 4, ∀ t : Fin 4, fineL (roundsR (resL (linTick 16 t)) (resL (linPass 16 t)) (r + 1) []) = true := by decide +kernel
theorem short_tick : ∀ t : Fin 4, shortL (resL (linTick 16 t)) = true := by decide +kernel
theorem short_pass : ∀ t : Fin 4, shortL (resL (linPass 16 t)) = true := by decide +kernel
theorem tick_runsF {T R : Nat} (room : Nat) (hT : T ≤ 4) (hR0 : 0 < R) (hR : R ≤ 3) : RunsF (codesR (lim (linTick 16)) (lim (linPass 16)) T R) [0, 0, 0] room T := fun l => by
  obtain ⟨s', hr, f', i', h⟩ := TickF.run (T := T) (R := R) (by omega) (by omega) (fun t ht => codes_at (linTick 16) (linPass 16) hT ht) l (inv0F (TickF.X T R) [0, 0, 0] room rfl hR0 (fun _ => Nat.zero_lt_succ _) (fun _ => rfl) rfl ⟨fun _ => none, ⟨fun t ht => by
    rw [buf0]
    exact TickF.At.a0F rfl (by show (0 : Int) ≠ _; omega), fun _ _ _ _ _ _ => rfl, by decide, by decide, by
      have h : ∀ t, t < T → TickF.drew loc0 = 0 := fun t _ => rfl
      rw [sumT_congr T h, sumT_const]
      show (0 : Int) = _
      omega, ⟨0, .inl rfl, rfl, fun u hu k hk => (by cases hk), fun u hu hk => (by cases hk)⟩⟩⟩)
  exact ⟨s', hr, factsF h⟩
set_option maxHeartbeats 1000000 in
theorem fifo15 (W : World) (TI : TabI W) (TO : TabO W) (k th rr mm : Int) (hk : k = 3) (h1 : 1 ≤ th ∧ th ≤ 4) (h2 : 1 ≤ rr ∧ rr ≤ 3) (h3 : 1 ≤ mm ∧ mm ≤ 4) (bo bt : Nat) (ho : W.heap[bo]? = some (.cells #[.int .i64 k, .int .i64 0, .int .i64 0, .int .i64 0] 27 (0, 0))) (hbt : W.heap[bt]? = some (.cells #[.int .i64 th] 3 (0, 0))) (sv : Value) (bs : List Nat) (hs : Rd W 1 sv bs.length (u8s bs)) (hb : ∀ b ∈ bs, b ≤ 255) (hn : bs.length ≤ 40000) :
    Calls Tryz.prog 17 #[.agg #[.int .i64 k, .int .i64 0, .int .i64 0, .int .i64 0], .int .i64 th, .int .i64 rr, .int .i64 mm, .func (.func 40) #[] #[.pointer (some ⟨bo, 0, none⟩), .pointer (some ⟨bt, 0, none⟩)], sv] W fun e w' => e = .returned (.bool true) ∧ Below W.heap.size W w' := by
  obtain ⟨T, rfl⟩ := Int.eq_ofNat_of_zero_le (show 0 ≤ th by omega)
  obtain ⟨R, rfl⟩ := Int.eq_ofNat_of_zero_le (show 0 ≤ rr by omega)
  obtain ⟨M, rfl⟩ := Int.eq_ofNat_of_zero_le (show 0 ≤ mm by omega)
  subst hk
  obtain ⟨s', hr, Wq, stq, hff⟩ := tick_runsF (T := T) (R := R) M (by omega) (by omega) (by omega) (bs.map pickB)
  have hob := (Array.getElem?_eq_some_iff.1 ho).1
  have hbb := (Array.getElem?_eq_some_iff.1 hbt).1
  have hR : RightP 3 0 0 0 T := by unfold RightP; omega
  have ti := fun V (hV : Below W.heap.size W V) => TI.below hV (Nat.le_refl _)
  have to_ := fun V (hV : Below W.heap.size W V) => TO.below hV (Nat.le_refl _)
  refine fifo_any W TI 3 0 0 0 T R M 40 #[.pointer (some ⟨bo, 0, none⟩), .pointer (some ⟨bt, 0, none⟩)] (lim (linTick 16)) (lim (linPass 16)) [0, 0, 0] sv bs ?_ ?_ (fun V hV => first_3 V (to_ V hV) 0 0 0 T hR) (fun args w => enters_of Tryz.func40 (by kernel_rfl) rfl args w) (by decide) (by decide) (by decide) (by omega) (by omega) (by omega) (by omega) (by omega) (by omega) (short_of short_tick) (short_of short_pass) (codes_of fine_tick (by omega) (by omega) (by omega)) hs hb hn s' hr Wq stq hff
  · intro t ht V hV
    rw [lim_eq (linTick 16) (by omega)]
    exact maker15_1 V 3 0 0 0 T 1 t bo bt _ ((hV.block bo hob).trans ho) ((hV.block bt hbb).trans hbt) (spinTick_any V (ti V hV) (to_ V hV) 0 0 0 T 0 t 16 ⟨hR, by omega, by omega, by decide⟩ (by omega) (by omega))
  · intro t ht V hV
    rw [lim_eq (linPass 16) (by omega)]
    exact maker15_1 V 3 0 0 0 T 2 t bo bt _ ((hV.block bo hob).trans ho) ((hV.block bt hbb).trans hbt) (spinPass_any V (ti V hV) (to_ V hV) 0 0 0 T 0 t 16 ⟨hR, by omega, by omega, by decide⟩ (by omega) (by omega))
set_option maxHeartbeats 4000000 in
theorem spinFifo_any (w : World) (TI : TabI w) (TO : TabO w) (x0 x1 x2 x3 : Int) (h0 : 0 ≤ x0 ∧ x0 ≤ 255) (h1 : 0 ≤ x1 ∧ x1 ≤ 255) (h2 : 0 ≤ x2 ∧ x2 ≤ 255) (h3 : 0 ≤ x3 ∧ x3 ≤ 255) (A : Option Addr) (cap : Nat) (bs : List Nat) (hl : bs.length ≤ maxLen) (hs : Rd w 1 (.slice A bs.length cap) bs.length (u8s bs)) (hb : ∀ b ∈ bs, b ≤ 255) :
    Calls Tryz.prog 4 #[.agg #[.int .u8 x0, .int .u8 x1, .int .u8 x2, .int .u8 x3], .slice A bs.length cap] w fun e w' => e = .returned (.bool true) ∧ Below w.heap.size w w' := by
  obtain ⟨k, hk⟩ : ∃ k : Int, (1 : Int) + 2 % 3 = k := ⟨_, rfl⟩
  obtain ⟨th, hth⟩ : ∃ th, 1 + x1 % 4 = th := ⟨_, rfl⟩
  obtain ⟨rr, hrr⟩ : ∃ rr, 1 + x2 % 3 = rr := ⟨_, rfl⟩
  obtain ⟨mm, hmm⟩ : ∃ mm, 1 + x3 % 4 = mm := ⟨_, rfl⟩
  have hk3 : k = 3 := by omega
  have hth4 : 1 ≤ th ∧ th ≤ 4 := by omega
  have hrr3 : 1 ≤ rr ∧ rr ≤ 3 := by omega
  have hmm4 : 1 ≤ mm ∧ mm ≤ 4 := by omega
  have haw := fun W (hW : Below w.heap.size w W) => awake15_any W (TI.below hW (Nat.le_refl _)) (TO.below hW (Nat.le_refl _))
  have hob := fun W => object15 W 2 x1 x2 x3 (by decide) h1 h2 h3
  rw [hk, hth, hrr, hmm] at hob
  have HAL : Hid (∀ W, Below w.heap.size w W → bs.length ≤ 3000 → ∀ bo bt, W.heap[bo]? = some (.cells #[.int .i64 k, .int .i64 0, .int .i64 0, .int .i64 0] 27 (0, 0)) → W.heap[bt]? = some (.cells #[.int .i64 th] 3 (0, 0)) → Calls Tryz.prog 17 #[.agg #[.int .i64 k, .int .i64 0, .int .i64 0, .int .i64 0], .int .i64 th, .int .i64 rr, .int .i64 mm, .func (.func 40) #[] #[.pointer (some ⟨bo, 0, none⟩), .pointer (some ⟨bt, 0, none⟩)], .slice A bs.length cap] W fun e w' => e = .returned (.bool true) ∧ Below W.heap.size W w') :=
    Lib.hid fun W hW hn bo bt ho hbt => fifo15 W (TI.below hW (Nat.le_refl _)) (TO.below hW (Nat.le_refl _)) k th rr mm hk3 hth4 hrr3 hmm4 bo bt ho hbt _ bs (hs.below hW (Nat.le_refl _)) hb (by omega)
  obtain ⟨n, hn⟩ : ∃ n : Nat, bs.length = n := ⟨_, rfl⟩
  rw [hn] at HAL hl ⊢
  clear hs hb hk hth hrr hmm hk3
  have HL := Lib.hid hl
  have HAW := Lib.hid haw
  have HOB := Lib.hid hob
  clear hl haw hob TI TO hn h0 h1 h2 h3
  go_enter Tryz.func4, Tryz.ntmps4
  have hB0 : Below w.heap.size w (w.alloc (.cells #[.int .u8 x0, .int .u8 x1, .int .u8 x2, .int .u8 x3] 35)) := (Below.refl _ w).alloc (Nat.le_refl _) _
  go_wp2_with (first
    | (go_at_call 15; refine (HAW.out _ hB0).mono ?_; rintro r w1 ⟨rfl, hb1⟩; have c0 : w1.cell? ⟨w.heap.size, 0, none⟩ = some (.int .u8 x0) := cell_of_row w1 _ 0 _ _ _ ((hb1.block w.heap.size (by simp)).trans (heap_alloc_new _ _)); have c1 : w1.cell? ⟨w.heap.size, 1, none⟩ = some (.int .u8 x1) := cell_of_row w1 _ 1 _ _ _ ((hb1.block w.heap.size (by simp)).trans (heap_alloc_new _ _)); have c2 : w1.cell? ⟨w.heap.size, 2, none⟩ = some (.int .u8 x2) := cell_of_row w1 _ 2 _ _ _ ((hb1.block w.heap.size (by simp)).trans (heap_alloc_new _ _)); have c3 : w1.cell? ⟨w.heap.size, 3, none⟩ = some (.int .u8 x3) := cell_of_row w1 _ 3 _ _ _ ((hb1.block w.heap.size (by simp)).trans (heap_alloc_new _ _)); have hB1 : Hid (Below w.heap.size w w1) := Lib.hid (hB0.trans (hb1.mono (by simp))); have hrw := (hb1.block w.heap.size (by simp)).trans (heap_alloc_new w (.cells #[.int .u8 x0, .int .u8 x1, .int .u8 x2, .int .u8 x3] 35)); have f0 := frozen_of_row w1 w.heap.size 0 _ _ hrw; have hrs := heap_setCell_same w1 w.heap.size 0 _ _ (.int .u8 2) hrw; have d0 : (w1.setCell ⟨w.heap.size, 0, none⟩ (.int .u8 2)).cell? ⟨w.heap.size, 0, none⟩ = some (.int .u8 2) := cell_of_row _ _ 0 _ _ _ hrs; have d1 : (w1.setCell ⟨w.heap.size, 0, none⟩ (.int .u8 2)).cell? ⟨w.heap.size, 1, none⟩ = some (.int .u8 x1) := cell_of_row _ _ 1 _ _ _ hrs; have d2 : (w1.setCell ⟨w.heap.size, 0, none⟩ (.int .u8 2)).cell? ⟨w.heap.size, 2, none⟩ = some (.int .u8 x2) := cell_of_row _ _ 2 _ _ _ hrs; have d3 : (w1.setCell ⟨w.heap.size, 0, none⟩ (.int .u8 2)).cell? ⟨w.heap.size, 3, none⟩ = some (.int .u8 x3) := cell_of_row _ _ 3 _ _ _ hrs; have hBS : Hid (Below w.heap.size w (w1.setCell ⟨w.heap.size, 0, none⟩ (.int .u8 2))) := Lib.hid (hB1.out.setCell (Nat.le_refl _) _); clear hb1 hrw hrs)
    | (go_at_call 15; refine (HAW.out _ hB1.out).mono ?_; rintro r w2 ⟨rfl, hb2⟩)
    | (go_at_call 16; refine (HOB.out _).mono ?_; rintro r w2 ⟨rfl, hb2x⟩; have hb2 : Below w.heap.size w w2 := hBS.out.trans (hb2x.mono hBS.out.size); clear hb2x))
  · go_ret
    exact ⟨rfl, hB1.out.trans (hb2.mono hB1.out.size)⟩
  have hB2 : Below w.heap.size w w2 := hb2
  obtain ⟨WR, hWR⟩ : ∃ WR, (w2.alloc (.cells #[.int .i64 k, .int .i64 0, .int .i64 0, .int .i64 0] 27)) = WR := ⟨_, rfl⟩
  have hO : WR.heap[w2.heap.size]? = some (.cells #[.int .i64 k, .int .i64 0, .int .i64 0, .int .i64 0] 27 (0, 0)) := by rw [← hWR]; exact heap_alloc_new _ _
  have hBR : Below w.heap.size w WR := by rw [← hWR]; exact hB2.alloc hB2.size _
  rw [hWR]
  clear hWR c0 c1 c2 c3 d0 d1 d2 d3 f0 hBS hb2 hB0 hB1 HAW HOB
  obtain ⟨o0, o1, o2, o3⟩ := cellsQ4 (show WR.drew.heap[w2.heap.size]? = _ from hO)
  have hm := maker15_any WR.drew k 0 0 0 th
  have hq := HAL.out ((WR.drew.alloc (.cells #[.int .i64 k, .int .i64 0, .int .i64 0, .int .i64 0] 27)).alloc (.cells #[.int .i64 th] 3)) (((bl_drew hBR).alloc (by have := hBR.size; simpa using this) _).alloc (by have := hBR.size; simp; omega) _) (by omega) WR.heap.size (WR.heap.size + 1) (at_alloc (at_new rfl)) (at_new (by simp))
  have k0 : ∀ j v, WR.drew.cell? ⟨w2.heap.size, j, none⟩ = some v → ((WR.drew.alloc (.cells #[.int .i64 k, .int .i64 0, .int .i64 0, .int .i64 0] 27)).alloc (.cells #[.int .i64 th] 3)).cell? ⟨w2.heap.size, j, none⟩ = some v := fun j v h => alloc_cell1 (alloc_cell1 h)
  have p0 := k0 _ _ o0; have p1 := k0 _ _ o1; have p2 := k0 _ _ o2; have p3 := k0 _ _ o3
  clear HAL
  go_region_held (fun w' => w'.cell? ⟨w2.heap.size, 0, none⟩ = some (.int .i64 k) ∧ w'.cell? ⟨w2.heap.size, 1, none⟩ = some (.int .i64 0) ∧ w'.cell? ⟨w2.heap.size, 2, none⟩ = some (.int .i64 0) ∧ w'.cell? ⟨w2.heap.size, 3, none⟩ = some (.int .i64 0)) (first | exact ⟨o0, o1, o2, o3⟩ | exact ⟨p0, p1, p2, p3⟩ | exact ⟨(hb4.cell (block_lt_of_cell p0)).trans p0, (hb4.cell (block_lt_of_cell p1)).trans p1, (hb4.cell (block_lt_of_cell p2)).trans p2, (hb4.cell (block_lt_of_cell p3)).trans p3⟩) (first
    | (go_at_call 18; refine hm.mono ?_; rintro r w3 ⟨rfl, rfl⟩)
    | (go_at_call 17; refine hq.mono ?_; rintro r w4 ⟨rfl, hb4⟩))
  all_goals go_wp2_with fail
  all_goals go_ret
  all_goals exact ⟨rfl, (((bl_drew hBR).alloc (by have := hBR.size; simpa using this) _).alloc (by have := hBR.size; simp; omega) _).trans (hb4.mono (by have := hBR.size; simp; omega))⟩
end Go.Proofs.YtckmkaeopnnbbaaGreatDoor.As.T
