/- The law SpinEnds. -/
import Derived.Test.YtckmkaeopnnbbaaGreatDoorNL
import Derived.Test.YtckmkaeopnnbbaaGreatDoorSfK
import Derived.Test.YtckmkaeopnnbbaaGreatDoorEhB
set_option linter.unusedVariables false
set_option linter.unusedSimpArgs false
set_option maxRecDepth 20000
namespace Go.Proofs.YtckmkaeopnnbbaaGreatDoor.As.T
open Go.RowKit

theorem wr_k64 {x : Int} (h0 : 0 ≤ x) (h1 : x ≤ 1000000) : IntKind.i64.wrap x = x := by rw [IntKind.wrap_i64]; omega
structure Lock15E (w : World) (k th : Int) (F G : Nat → List Ln) (mem : List Int) : Prop where
 lA : ∀ t : Nat, (t : Int) < th → ∀ W, Below w.heap.size w W → Calls Tryz.prog 38 #[.agg #[.int .i64 k, .int .i64 0, .int .i64 0, .int .i64 0], .int .i64 1, .int .i64 th, .int .i64 t, .int .u32 16, .int .u32 0] W (CodeIs W (resL (F t)))
 lB : ∀ t : Nat, (t : Int) < th → ∀ W, Below w.heap.size w W → Calls Tryz.prog 38 #[.agg #[.int .i64 k, .int .i64 0, .int .i64 0, .int .i64 0], .int .i64 2, .int .i64 th, .int .i64 t, .int .u32 16, .int .u32 0] W (CodeIs W (resL (G t)))
 lF : ∀ W, Below w.heap.size w W → Calls Tryz.prog 42 #[.agg #[.int .i64 k, .int .i64 0, .int .i64 0, .int .i64 0], .int .i64 th] W (FirstOk W mem)
 hm : mem = [0] ∨ mem = [0, 0, 0]
 sF : ∀ t : Fin 4, shortL (resL (F t)) = true
 sG : ∀ t : Fin 4, shortL (resL (G t)) = true
 fi : ∀ r : Fin 4, ∀ t : Fin 4, fineL (roundsR (resL (F t)) (resL (G t)) (r + 1) []) = true
 go : ∀ (T R room : Nat), 0 < T → T ≤ 4 → 0 < R → R ≤ 3 → 0 < room → EndsOk (codesR (lim F) (lim G) T R) mem room T R
theorem lock15e (w : World) (TI : TabI w) (TO : TabO w) (k th : Int) (hk : k = 1 ∨ k = 2 ∨ k = 3) (h1 : 1 ≤ th ∧ th ≤ 4) : ∃ F G mem, Lock15E w k th F G mem := by
 have ti := fun W (hb : Below w.heap.size w W) => TI.below hb (Nat.le_refl _)
 have tO := fun W (hb : Below w.heap.size w W) => TO.below hb (Nat.le_refl _)
 rcases hk with rfl | rfl | rfl
 ·have hR : RightP 1 0 0 0 th := by unfold RightP; omega
  exact ⟨linTas 16, linRel 16, [0], fun t ht W hb => spinTas_any W (ti W hb) (tO W hb) 0 0 0 th 0 t 16 ⟨hR, by omega, ht, by decide⟩ (by omega) (by omega), fun t ht W hb => spinRel1_any W (ti W hb) (tO W hb) 0 0 0 th 0 t 16 ⟨hR, by omega, ht, by decide⟩ (by omega) (by omega), fun W hb => first_1 W (tO W hb) 0 0 0 th hR, .inl rfl, short_tas, short_rel, fine_tas, fun T R room hT0 hT hR0 hR hr => tas_ends hT0 hT hR0 hR hr⟩
 ·have hR : RightP 2 0 0 0 th := by unfold RightP; omega
  exact ⟨linTtas 16, linRel 16, [0], fun t ht W hb => spinTtas_any W (ti W hb) (tO W hb) 0 0 0 th 0 t 16 ⟨hR, by omega, ht, by decide⟩ (by omega) (by omega), fun t ht W hb => spinRel2_any W (ti W hb) (tO W hb) 0 0 0 th 0 t 16 ⟨hR, by omega, ht, by decide⟩ (by omega) (by omega), fun W hb => first_2 W (tO W hb) 0 0 0 th hR, .inl rfl, short_ttas, short_rel, fine_ttas, fun T R room hT0 hT hR0 hR hr => ttas_ends hT0 hT hR0 hR hr⟩
 ·have hR : RightP 3 0 0 0 th := by unfold RightP; omega
  exact ⟨linTick 16, linPass 16, [0, 0, 0], fun t ht W hb => spinTick_any W (ti W hb) (tO W hb) 0 0 0 th 0 t 16 ⟨hR, by omega, ht, by decide⟩ (by omega) (by omega), fun t ht W hb => spinPass_any W (ti W hb) (tO W hb) 0 0 0 th 0 t 16 ⟨hR, by omega, ht, by decide⟩ (by omega) (by omega), fun W hb => first_3 W (tO W hb) 0 0 0 th hR, .inr rfl, short_tick, short_pass, fine_tick, fun T R room hT0 hT hR0 hR hr => tick_ends hT0 hT hR0 hR hr⟩
set_option maxHeartbeats 1000000 in
theorem ends15 (W : World) (TI : TabI W) (TO : TabO W) (k th rr mm ww : Int) (hww : 4 * th ≤ ww ∧ ww ≤ 1000) (hk : k = 1 ∨ k = 2 ∨ k = 3) (h1 : 1 ≤ th ∧ th ≤ 4) (h2 : 1 ≤ rr ∧ rr ≤ 3) (h3 : 1 ≤ mm ∧ mm ≤ 4) (bo bt : Nat) (ho : W.heap[bo]? = some (.cells #[.int .i64 k, .int .i64 0, .int .i64 0, .int .i64 0] 27 (0, 0))) (hbt : W.heap[bt]? = some (.cells #[.int .i64 th] 3 (0, 0))) (sv : Value) (bs : List Nat) (hs : Rd W 1 sv bs.length (u8s bs)) (hb : ∀ b ∈ bs, b ≤ 255) (hn : bs.length ≤ 100000) :
  Calls Tryz.prog 29 #[.agg #[.int .i64 k, .int .i64 0, .int .i64 0, .int .i64 0], .int .i64 th, .int .i64 rr, .int .i64 mm, .func (.func 40) #[] #[.pointer (some ⟨bo, 0, none⟩), .pointer (some ⟨bt, 0, none⟩)], sv, .int .i64 ww] W fun e w' => e = .returned (.bool true) ∧ Below W.heap.size W w' := by
 obtain ⟨T, rfl⟩ := Int.eq_ofNat_of_zero_le (show 0 ≤ th by omega)
 obtain ⟨R, rfl⟩ := Int.eq_ofNat_of_zero_le (show 0 ≤ rr by omega)
 obtain ⟨M, rfl⟩ := Int.eq_ofNat_of_zero_le (show 0 ≤ mm by omega)
 obtain ⟨w0, rfl⟩ := Int.eq_ofNat_of_zero_le (show 0 ≤ ww by omega)
 obtain ⟨F, G, mem, h⟩ := lock15e W TI TO k T hk h1
 have hgo := h.go T R M (by omega) (by omega) (by omega) (by omega) (by omega) w0 (bs.map pickB) (by omega)
 have hob := (Array.getElem?_eq_some_iff.1 ho).1
 have hbb := (Array.getElem?_eq_some_iff.1 hbt).1
 refine ends_any W TI k 0 0 0 T R M w0 40 #[.pointer (some ⟨bo, 0, none⟩), .pointer (some ⟨bt, 0, none⟩)] (lim F) (lim G) mem sv bs ?_ ?_ h.lF (fun args w => enters_of Tryz.func40 (by kernel_rfl) rfl args w) ?_ ?_ ?_ (by omega) (by omega) (by omega) (by omega) (by omega) (by omega) (short_of h.sF) (short_of h.sG) (codes_of h.fi (by omega) (by omega) (by omega)) hs hb hn (by omega) (by omega) hgo
 ·intro t ht W' hW
  rw [lim_eq F (by omega)]
  exact maker15_1 W' k 0 0 0 T 1 t bo bt _ ((hW.block bo hob).trans ho) ((hW.block bt hbb).trans hbt) (h.lA t (by omega) W' hW)
 ·intro t ht W' hW
  rw [lim_eq G (by omega)]
  exact maker15_1 W' k 0 0 0 T 2 t bo bt _ ((hW.block bo hob).trans ho) ((hW.block bt hbb).trans hbt) (h.lB t (by omega) W' hW)
 ·rcases h.hm with e | e <;> rw [e] <;> decide
 ·rcases h.hm with e | e <;> rw [e] <;> decide
 ·rcases h.hm with e | e <;> rw [e] <;> decide
set_option maxHeartbeats 4000000 in
theorem spinEnds_any (w : World) (TI : TabI w) (TO : TabO w) (x0 x1 x2 x3 : Int) (h0 : 0 ≤ x0 ∧ x0 ≤ 255) (h1 : 0 ≤ x1 ∧ x1 ≤ 255) (h2 : 0 ≤ x2 ∧ x2 ≤ 255) (h3 : 0 ≤ x3 ∧ x3 ≤ 255) (A : Option Addr) (cap : Nat) (bs : List Nat) (hl : bs.length ≤ maxLen) (hs : Rd w 1 (.slice A bs.length cap) bs.length (u8s bs)) (hb : ∀ b ∈ bs, b ≤ 255) (m0 : Int) (hm0 : 0 ≤ m0 ∧ m0 ≤ 255) :
  Calls Tryz.prog 7 #[.agg #[.int .u8 x0, .int .u8 x1, .int .u8 x2, .int .u8 x3], .slice A bs.length cap, .int .u8 m0] w fun e w' => e = .returned (.bool true) ∧ Below w.heap.size w w' := by
 obtain ⟨k, hk⟩ : ∃ k, 1 + x0 % 3 = k := ⟨_, rfl⟩
 obtain ⟨th, hth⟩ : ∃ th, 1 + x1 % 4 = th := ⟨_, rfl⟩
 obtain ⟨rr, hrr⟩ : ∃ rr, 1 + x2 % 3 = rr := ⟨_, rfl⟩
 obtain ⟨mm, hmm⟩ : ∃ mm, 1 + x3 % 4 = mm := ⟨_, rfl⟩
 have hk3 : k = 1 ∨ k = 2 ∨ k = 3 := by omega
 have hth4 : 1 ≤ th ∧ th ≤ 4 := by omega
 have hrr3 : 1 ≤ rr ∧ rr ≤ 3 := by omega
 have hmm4 : 1 ≤ mm ∧ mm ≤ 4 := by omega
 obtain ⟨t4, ht4⟩ : ∃ t4, 4 * th = t4 := ⟨_, rfl⟩
 obtain ⟨ww, hww⟩ : ∃ ww, t4 + m0 = ww := ⟨_, rfl⟩
 have hww9 : 4 * th ≤ ww ∧ ww ≤ 1000 := by omega
 have n1 : 0 ≤ t4 ∧ t4 ≤ 1000000 ∧ 0 ≤ ww ∧ ww ≤ 1000000 := by omega
 have e1 : IntKind.i64.wrap (4 * th) = t4 := by rw [ht4]; exact wr_k64 n1.1 n1.2.1
 have e2 : IntKind.i64.wrap m0 = m0 := wr_k64 hm0.1 (by omega)
 have e3 : IntKind.i64.wrap (t4 + m0) = ww := by rw [hww]; exact wr_k64 n1.2.2.1 n1.2.2.2
 have haw := fun W (hW : Below w.heap.size w W) => awake15_any W (TI.below hW (Nat.le_refl _)) (TO.below hW (Nat.le_refl _))
 have hob := fun W => object15 W x0 x1 x2 x3 h0 h1 h2 h3
 rw [hk, hth, hrr, hmm] at hob
 have HAL : Hid (∀ W, Below w.heap.size w W → bs.length ≤ 3000 → ∀ bo bt, W.heap[bo]? = some (.cells #[.int .i64 k, .int .i64 0, .int .i64 0, .int .i64 0] 27 (0, 0)) → W.heap[bt]? = some (.cells #[.int .i64 th] 3 (0, 0)) → Calls Tryz.prog 29 #[.agg #[.int .i64 k, .int .i64 0, .int .i64 0, .int .i64 0], .int .i64 th, .int .i64 rr, .int .i64 mm, .func (.func 40) #[] #[.pointer (some ⟨bo, 0, none⟩), .pointer (some ⟨bt, 0, none⟩)], .slice A bs.length cap, .int .i64 ww] W fun e w' => e = .returned (.bool true) ∧ Below W.heap.size W w') :=
  Lib.hid fun W hW hn bo bt ho hbt => ends15 W (TI.below hW (Nat.le_refl _)) (TO.below hW (Nat.le_refl _)) k th rr mm ww hww9 hk3 hth4 hrr3 hmm4 bo bt ho hbt _ bs (hs.below hW (Nat.le_refl _)) hb (by omega)
 obtain ⟨n, hn⟩ : ∃ n : Nat, bs.length = n := ⟨_, rfl⟩
 rw [hn] at HAL hl ⊢
 clear hs hb hk hth hrr hmm ht4 hww hww9 hm0 n1
 have HL := Lib.hid hl
 have HAW := Lib.hid haw
 have HOB := Lib.hid hob
 clear hl haw hob TI TO hn h0 h1 h2 h3
 go_enter Tryz.func7, Tryz.ntmps7
 have hB0 : Below w.heap.size w (w.alloc (.cells #[.int .u8 x0, .int .u8 x1, .int .u8 x2, .int .u8 x3] 35)) := (Below.refl _ w).alloc (Nat.le_refl _) _
 go_wp2_with (first
  | (go_at_call 15; refine (HAW.out _ hB0).mono ?_; rintro r w1 ⟨rfl, hb1⟩; have c0 : w1.cell? ⟨w.heap.size, 0, none⟩ = some (.int .u8 x0) := cell_of_row w1 _ 0 _ _ _ ((hb1.block w.heap.size (by simp)).trans (heap_alloc_new _ _)); have c1 : w1.cell? ⟨w.heap.size, 1, none⟩ = some (.int .u8 x1) := cell_of_row w1 _ 1 _ _ _ ((hb1.block w.heap.size (by simp)).trans (heap_alloc_new _ _)); have c2 : w1.cell? ⟨w.heap.size, 2, none⟩ = some (.int .u8 x2) := cell_of_row w1 _ 2 _ _ _ ((hb1.block w.heap.size (by simp)).trans (heap_alloc_new _ _)); have c3 : w1.cell? ⟨w.heap.size, 3, none⟩ = some (.int .u8 x3) := cell_of_row w1 _ 3 _ _ _ ((hb1.block w.heap.size (by simp)).trans (heap_alloc_new _ _)); have hB1 : Hid (Below w.heap.size w w1) := Lib.hid (hB0.trans (hb1.mono (by simp))); clear hb1)
  | (go_at_call 15; refine (HAW.out _ hB1.out).mono ?_; rintro r w2 ⟨rfl, hb2⟩)
  | (go_at_call 16; refine (HOB.out _).mono ?_; rintro r w2 ⟨rfl, hb2⟩))
 ·go_ret
  exact ⟨rfl, hB1.out.trans (hb2.mono hB1.out.size)⟩
 have hB2 : Below w.heap.size w w2 := hB1.out.trans (hb2.mono hB1.out.size)
 obtain ⟨WR, hWR⟩ : ∃ WR, (w2.alloc (.cells #[.int .i64 k, .int .i64 0, .int .i64 0, .int .i64 0] 27)) = WR := ⟨_, rfl⟩
 have hO : WR.heap[w2.heap.size]? = some (.cells #[.int .i64 k, .int .i64 0, .int .i64 0, .int .i64 0] 27 (0, 0)) := by rw [← hWR]; exact heap_alloc_new _ _
 have hBR : Below w.heap.size w WR := by rw [← hWR]; exact hB2.alloc hB2.size _
 rw [hWR]
 clear hWR c0 c1 c2 c3 hb2 hB0 hB1 HAW HOB
 have hm := maker15_any WR.drew k 0 0 0 th
 have hq := HAL.out ((WR.drew.alloc (.cells #[.int .i64 k, .int .i64 0, .int .i64 0, .int .i64 0] 27)).alloc (.cells #[.int .i64 th] 3)) (((bl_drew hBR).alloc (by have := hBR.size; simpa using this) _).alloc (by have := hBR.size; simp; omega) _) (by omega) WR.heap.size (WR.heap.size + 1) (at_alloc (at_new rfl)) (at_new (by simp))
 clear HAL
 have S0 : WR.drew.heap[w2.heap.size]? = some (.cells #[.int .i64 k, .int .i64 0, .int .i64 0, .int .i64 0] 27 (0, 0)) := hO
 have HBR := Lib.hid hBR
 have hlo : w2.heap.size < WR.heap.size := (Array.getElem?_eq_some_iff.1 hO).1
 clear hO hBR hB2
 refine wp_region_g (fun W => W.heap[w2.heap.size]? = some (.cells #[.int .i64 k, .int .i64 0, .int .i64 0, .int .i64 0] 27 (0, 0))) 99 (by kernel_rfl) ?_
 refine AnyG_take (i := 0) (oi := _) (v := ?_) rfl (by kernel_rfl) (fun _ _ _ h => h) (Or.inl ⟨by rfl, ?_⟩) S0 ?_
 rotate_left
 ·intro W hSw; obtain ⟨s0, s1, s2, s3⟩ := cellsQ4 hSw; clear hSw; go_simp; first | done | with_reducible rfl
 simp only [Act.put, Zq1, Zq2, Zq3, Zq4, Zq5, Zq6]
 refine AnyG_take (i := 1) (oi := _) (v := ?_) rfl (by kernel_rfl) (fun _ _ _ h => h) (Or.inl ⟨by rfl, ?_⟩) S0 ?_
 rotate_left
 ·intro W hSw; obtain ⟨s0, s1, s2, s3⟩ := cellsQ4 hSw; clear hSw; go_simp; first | done | with_reducible rfl
 simp only [Act.put, Zq1, Zq2, Zq3, Zq4, Zq5, Zq6]
 refine AnyG_take (i := 2) (oi := _) (v := ?_) rfl (by kernel_rfl) (fun _ _ _ h => h) (Or.inl ⟨by rfl, ?_⟩) S0 ?_
 rotate_left
 ·intro W hSw; obtain ⟨s0, s1, s2, s3⟩ := cellsQ4 hSw; clear hSw; go_simp; first | done | with_reducible rfl
 simp only [Act.put, Zq1, Zq2, Zq3, Zq4, Zq5, Zq6]
 refine AnyG_take (i := 3) (oi := _) (v := ?_) rfl (by kernel_rfl) (fun _ _ _ h => h) (Or.inl ⟨by rfl, ?_⟩) S0 ?_
 rotate_left
 ·intro W hSw; obtain ⟨s0, s1, s2, s3⟩ := cellsQ4 hSw; clear hSw; go_simp; first | done | with_reducible rfl
 simp only [Act.put, Zq1, Zq2, Zq3, Zq4, Zq5, Zq6]
 refine AnyG_take (i := 4) (oi := _) (v := ?_) rfl (by kernel_rfl) (fun _ _ _ h => h) (Or.inl ⟨by rfl, ?_⟩) S0 ?_
 rotate_left
 ·intro W hSw; obtain ⟨s0, s1, s2, s3⟩ := cellsQ4 hSw; clear hSw; go_simp; first | done | with_reducible rfl
 simp only [Act.put, Zq1, Zq2, Zq3, Zq4, Zq5, Zq6]
 refine AnyG_take (i := 5) (oi := _) (v := ?_) rfl (by kernel_rfl) (fun _ _ _ h => h) (Or.inl ⟨by rfl, ?_⟩) S0 ?_
 rotate_left
 ·intro W hSw; obtain ⟨s0, s1, s2, s3⟩ := cellsQ4 hSw; clear hSw; go_simp; first | done | with_reducible rfl
 simp only [Act.put, Zq1, Zq2, Zq3, Zq4, Zq5, Zq6]
 refine AnyG_take (i := 7) (oi := _) (v := ?_) rfl (by kernel_rfl) (fun _ _ _ h => h) (Or.inl ⟨by rfl, ?_⟩) S0 ?_
 rotate_left
 ·intro W hSw; obtain ⟨s0, s1, s2, s3⟩ := cellsQ4 hSw; clear hSw; go_simp; first | done | with_reducible rfl
 simp only [Act.put, Zq1, Zq2, Zq3, Zq4, Zq5, Zq6]
 refine AnyG_take (i := 8) (oi := _) (v := ?_) rfl (by kernel_rfl) (fun _ _ _ h => h) (Or.inl ⟨by rfl, ?_⟩) S0 ?_
 rotate_left
 ·intro W hSw; obtain ⟨s0, s1, s2, s3⟩ := cellsQ4 hSw; clear hSw; go_simp; first | done | with_reducible rfl
 simp only [Act.put, Zq1, Zq2, Zq3, Zq4, Zq5, Zq6]
 refine AnyG_take (i := 9) (oi := _) (v := ?_) rfl (by kernel_rfl) (fun _ _ _ h => h) (Or.inl ⟨by rfl, ?_⟩) S0 ?_
 rotate_left
 ·intro W hSw; obtain ⟨s0, s1, s2, s3⟩ := cellsQ4 hSw; clear hSw; go_simp; first | done | with_reducible rfl
 simp only [Act.put, Zq1, Zq2, Zq3, Zq4, Zq5, Zq6]
 refine AnyG_take (i := 10) (oi := _) (v := ?_) rfl (by kernel_rfl) (fun _ _ _ h => h) (Or.inl ⟨by rfl, ?_⟩) S0 ?_
 rotate_left
 ·intro W hSw; obtain ⟨s0, s1, s2, s3⟩ := cellsQ4 hSw; clear hSw; go_simp; first | done | with_reducible rfl
 simp only [Act.put, Zq1, Zq2, Zq3, Zq4, Zq5, Zq6]
 refine AnyG_take (i := 11) (oi := _) (v := ?_) rfl (by kernel_rfl) (fun _ _ _ h => h) (Or.inl ⟨by rfl, ?_⟩) S0 ?_
 rotate_left
 ·intro W hSw; obtain ⟨s0, s1, s2, s3⟩ := cellsQ4 hSw; clear hSw; go_simp; first | done | with_reducible rfl
 simp only [Act.put, Zq1, Zq2, Zq3, Zq4, Zq5, Zq6]
 refine AnyG_take (i := 12) (oi := _) (v := ?_) rfl (by kernel_rfl) (fun _ _ _ h => h) (Or.inl ⟨by rfl, ?_⟩) S0 ?_
 rotate_left
 ·intro W hSw; obtain ⟨s0, s1, s2, s3⟩ := cellsQ4 hSw; clear hSw; go_simp; first | done | with_reducible rfl
 simp only [Act.put, Zq1, Zq2, Zq3, Zq4, Zq5, Zq6]
 refine AnyG_one (i := 6) rfl (by kernel_rfl) ?_
 refine wpOp_of rfl rfl ?_
 try simp only [Act.put, Zq1, Zq2, Zq3, Zq4, Zq5, Zq6]
 go_simp
 refine hm.mono ?_
 rintro _ w3 ⟨rfl, hw3⟩
 subst hw3
 have S1 : ((WR.drew.alloc (.cells #[.int .i64 k, .int .i64 0, .int .i64 0, .int .i64 0] 27)).alloc (.cells #[.int .i64 th] 3)).heap[w2.heap.size]? = some (.cells #[.int .i64 k, .int .i64 0, .int .i64 0, .int .i64 0] 27 (0, 0)) := up_al (up_al S0)
 refine ⟨S1, ?_⟩
 try simp only [Act.put, Zq1, Zq2, Zq3, Zq4, Zq5, Zq6]
 refine AnyG_one (i := 13) rfl (by kernel_rfl) ?_
 refine wpOp_of rfl rfl ?_
 try simp only [Act.put, Zq1, Zq2, Zq3, Zq4, Zq5, Zq6]
 go_simp
 refine hq.mono ?_
 rintro _ w4 ⟨rfl, hb4⟩
 have S2 : w4.heap[w2.heap.size]? = some (.cells #[.int .i64 k, .int .i64 0, .int .i64 0, .int .i64 0] 27 (0, 0)) := (hb4.block _ (Array.getElem?_eq_some_iff.1 S1).1).trans S1
 refine ⟨S2, ?_⟩
 try simp only [Act.put, Zq1, Zq2, Zq3, Zq4, Zq5, Zq6]
 refine AnyG_one (i := 14) rfl (by kernel_rfl) ?_
 refine wpOp_of rfl rfl ?_
 try simp only [Act.put, Zq1, Zq2, Zq3, Zq4, Zq5, Zq6]
 go_simp
 try simp only [Act.put, Zq1, Zq2, Zq3, Zq4, Zq5, Zq6]
 refine AnyG_done (by kernel_rfl) ?_ _
 go_wp2_with fail
 go_ret
 have hBR := HBR.out
 exact ⟨rfl, (((bl_drew hBR).alloc (by have := hBR.size; simpa using this) _).alloc (by have := hBR.size; simp; omega) _).trans (hb4.mono (by have := hBR.size; simp; omega))⟩
end Go.Proofs.YtckmkaeopnnbbaaGreatDoor.As.T
