/- The law SpinOne. -/
import Derived.Test.YtipepbfpfmadaaaGreatDoorTqS
import Derived.Test.YtipepbfpfmadaaaGreatDoorGd
import Derived.Test.YtipepbfpfmadaaaGreatDoorGp
import Derived.Deep.RegionHeld
import Derived.StillTailTactics
import Derived.Shelf.Abstract
set_option linter.unusedVariables false
set_option linter.unusedSimpArgs false
namespace Go.Proofs.YtipepbfpfmadaaaGreatDoor.As.T
open Go.RowKit

theorem at_new {W : World} {g : Nat} {o : Obj} (h : g = W.heap.size) : (W.alloc o).heap[g]? = some o := by subst h; exact heap_alloc_new _ _
theorem at_alloc {W : World} {g : Nat} {o X : Obj} (h : W.heap[g]? = some o) : (W.alloc X).heap[g]? = some o := (Below.heap_alloc _ _ _ (Array.getElem?_eq_some_iff.1 h).1).trans h
theorem set4_cell {w : World} {R : Nat} {a : Addr} {v v0 v1 v2 v3 : Value} (h : w.cell? a = some v) (hne : a.block ≠ R) :
    ((((w.setCell ⟨R, 0, none⟩ v0).setCell ⟨R, 1, none⟩ v1).setCell ⟨R, 2, none⟩ v2).setCell ⟨R, 3, none⟩ v3).cell? a = some v := by
  have e : ∀ (W : World) (j : Nat) (v : Value), (W.setCell ⟨R, j, none⟩ v).heap[a.block]? = W.heap[a.block]? := fun W j v => heap_setCell_other W ⟨R, j, none⟩ a.block v hne
  refine (World.cell?_of_block (w := w) (a := a) ?_).trans h
  rw [e, e, e, e]
theorem set4 {w : World} {R : Nat} {o0 o1 o2 o3 : Value} {t : TypeId} (h : w.heap[R]? = some (.cells #[o0, o1, o2, o3] t (0, 0))) (v0 v1 v2 v3 : Value) :
    ((((w.setCell ⟨R, 0, none⟩ v0).setCell ⟨R, 1, none⟩ v1).setCell ⟨R, 2, none⟩ v2).setCell ⟨R, 3, none⟩ v3).heap[R]? = some (.cells #[v0, v1, v2, v3] t (0, 0)) ∧ Only (fun k => k = R) w ((((w.setCell ⟨R, 0, none⟩ v0).setCell ⟨R, 1, none⟩ v1).setCell ⟨R, 2, none⟩ v2).setCell ⟨R, 3, none⟩ v3) :=
  ⟨(heap_setCell_same _ R 3 _ t _ (heap_setCell_same _ R 2 _ t _ (heap_setCell_same _ R 1 _ t _ (heap_setCell_same _ R 0 _ t _ h)))).trans (by simp), Only.set1 (F := fun k => k = R) (p := ⟨R, 3, none⟩) (Only.set1 (F := fun k => k = R) (p := ⟨R, 2, none⟩) (Only.set1 (F := fun k => k = R) (p := ⟨R, 1, none⟩) (Only.set1 (F := fun k => k = R) (p := ⟨R, 0, none⟩) (Only.refl _ w) rfl _) rfl _) rfl _) rfl _⟩
theorem results_obj4 {fn : Func} {p u1 u2 u3 : Tmp} (h : fn.results = #[.cell p 27, .tmp u1, .tmp u2, .tmp u3]) (tmps : Array Value) (w : World) (R : Nat) (a b c d : Value) (hb : w.heap[R]? = some (.cells #[a, b, c, d] 27 (0, 0))) (hp : tmps.getD p undef = .pointer (some ⟨R, 0, none⟩)) :
    (results fn tmps).run Tryz.prog w = .ok (.tuple #[.agg #[a, b, c, d], tmps.getD u1 undef, tmps.getD u2 undef, tmps.getD u3 undef]) w := by
  have hl := run_loadVar_row (P := Tryz.prog) w R 27 27 _ _ _ hb Tryz.underlying27 rfl (by kernel_rfl)
  simp only [Array.getD_eq_getD_getElem?] at hp
  simp [results, h, hp, asAddr, hl]
theorem cellsQ4 {w : World} {g : Nat} {a b c d : Value} {t : TypeId} (hx : w.heap[g]? = some (.cells #[a, b, c, d] t (0, 0))) :
    w.cell? ⟨g, 0, none⟩ = some a ∧ w.cell? ⟨g, 1, none⟩ = some b ∧ w.cell? ⟨g, 2, none⟩ = some c ∧ w.cell? ⟨g, 3, none⟩ = some d :=
  ⟨cell_of_row w g 0 _ _ _ hx, cell_of_row w g 1 _ _ _ hx, cell_of_row w g 2 _ _ _ hx, cell_of_row w g 3 _ _ _ hx⟩
theorem case_wrap (x : Int) (n : Int) (h : 0 ≤ x ∧ x ≤ 255) (hn : 0 < n ∧ n ≤ 10) : IntKind.i64.wrap (1 + (IntKind.i64.wrap x).tmod n) = 1 + x % n := by
  have e : IntKind.i64.wrap x = x := by rw [IntKind.wrap_i64]; omega
  have m1 := Int.emod_nonneg x (by omega : n ≠ 0)
  have m2 := Int.emod_lt_of_pos x hn.1
  rw [e, Int.tmod_eq_emod_of_nonneg h.1, IntKind.wrap_i64]
  omega
theorem below_of_only {R B : Nat} {a w : World} (h : Only (fun k => k = R) a w) (hB : B ≤ R) (hs : B ≤ a.heap.size) : Below B a w := ⟨h.os, h.tape, h.output, h.size, fun k hk => h.block k (by omega) (by omega)⟩
set_option maxRecDepth 100000 in
set_option maxHeartbeats 8000000 in
theorem object15 (w : World) (x0 x1 x2 x3 : Int) (h0 : 0 ≤ x0 ∧ x0 ≤ 255) (h1 : 0 ≤ x1 ∧ x1 ≤ 255) (h2 : 0 ≤ x2 ∧ x2 ≤ 255) (h3 : 0 ≤ x3 ∧ x3 ≤ 255) :
    Calls Tryz.prog 24 #[.agg #[.int .u8 x0, .int .u8 x1, .int .u8 x2, .int .u8 x3]] w fun e w' => e = .returned (.tuple #[.agg #[.int .i64 (1 + x0 % 3), .int .i64 0, .int .i64 0, .int .i64 0], .int .i64 (1 + x1 % 4), .int .i64 (1 + x2 % 3), .int .i64 (1 + x3 % 4)]) ∧ Below w.heap.size w w' := by
  go_enter Tryz.func24, Tryz.ntmps24
  go_wp2_with fail
  obtain ⟨WR, hWR⟩ : ∃ WR, ((w.alloc (.cells #[.int .u8 x0, .int .u8 x1, .int .u8 x2, .int .u8 x3] 66)).alloc (.cells #[.int .i64 0, .int .i64 0, .int .i64 0, .int .i64 0] 27)) = WR := ⟨_, rfl⟩
  have hX : WR.heap[w.heap.size]? = some (.cells #[.int .u8 x0, .int .u8 x1, .int .u8 x2, .int .u8 x3] 66 (0, 0)) := by rw [← hWR]; exact (Below.heap_alloc _ _ _ (by simp)).trans (heap_alloc_new _ _)
  have hY : WR.heap[w.heap.size + 1]? = some (.cells #[.int .i64 0, .int .i64 0, .int .i64 0, .int .i64 0] 27 (0, 0)) := by rw [← hWR, ← World.size_alloc w (.cells #[.int .u8 x0, .int .u8 x1, .int .u8 x2, .int .u8 x3] 66)]; exact heap_alloc_new _ _
  have hBW : Below w.heap.size w WR := by rw [← hWR]; exact ((Below.refl _ w).alloc (Nat.le_refl _) _).alloc (by simp) _
  rw [hWR]
  clear hWR
  have HY := Lib.hid hY
  obtain ⟨a0, a1, a2, a3⟩ := cellsQ4 hX
  obtain ⟨b0, b1, b2, b3⟩ := cellsQ4 hY
  have f0 := frozen_of_row WR _ 0 _ _ hY
  have f1 := frozen_of_row WR _ 1 _ _ hY
  have f2 := frozen_of_row WR _ 2 _ _ hY
  have f3 := frozen_of_row WR _ 3 _ _ hY
  have A0 : WR.drew.cell? ⟨w.heap.size, 0, none⟩ = some (.int .u8 x0) := a0
  have A1 : WR.drew.cell? ⟨w.heap.size, 1, none⟩ = some (.int .u8 x1) := a1
  have A2 : WR.drew.cell? ⟨w.heap.size, 2, none⟩ = some (.int .u8 x2) := a2
  have A3 : WR.drew.cell? ⟨w.heap.size, 3, none⟩ = some (.int .u8 x3) := a3
  clear hX hY
  go_region_held (fun w' => w'.cell? ⟨w.heap.size, 0, none⟩ = some (.int .u8 x0) ∧ w'.cell? ⟨w.heap.size, 1, none⟩ = some (.int .u8 x1) ∧ w'.cell? ⟨w.heap.size, 2, none⟩ = some (.int .u8 x2) ∧ w'.cell? ⟨w.heap.size, 3, none⟩ = some (.int .u8 x3)) (first | exact ⟨A0, A1, A2, A3⟩ | (refine ⟨set4_cell ?_ ?_, set4_cell ?_ ?_, set4_cell ?_ ?_, set4_cell ?_ ?_⟩ <;> first | assumption | (dsimp only; omega)) | go_keep) (fail)
  all_goals go_wp2_with fail
  all_goals
    obtain ⟨hs1, hs2⟩ := set4 HY.out (.int .i64 (IntKind.i64.wrap (1 + (IntKind.i64.wrap x0).tmod 3))) (.int .i64 0) (.int .i64 0) (.int .i64 0)
    refine bodyPost_ret (results_obj4 rfl _ _ (w.heap.size + 1) _ _ _ _ hs1 rfl) rfl ?_
    have e0 := case_wrap x0 3 h0 (by decide)
    have e1 := case_wrap x1 4 h1 (by decide)
    have e2 := case_wrap x2 3 h2 (by decide)
    have e3 := case_wrap x3 4 h3 (by decide)
    refine ⟨?_, hBW.trans (bl_drew (below_of_only hs2 (by omega) hBW.size))⟩
    rw [← e0, ← e1, ← e2, ← e3]
    rfl
theorem ins_cells {w : World} {A : Option Addr} {n cap i : Nat} {l : List Ins} {x : Ins} (h : Rd w 5 (.slice A n cap) n (flat l)) (hx : l[i]? = some x) (hn : 0 < n) :
    ∃ b off, A = some ⟨b, off, none⟩ ∧ b < w.heap.size ∧ w.cell? ⟨b, off + i * 5, none⟩ = some (.int .i64 x.op) ∧ w.cell? ⟨b, off + i * 5 + 1, none⟩ = some (.int .i64 x.a) ∧ w.cell? ⟨b, off + i * 5 + 2, none⟩ = some (.int .i64 x.b) ∧ w.cell? ⟨b, off + i * 5 + 3, none⟩ = some (.int .i64 x.c) ∧ w.cell? ⟨b, off + i * 5 + 4, none⟩ = some (.int .u32 x.k) := by
  obtain ⟨b, off, e, hb, hc⟩ := h.cells hn
  have g := fun j hj => flat_get l i x hx j hj
  exact ⟨b, off, e, hb, hc _ _ (g 0 (by decide)), hc _ _ (g 1 (by decide)), hc _ _ (g 2 (by decide)), hc _ _ (g 3 (by decide)), hc _ _ (g 4 (by decide))⟩
theorem awake15_any (w : World) (TI : TabI w) (TO : TabO w) : Calls Tryz.prog 23 #[] w fun e w' => e = .returned (.bool true) ∧ Below w.heap.size w w' := by
  have hA : AskP 1 0 0 0 2 1 ((0 : Nat) : Int) := by decide
  have hc := fun w TI TO => spinRel1_any w TI TO 0 0 0 1 0 0 16 hA (by omega) (by omega)
  go_enter Tryz.func23, Tryz.ntmps23
  go_wp2_with fail
  refine (hc w TI TO).mono ?_; rintro e w1 ⟨⟨v, rfl, hv⟩, hb1⟩
  have h9 : (resL (linRel 16 0)).length = 9 := rfl
  rw [h9] at hv
  have hR := Rd.of_own hv
  obtain ⟨A, cap, rfl⟩ := hR.form
  obtain ⟨b1, o1, rfl, hlt1, c0, c1, c2, c3, c4⟩ := ins_cells (i := 8) (x := ⟨1, 7, 0, 0, 0⟩) hR rfl (by decide)
  clear hR hv h9 hc
  have x0 : w1.cell? ⟨b1, o1 + 40, none⟩ = some (.int .i64 1) := c0
  have x1 : w1.cell? ⟨b1, o1 + 40 + 1, none⟩ = some (.int .i64 7) := c1
  have x2 : w1.cell? ⟨b1, o1 + 40 + 2, none⟩ = some (.int .i64 0) := c2
  have x3 : w1.cell? ⟨b1, o1 + 40 + 3, none⟩ = some (.int .i64 0) := c3
  have x4 : w1.cell? ⟨b1, o1 + 40 + 4, none⟩ = some (.int .u32 0) := c4
  clear c0 c1 c2 c3 c4
  go_wp2_with fail
  go_ret
  exact ⟨rfl, hb1⟩
theorem maker15_any (w : World) (k n a b th : Int) : Calls Tryz.prog 26 #[.agg #[.int .i64 k, .int .i64 n, .int .i64 a, .int .i64 b], .int .i64 th] w fun e w' => e = .returned (.func (.func 57) #[] #[.pointer (some ⟨w.heap.size, 0, none⟩), .pointer (some ⟨w.heap.size + 1, 0, none⟩)]) ∧ w' = (w.alloc (.cells #[.int .i64 k, .int .i64 n, .int .i64 a, .int .i64 b] 27)).alloc (.cells #[.int .i64 th] 3) := by
  go_enter Tryz.func26, Tryz.ntmps26
  go_wp2_with fail
  go_ret
  exact ⟨rfl, rfl⟩
theorem maker15_1 (W : World) (k n a b th c t : Int) (bo bt : Nat) (l : List Ins) (ho : W.heap[bo]? = some (.cells #[.int .i64 k, .int .i64 n, .int .i64 a, .int .i64 b] 27 (0, 0))) (ht : W.heap[bt]? = some (.cells #[.int .i64 th] 3 (0, 0)))
    (hc : Calls Tryz.prog 54 #[.agg #[.int .i64 k, .int .i64 n, .int .i64 a, .int .i64 b], .int .i64 c, .int .i64 th, .int .i64 t, .int .u32 16, .int .u32 0] W (CodeIs W l)) :
    Calls Tryz.prog 57 #[.int .i64 c, .int .i64 t, .pointer (some ⟨bo, 0, none⟩), .pointer (some ⟨bt, 0, none⟩)] W (CodeIs W l) := by
  obtain ⟨a0, a1, a2, a3⟩ := cellsQ4 ho
  have b0 : W.cell? ⟨bt, 0, none⟩ = some (.int .i64 th) := cell_of_row W bt 0 _ _ _ ht
  clear ho ht
  go_enter Tryz.func57, Tryz.ntmps57
  go_wp2_with (go_at_call 54; refine hc.mono ?_; rintro r w1 ⟨⟨v, rfl, hv⟩, hb⟩)
  go_ret2
  exact ⟨⟨_, rfl, hv⟩, hb⟩
/-- What is said of an object: its codes, its memory, its runs. -/
structure Lock15 (w : World) (k th : Int) (F G : Nat → List Ln) (mem : List Int) : Prop where
  lA : ∀ t : Nat, (t : Int) < th → ∀ W, Below w.heap.size w W → Calls Tryz.prog 54 #[.agg #[.int .i64 k, .int .i64 0, .int .i64 0, .int .i64 0], .int .i64 1, .int .i64 th, .int .i64 t, .int .u32 16, .int .u32 0] W (CodeIs W (resL (F t)))
  lB : ∀ t : Nat, (t : Int) < th → ∀ W, Below w.heap.size w W → Calls Tryz.prog 54 #[.agg #[.int .i64 k, .int .i64 0, .int .i64 0, .int .i64 0], .int .i64 2, .int .i64 th, .int .i64 t, .int .u32 16, .int .u32 0] W (CodeIs W (resL (G t)))
  lF : ∀ W, Below w.heap.size w W → Calls Tryz.prog 30 #[.agg #[.int .i64 k, .int .i64 0, .int .i64 0, .int .i64 0], .int .i64 th] W (FirstOk W mem)
  hm : mem = [0] ∨ mem = [0, 0, 0]
  sF : ∀ t : Fin 4, shortL (resL (F t)) = true
  sG : ∀ t : Fin 4, shortL (resL (G t)) = true
  fi : ∀ r : Fin 4, ∀ t : Fin 4, fineL (roundsR (resL (F t)) (resL (G t)) (r + 1) []) = true
  go : ∀ (T R room : Nat), T ≤ 4 → 0 < R → R ≤ 3 → RunsOk (codesR (lim F) (lim G) T R) mem room T R
theorem lock15 (w : World) (TI : TabI w) (TO : TabO w) (k th : Int) (hk : k = 1 ∨ k = 2 ∨ k = 3) (h1 : 1 ≤ th ∧ th ≤ 4) : ∃ F G mem, Lock15 w k th F G mem := by
  have ti := fun W (hb : Below w.heap.size w W) => TI.below hb (Nat.le_refl _)
  have tO := fun W (hb : Below w.heap.size w W) => TO.below hb (Nat.le_refl _)
  rcases hk with rfl | rfl | rfl
  · have hR : RightP 1 0 0 0 th := by unfold RightP; omega
    exact ⟨linTas 16, linRel 16, [0], fun t ht W hb => spinTas_any W (ti W hb) (tO W hb) 0 0 0 th 0 t 16 ⟨hR, by omega, ht, by decide⟩ (by omega) (by omega), fun t ht W hb => spinRel1_any W (ti W hb) (tO W hb) 0 0 0 th 0 t 16 ⟨hR, by omega, ht, by decide⟩ (by omega) (by omega), fun W hb => first_1 W (tO W hb) 0 0 0 th hR, .inl rfl, short_tas, short_rel, fine_tas, fun T R room hT hR0 hR => tas_runs room hT hR0 hR⟩
  · have hR : RightP 2 0 0 0 th := by unfold RightP; omega
    exact ⟨linTtas 16, linRel 16, [0], fun t ht W hb => spinTtas_any W (ti W hb) (tO W hb) 0 0 0 th 0 t 16 ⟨hR, by omega, ht, by decide⟩ (by omega) (by omega), fun t ht W hb => spinRel2_any W (ti W hb) (tO W hb) 0 0 0 th 0 t 16 ⟨hR, by omega, ht, by decide⟩ (by omega) (by omega), fun W hb => first_2 W (tO W hb) 0 0 0 th hR, .inl rfl, short_ttas, short_rel, fine_ttas, fun T R room hT hR0 hR => ttas_runs room hT hR0 hR⟩
  · have hR : RightP 3 0 0 0 th := by unfold RightP; omega
    exact ⟨linTick 16, linPass 16, [0, 0, 0], fun t ht W hb => spinTick_any W (ti W hb) (tO W hb) 0 0 0 th 0 t 16 ⟨hR, by omega, ht, by decide⟩ (by omega) (by omega), fun t ht W hb => spinPass_any W (ti W hb) (tO W hb) 0 0 0 th 0 t 16 ⟨hR, by omega, ht, by decide⟩ (by omega) (by omega), fun W hb => first_3 W (tO W hb) 0 0 0 th hR, .inr rfl, short_tick, short_pass, fine_tick, fun T R room hT hR0 hR => tick_runs room hT hR0 hR⟩
set_option maxHeartbeats 1000000 in
theorem one15 (W : World) (TI : TabI W) (TO : TabO W) (k th rr mm : Int) (hk : k = 1 ∨ k = 2 ∨ k = 3) (h1 : 1 ≤ th ∧ th ≤ 4) (h2 : 1 ≤ rr ∧ rr ≤ 3) (h3 : 1 ≤ mm ∧ mm ≤ 4) (bo bt : Nat) (ho : W.heap[bo]? = some (.cells #[.int .i64 k, .int .i64 0, .int .i64 0, .int .i64 0] 27 (0, 0))) (hbt : W.heap[bt]? = some (.cells #[.int .i64 th] 3 (0, 0))) (sv : Value) (bs : List Nat) (hs : Rd W 1 sv bs.length (u8s bs)) (hb : ∀ b ∈ bs, b ≤ 255) (hn : bs.length ≤ 100000) :
    Calls Tryz.prog 25 #[.agg #[.int .i64 k, .int .i64 0, .int .i64 0, .int .i64 0], .int .i64 th, .int .i64 rr, .int .i64 mm, .func (.func 57) #[] #[.pointer (some ⟨bo, 0, none⟩), .pointer (some ⟨bt, 0, none⟩)], sv] W fun e w' => e = .returned (.bool true) ∧ Below W.heap.size W w' := by
  obtain ⟨T, rfl⟩ := Int.eq_ofNat_of_zero_le (show 0 ≤ th by omega)
  obtain ⟨R, rfl⟩ := Int.eq_ofNat_of_zero_le (show 0 ≤ rr by omega)
  obtain ⟨M, rfl⟩ := Int.eq_ofNat_of_zero_le (show 0 ≤ mm by omega)
  obtain ⟨F, G, mem, h⟩ := lock15 W TI TO k T hk h1
  obtain ⟨s', hr, ho1, hf, hd⟩ := h.go T R M (by omega) (by omega) (by omega) (bs.map pickB)
  have hob := (Array.getElem?_eq_some_iff.1 ho).1
  have hbb := (Array.getElem?_eq_some_iff.1 hbt).1
  refine holds_any W TI k 0 0 0 T R M 57 #[.pointer (some ⟨bo, 0, none⟩), .pointer (some ⟨bt, 0, none⟩)] (lim F) (lim G) mem sv bs ?_ ?_ h.lF (fun args w => enters_of Tryz.func57 (by kernel_rfl) rfl args w) ?_ ?_ ?_ (by omega) (by omega) (by omega) (by omega) (by omega) (by omega) (short_of h.sF) (short_of h.sG) (codes_of h.fi (by omega) (by omega) (by omega)) hs hb hn s' hr ho1 hf hd
  · intro t ht W' hW
    rw [lim_eq F (by omega)]
    exact maker15_1 W' k 0 0 0 T 1 t bo bt _ ((hW.block bo hob).trans ho) ((hW.block bt hbb).trans hbt) (h.lA t (by omega) W' hW)
  · intro t ht W' hW
    rw [lim_eq G (by omega)]
    exact maker15_1 W' k 0 0 0 T 2 t bo bt _ ((hW.block bo hob).trans ho) ((hW.block bt hbb).trans hbt) (h.lB t (by omega) W' hW)
  · rcases h.hm with e | e <;> rw [e] <;> decide
  · rcases h.hm with e | e <;> rw [e] <;> decide
  · rcases h.hm with e | e <;> rw [e] <;> decide
set_option maxHeartbeats 4000000 in
theorem spinOne_any (w : World) (TI : TabI w) (TO : TabO w) (x0 x1 x2 x3 : Int) (h0 : 0 ≤ x0 ∧ x0 ≤ 255) (h1 : 0 ≤ x1 ∧ x1 ≤ 255) (h2 : 0 ≤ x2 ∧ x2 ≤ 255) (h3 : 0 ≤ x3 ∧ x3 ≤ 255) (A : Option Addr) (cap : Nat) (bs : List Nat) (hl : bs.length ≤ maxLen) (hs : Rd w 1 (.slice A bs.length cap) bs.length (u8s bs)) (hb : ∀ b ∈ bs, b ≤ 255) :
    Calls Tryz.prog 5 #[.agg #[.int .u8 x0, .int .u8 x1, .int .u8 x2, .int .u8 x3], .slice A bs.length cap] w fun e w' => e = .returned (.bool true) ∧ Below w.heap.size w w' := by
  obtain ⟨k, hk⟩ : ∃ k, 1 + x0 % 3 = k := ⟨_, rfl⟩
  obtain ⟨th, hth⟩ : ∃ th, 1 + x1 % 4 = th := ⟨_, rfl⟩
  obtain ⟨rr, hrr⟩ : ∃ rr, 1 + x2 % 3 = rr := ⟨_, rfl⟩
  obtain ⟨mm, hmm⟩ : ∃ mm, 1 + x3 % 4 = mm := ⟨_, rfl⟩
  have hk3 : k = 1 ∨ k = 2 ∨ k = 3 := by omega
  have hth4 : 1 ≤ th ∧ th ≤ 4 := by omega
  have hrr3 : 1 ≤ rr ∧ rr ≤ 3 := by omega
  have hmm4 : 1 ≤ mm ∧ mm ≤ 4 := by omega
  have haw := fun W (hW : Below w.heap.size w W) => awake15_any W (TI.below hW (Nat.le_refl _)) (TO.below hW (Nat.le_refl _))
  have hob := fun W => object15 W x0 x1 x2 x3 h0 h1 h2 h3
  rw [hk, hth, hrr, hmm] at hob
  have HAL : Hid (∀ W, Below w.heap.size w W → bs.length ≤ 3000 → ∀ bo bt, W.heap[bo]? = some (.cells #[.int .i64 k, .int .i64 0, .int .i64 0, .int .i64 0] 27 (0, 0)) → W.heap[bt]? = some (.cells #[.int .i64 th] 3 (0, 0)) → Calls Tryz.prog 25 #[.agg #[.int .i64 k, .int .i64 0, .int .i64 0, .int .i64 0], .int .i64 th, .int .i64 rr, .int .i64 mm, .func (.func 57) #[] #[.pointer (some ⟨bo, 0, none⟩), .pointer (some ⟨bt, 0, none⟩)], .slice A bs.length cap] W fun e w' => e = .returned (.bool true) ∧ Below W.heap.size W w') :=
    Lib.hid fun W hW hn bo bt ho hbt => one15 W (TI.below hW (Nat.le_refl _)) (TO.below hW (Nat.le_refl _)) k th rr mm hk3 hth4 hrr3 hmm4 bo bt ho hbt _ bs (hs.below hW (Nat.le_refl _)) hb (by omega)
  obtain ⟨n, hn⟩ : ∃ n : Nat, bs.length = n := ⟨_, rfl⟩
  rw [hn] at HAL hl ⊢
  clear hs hb hk hth hrr hmm
  have HL := Lib.hid hl
  have HAW := Lib.hid haw
  have HOB := Lib.hid hob
  clear hl haw hob TI TO hn h0 h1 h2 h3
  go_enter Tryz.func5, Tryz.ntmps5
  have hB0 : Below w.heap.size w (w.alloc (.cells #[.int .u8 x0, .int .u8 x1, .int .u8 x2, .int .u8 x3] 66)) := (Below.refl _ w).alloc (Nat.le_refl _) _
  go_wp2_with (first
    | (go_at_call 23; refine (HAW.out _ hB0).mono ?_; rintro r w1 ⟨rfl, hb1⟩; have c0 : w1.cell? ⟨w.heap.size, 0, none⟩ = some (.int .u8 x0) := cell_of_row w1 _ 0 _ _ _ ((hb1.block w.heap.size (by simp)).trans (heap_alloc_new _ _)); have c1 : w1.cell? ⟨w.heap.size, 1, none⟩ = some (.int .u8 x1) := cell_of_row w1 _ 1 _ _ _ ((hb1.block w.heap.size (by simp)).trans (heap_alloc_new _ _)); have c2 : w1.cell? ⟨w.heap.size, 2, none⟩ = some (.int .u8 x2) := cell_of_row w1 _ 2 _ _ _ ((hb1.block w.heap.size (by simp)).trans (heap_alloc_new _ _)); have c3 : w1.cell? ⟨w.heap.size, 3, none⟩ = some (.int .u8 x3) := cell_of_row w1 _ 3 _ _ _ ((hb1.block w.heap.size (by simp)).trans (heap_alloc_new _ _)); have hB1 : Hid (Below w.heap.size w w1) := Lib.hid (hB0.trans (hb1.mono (by simp))); clear hb1)
    | (go_at_call 23; refine (HAW.out _ hB1.out).mono ?_; rintro r w2 ⟨rfl, hb2⟩)
    | (go_at_call 24; refine (HOB.out _).mono ?_; rintro r w2 ⟨rfl, hb2⟩))
  · go_ret
    exact ⟨rfl, hB1.out.trans (hb2.mono hB1.out.size)⟩
  have hB2 : Below w.heap.size w w2 := hB1.out.trans (hb2.mono hB1.out.size)
  obtain ⟨WR, hWR⟩ : ∃ WR, (w2.alloc (.cells #[.int .i64 k, .int .i64 0, .int .i64 0, .int .i64 0] 27)) = WR := ⟨_, rfl⟩
  have hO : WR.heap[w2.heap.size]? = some (.cells #[.int .i64 k, .int .i64 0, .int .i64 0, .int .i64 0] 27 (0, 0)) := by rw [← hWR]; exact heap_alloc_new _ _
  have hBR : Below w.heap.size w WR := by rw [← hWR]; exact hB2.alloc hB2.size _
  rw [hWR]
  clear hWR c0 c1 c2 c3 hb2 hB0 hB1 HAW HOB
  obtain ⟨o0, o1, o2, o3⟩ := cellsQ4 (show WR.drew.heap[w2.heap.size]? = _ from hO)
  have hm := maker15_any WR.drew k 0 0 0 th
  have hq := HAL.out ((WR.drew.alloc (.cells #[.int .i64 k, .int .i64 0, .int .i64 0, .int .i64 0] 27)).alloc (.cells #[.int .i64 th] 3)) (((bl_drew hBR).alloc (by have := hBR.size; simpa using this) _).alloc (by have := hBR.size; simp; omega) _) (by omega) WR.heap.size (WR.heap.size + 1) (at_alloc (at_new rfl)) (at_new (by simp))
  have k0 : ∀ j v, WR.drew.cell? ⟨w2.heap.size, j, none⟩ = some v → ((WR.drew.alloc (.cells #[.int .i64 k, .int .i64 0, .int .i64 0, .int .i64 0] 27)).alloc (.cells #[.int .i64 th] 3)).cell? ⟨w2.heap.size, j, none⟩ = some v := fun j v h => alloc_cell1 (alloc_cell1 h)
  have p0 := k0 _ _ o0; have p1 := k0 _ _ o1; have p2 := k0 _ _ o2; have p3 := k0 _ _ o3
  clear HAL
  go_region_held (fun w' => w'.cell? ⟨w2.heap.size, 0, none⟩ = some (.int .i64 k) ∧ w'.cell? ⟨w2.heap.size, 1, none⟩ = some (.int .i64 0) ∧ w'.cell? ⟨w2.heap.size, 2, none⟩ = some (.int .i64 0) ∧ w'.cell? ⟨w2.heap.size, 3, none⟩ = some (.int .i64 0)) (first | exact ⟨o0, o1, o2, o3⟩ | exact ⟨p0, p1, p2, p3⟩ | exact ⟨(hb4.cell (block_lt_of_cell p0)).trans p0, (hb4.cell (block_lt_of_cell p1)).trans p1, (hb4.cell (block_lt_of_cell p2)).trans p2, (hb4.cell (block_lt_of_cell p3)).trans p3⟩) (first
    | (go_at_call 26; refine hm.mono ?_; rintro r w3 ⟨rfl, rfl⟩)
    | (go_at_call 25; refine hq.mono ?_; rintro r w4 ⟨rfl, hb4⟩))
  all_goals go_wp2_with fail
  all_goals go_ret
  all_goals exact ⟨rfl, (((bl_drew hBR).alloc (by have := hBR.size; simpa using this) _).alloc (by have := hBR.size; simp; omega) _).trans (hb4.mono (by have := hBR.size; simp; omega))⟩
end Go.Proofs.YtipepbfpfmadaaaGreatDoor.As.T
