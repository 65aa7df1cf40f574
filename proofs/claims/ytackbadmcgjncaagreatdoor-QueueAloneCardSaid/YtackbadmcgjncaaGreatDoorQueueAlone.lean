/- The law QueueAlone. From a row's condition to the tables in memory; what a call of an object is, opened. A thread alone, tried by the machine as it is set: its acquire and its release of any object of the package queue come to their ends in the answers that the document gives, for every case and every thread, the tables of the packages obj and isa being as the program's text lays them. -/
import Derived.Test.YtackbadmcgjncaaGreatDoorAlZ
import Derived.Test.YtackbadmcgjncaaGreatDoorAlFq
import Derived.Test.YtackbadmcgjncaaGreatDoorQueC
import Derived.Deep.RegionHeld
import Derived.Test.YtackbadmcgjncaaGreatDoorBld
import Derived.WalkKit
import Derived.ProofKit
import Derived.OpenShut
import Derived.Deep.DeepHandedRow
import Derived.Lib.LaidTab
import Derived.Test.YtackbadmcgjncaaGreatDoorCards
import Derived.Test.YtackbadmcgjncaaGreatDoorTie
import Derived.Below
import Derived.Carry
set_option linter.unusedVariables false
set_option linter.unusedSimpArgs false
set_option maxRecDepth 20000
namespace Go.Proofs.YtackbadmcgjncaaGreatDoor.As
open Go.RowKit

theorem set4_cell {w : World} {R : Nat} {a : Addr} {v v0 v1 v2 v3 : Value} (h : w.cell? a = some v) (hne : a.block ≠ R) :
    ((((w.setCell ⟨R, 0, none⟩ v0).setCell ⟨R, 1, none⟩ v1).setCell ⟨R, 2, none⟩ v2).setCell ⟨R, 3, none⟩ v3).cell? a = some v := by
  have e : ∀ (W : World) (j : Nat) (v : Value), (W.setCell ⟨R, j, none⟩ v).heap[a.block]? = W.heap[a.block]? := fun W j v => heap_setCell_other W ⟨R, j, none⟩ a.block v hne
  refine (World.cell?_of_block (w := w) (a := a) ?_).trans h
  rw [e, e, e, e]
theorem set4 {w : World} {R : Nat} {o0 o1 o2 o3 : Value} {t : TypeId} (h : w.heap[R]? = some (.cells #[o0, o1, o2, o3] t (0, 0))) (v0 v1 v2 v3 : Value) :
    ((((w.setCell ⟨R, 0, none⟩ v0).setCell ⟨R, 1, none⟩ v1).setCell ⟨R, 2, none⟩ v2).setCell ⟨R, 3, none⟩ v3).heap[R]? = some (.cells #[v0, v1, v2, v3] t (0, 0)) ∧ Only (fun k => k = R) w ((((w.setCell ⟨R, 0, none⟩ v0).setCell ⟨R, 1, none⟩ v1).setCell ⟨R, 2, none⟩ v2).setCell ⟨R, 3, none⟩ v3) :=
  ⟨(heap_setCell_same _ R 3 _ t _ (heap_setCell_same _ R 2 _ t _ (heap_setCell_same _ R 1 _ t _ (heap_setCell_same _ R 0 _ t _ h)))).trans (by simp), Only.set1 (F := fun k => k = R) (p := ⟨R, 3, none⟩) (Only.set1 (F := fun k => k = R) (p := ⟨R, 2, none⟩) (Only.set1 (F := fun k => k = R) (p := ⟨R, 1, none⟩) (Only.set1 (F := fun k => k = R) (p := ⟨R, 0, none⟩) (Only.refl _ w) rfl _) rfl _) rfl _) rfl _⟩
theorem results_obj4 {fn : Func} {p u1 u2 u3 : Tmp} (h : fn.results = #[.cell p 26, .tmp u1, .tmp u2, .tmp u3]) (tmps : Array Value) (w : World) (R : Nat) (a b c d : Value) (hb : w.heap[R]? = some (.cells #[a, b, c, d] 26 (0, 0))) (hp : tmps.getD p undef = .pointer (some ⟨R, 0, none⟩)) :
    (results fn tmps).run Tryz.prog w = .ok (.tuple #[.agg #[a, b, c, d], tmps.getD u1 undef, tmps.getD u2 undef, tmps.getD u3 undef]) w := by
  have hl := run_loadVar_row (P := Tryz.prog) w R 26 26 _ _ _ hb Tryz.underlying26 rfl (by kernel_rfl)
  simp only [Array.getD_eq_getD_getElem?] at hp
  simp [results, h, hp, asAddr, hl]
theorem cellsQ4 {w : World} {g : Nat} {a b c d : Value} {t : TypeId} (hx : w.heap[g]? = some (.cells #[a, b, c, d] t (0, 0))) :
    w.cell? ⟨g, 0, none⟩ = some a ∧ w.cell? ⟨g, 1, none⟩ = some b ∧ w.cell? ⟨g, 2, none⟩ = some c ∧ w.cell? ⟨g, 3, none⟩ = some d :=
  ⟨cell_of_row w g 0 _ _ _ hx, cell_of_row w g 1 _ _ _ hx, cell_of_row w g 2 _ _ _ hx, cell_of_row w g 3 _ _ _ hx⟩
theorem case_wrap (x : Int) (n : Int) (h : 0 ≤ x ∧ x ≤ 255) (hn : 0 < n ∧ n ≤ 10) : IntKind.i64.wrap (1 + (IntKind.i64.wrap x).tmod n) = 1 + x % n := by
  have e : IntKind.i64.wrap x = x := by rw [IntKind.wrap_i64]; omega
  have m1 := Int.emod_nonneg x (by omega : n ≠ 0)
  have m2 := Int.emod_lt_of_pos x hn.1
  rw [e, Int.tmod_eq_emod_of_nonneg h.1, IntKind.wrap_i64]
  omega
theorem below_of_only {R B : Nat} {a w : World} (h : Only (fun k => k = R) a w) (hB : B ≤ R) (hs : B ≤ a.heap.size) : Below B a w := ⟨h.os, h.tape, h.output, h.size, fun k hk => h.block k (by omega) (by omega)⟩
set_option maxRecDepth 100000 in
set_option maxHeartbeats 8000000 in
theorem object16 (w : World) (x0 x1 x2 x3 : Int) (h0 : 0 ≤ x0 ∧ x0 ≤ 255) (h1 : 0 ≤ x1 ∧ x1 ≤ 255) (h2 : 0 ≤ x2 ∧ x2 ≤ 255) (h3 : 0 ≤ x3 ∧ x3 ≤ 255) :
    Calls Tryz.prog 6 #[.agg #[.int .u8 x0, .int .u8 x1, .int .u8 x2, .int .u8 x3]] w fun e w' => (∃ r m, e = .returned (.tuple #[.agg #[.int .i64 (4 + x0 % 2), .int .i64 0, .int .i64 0, .int .i64 0], .int .i64 (1 + x1 % 4), .int .i64 r, .int .i64 m])) ∧ Below w.heap.size w w' := by
  go_enter Tryz.func6, Tryz.ntmps6
  go_wp2_with fail
  obtain ⟨WR, hWR⟩ : ∃ WR, ((w.alloc (.cells #[.int .u8 x0, .int .u8 x1, .int .u8 x2, .int .u8 x3] 23)).alloc (.cells #[.int .i64 0, .int .i64 0, .int .i64 0, .int .i64 0] 26)) = WR := ⟨_, rfl⟩
  have hX : WR.heap[w.heap.size]? = some (.cells #[.int .u8 x0, .int .u8 x1, .int .u8 x2, .int .u8 x3] 23 (0, 0)) := by rw [← hWR]; exact (Below.heap_alloc _ _ _ (by simp)).trans (heap_alloc_new _ _)
  have hY : WR.heap[w.heap.size + 1]? = some (.cells #[.int .i64 0, .int .i64 0, .int .i64 0, .int .i64 0] 26 (0, 0)) := by rw [← hWR, ← World.size_alloc w (.cells #[.int .u8 x0, .int .u8 x1, .int .u8 x2, .int .u8 x3] 23)]; exact heap_alloc_new _ _
  have hBW : Below w.heap.size w WR := by rw [← hWR]; exact ((Below.refl _ w).alloc (Nat.le_refl _) _).alloc (by simp) _
  rw [hWR]
  clear hWR
  have HY := Lib.hid hY
  obtain ⟨a0, a1, a2, a3⟩ := cellsQ4 hX
  obtain ⟨b0, b1, b2, b3⟩ := cellsQ4 hY
  have f0 := frozen_of_row WR _ 0 _ _ hY
  have f1 := frozen_of_row WR _ 1 _ _ hY
  have f2 := frozen_of_row WR _ 2 _ _ hY
  have f3 := frozen_of_row WR _ 3 _ _ hY
  have A0 : WR.drew.cell? ⟨w.heap.size, 0, none⟩ = some (.int .u8 x0) := a0
  have A1 : WR.drew.cell? ⟨w.heap.size, 1, none⟩ = some (.int .u8 x1) := a1
  have A2 : WR.drew.cell? ⟨w.heap.size, 2, none⟩ = some (.int .u8 x2) := a2
  have A3 : WR.drew.cell? ⟨w.heap.size, 3, none⟩ = some (.int .u8 x3) := a3
  clear hX hY
  go_region_held (fun w' => w'.cell? ⟨w.heap.size, 0, none⟩ = some (.int .u8 x0) ∧ w'.cell? ⟨w.heap.size, 1, none⟩ = some (.int .u8 x1) ∧ w'.cell? ⟨w.heap.size, 2, none⟩ = some (.int .u8 x2) ∧ w'.cell? ⟨w.heap.size, 3, none⟩ = some (.int .u8 x3)) (first | exact ⟨A0, A1, A2, A3⟩ | (refine ⟨set4_cell ?_ ?_, set4_cell ?_ ?_, set4_cell ?_ ?_, set4_cell ?_ ?_⟩ <;> first | assumption | (dsimp only; omega)) | go_keep) (fail)
  all_goals go_wp2_with fail
  all_goals
    have e0 : IntKind.i64.wrap (4 + (IntKind.i64.wrap x0).tmod 2) = 4 + x0 % 2 := by
      have e : IntKind.i64.wrap x0 = x0 := by rw [IntKind.wrap_i64]; omega
      rw [e, Int.tmod_eq_emod_of_nonneg h0.1, IntKind.wrap_i64]
      omega
    have e1 := case_wrap x1 4 h1 (by decide)
    obtain ⟨hs1, hs2⟩ := set4 HY.out (.int .i64 (IntKind.i64.wrap (4 + (IntKind.i64.wrap x0).tmod 2))) (.int .i64 0) (.int .i64 0) (.int .i64 0)
    refine bodyPost_ret (results_obj4 rfl _ _ (w.heap.size + 1) _ _ _ _ hs1 rfl) rfl ?_
    refine ⟨⟨IntKind.i64.wrap (1 + (IntKind.i64.wrap x2).tmod 3), IntKind.i64.wrap (1 + (IntKind.i64.wrap x3).tmod 4), ?_⟩, hBW.trans (bl_drew (below_of_only hs2 (by omega) hBW.size))⟩
    rw [← e0, ← e1]
    rfl
theorem truth_any (w : World) : Calls Tryz.prog 20 #[.bool true] w fun e w' => e = .returned (.int .i64 1) ∧ w' = w := by
  go_enter Tryz.func20, Tryz.ntmps20
  go_wp2_with fail
  go_ret
  exact ⟨rfl, rfl⟩

theorem ins_cells {w : World} {A : Option Addr} {n cap i : Nat} {l : List Ins} {x : Ins} (h : Rd w 5 (.slice A n cap) n (flat l)) (hx : l[i]? = some x) (hn : 0 < n) :
    ∃ b off, A = some ⟨b, off, none⟩ ∧ b < w.heap.size ∧ w.cell? ⟨b, off + i * 5, none⟩ = some (.int .i64 x.op) ∧ w.cell? ⟨b, off + i * 5 + 1, none⟩ = some (.int .i64 x.a) ∧ w.cell? ⟨b, off + i * 5 + 2, none⟩ = some (.int .i64 x.b) ∧ w.cell? ⟨b, off + i * 5 + 3, none⟩ = some (.int .i64 x.c) ∧ w.cell? ⟨b, off + i * 5 + 4, none⟩ = some (.int .u32 x.k) := by
  obtain ⟨b, off, e, hb, hc⟩ := h.cells hn
  have g := fun j hj => flat_get l i x hx j hj
  exact ⟨b, off, e, hb, hc _ _ (g 0 (by decide)), hc _ _ (g 1 (by decide)), hc _ _ (g 2 (by decide)), hc _ _ (g 3 (by decide)), hc _ _ (g 4 (by decide))⟩
theorem awake16_any (w : World) (TI : TabI w) (TO : TabO w) : Calls Tryz.prog 5 #[] w fun e w' => e = .returned (.bool true) ∧ Below w.heap.size w w' := by
  have hc := fun w TI TO => codeMcsIn_any w TI TO 0 0 0 0 1 2 16 (by decide) (by omega) (by omega) (by omega)
  go_enter Tryz.func5, Tryz.ntmps5
  go_wp2_with fail
  refine (hc w TI TO).mono ?_; rintro e w1 ⟨⟨v, rfl, hv⟩, hb1⟩
  have h9 : (resL (linMcsIn 16 2 1)).length = 18 := rfl
  rw [h9] at hv
  have hR := Rd.of_own hv
  obtain ⟨A, cap, rfl⟩ := hR.form
  obtain ⟨b1, o1, rfl, hlt1, c0, c1, c2, c3, c4⟩ := ins_cells (i := 17) (x := ⟨1, 7, 0, 0, 0⟩) hR rfl (by decide)
  have x0 : w1.cell? ⟨b1, o1 + 85, none⟩ = some (.int .i64 1) := c0
  have x1 : w1.cell? ⟨b1, o1 + 85 + 1, none⟩ = some (.int .i64 7) := c1
  have x2 : w1.cell? ⟨b1, o1 + 85 + 2, none⟩ = some (.int .i64 0) := c2
  have x3 : w1.cell? ⟨b1, o1 + 85 + 3, none⟩ = some (.int .i64 0) := c3
  have x4 : w1.cell? ⟨b1, o1 + 85 + 4, none⟩ = some (.int .u32 0) := c4
  clear c0 c1 c2 c3 c4
  clear hR hv h9 hc
  go_wp2_with fail
  go_ret
  exact ⟨rfl, hb1⟩

theorem maker16_any (w : World) (k n a b th : Int) : Calls Tryz.prog 8 #[.agg #[.int .i64 k, .int .i64 n, .int .i64 a, .int .i64 b], .int .i64 th] w fun e w' => e = .returned (.func (.func 22) #[] #[.pointer (some ⟨w.heap.size, 0, none⟩), .pointer (some ⟨w.heap.size + 1, 0, none⟩)]) ∧ w' = (w.alloc (.cells #[.int .i64 k, .int .i64 n, .int .i64 a, .int .i64 b] 26)).alloc (.cells #[.int .i64 th] 3) := by
  go_enter Tryz.func8, Tryz.ntmps8
  go_wp2_with fail
  go_ret
  exact ⟨rfl, rfl⟩
theorem maker16_1 (W : World) (k n a b th c t : Int) (bo bt : Nat) (l : List Ins) (ho : W.heap[bo]? = some (.cells #[.int .i64 k, .int .i64 n, .int .i64 a, .int .i64 b] 26 (0, 0))) (ht : W.heap[bt]? = some (.cells #[.int .i64 th] 3 (0, 0)))
    (hc : Calls Tryz.prog 19 #[.agg #[.int .i64 k, .int .i64 n, .int .i64 a, .int .i64 b], .int .i64 c, .int .i64 th, .int .i64 t, .int .u32 16, .int .u32 0] W (CodeIs W l)) :
    Calls Tryz.prog 22 #[.int .i64 c, .int .i64 t, .pointer (some ⟨bo, 0, none⟩), .pointer (some ⟨bt, 0, none⟩)] W (CodeIs W l) := by
  obtain ⟨a0, a1, a2, a3⟩ := cellsQ4 ho
  have b0 : W.cell? ⟨bt, 0, none⟩ = some (.int .i64 th) := cell_of_row W bt 0 _ _ _ ht
  clear ho ht
  go_enter Tryz.func22, Tryz.ntmps22
  go_wp2_with (go_at_call 19; refine hc.mono ?_; rintro r w1 ⟨⟨v, rfl, hv⟩, hb⟩)
  go_ret2
  exact ⟨⟨_, rfl, hv⟩, hb⟩
theorem goodCase_parts {a b : List Ins} {mem : List Int} {t own : Nat} (h : goodCase a b mem t own = true) : aloneGood a b mem t own = true ∧ a.length ≤ 100 ∧ b.length ≤ 100 ∧ 0 < a.length ∧ 0 < b.length ∧ (∀ x ∈ a, 0 ≤ x.k ∧ x.k ≤ 4294967295) ∧ (∀ x ∈ b, 0 ≤ x.k ∧ x.k ≤ 4294967295) := by
  simp only [goodCase, fineC, Bool.and_eq_true, decide_eq_true_eq] at h
  obtain ⟨⟨h0, ⟨a1, a2⟩, a3⟩, ⟨b1, b2⟩, b3⟩ := h
  exact ⟨h0, a2, b2, a1, b1, fun x hx => wd_iff.1 (List.all_eq_true.1 a3 x hx), fun x hx => wd_iff.1 (List.all_eq_true.1 b3 x hx)⟩
theorem aloneW_any (W : World) (k n a b th t : Int) (f : Value) (h : ∀ V, Below W.heap.size W V → Calls Tryz.prog 21 #[.agg #[.int .i64 k, .int .i64 n, .int .i64 a, .int .i64 b], .int .i64 th, .int .i64 t, f] V fun e w' => e = .returned (.bool true) ∧ Below V.heap.size V w') :
    Calls Tryz.prog 7 #[.agg #[.int .i64 k, .int .i64 n, .int .i64 a, .int .i64 b], .int .i64 th, .int .i64 t, f] W fun e w' => e = .returned (.int .i64 1) ∧ Below W.heap.size W w' := by
  have hB0 : Below W.heap.size W (W.alloc (.cells #[.int .i64 k, .int .i64 n, .int .i64 a, .int .i64 b] 26)) := (Below.refl _ W).alloc (Nat.le_refl _) _
  have h0 := h _ hB0
  go_enter Tryz.func7, Tryz.ntmps7
  go_wp2_with (go_at_call 21; refine h0.mono ?_; rintro e w1 ⟨rfl, hb1⟩)
  refine (truth_any _).mono ?_; rintro e w2 ⟨rfl, rfl⟩
  go_wp2_with fail
  go_ret
  exact ⟨rfl, hB0.trans (hb1.mono hB0.size)⟩
set_option maxHeartbeats 1000000 in
theorem alone16_4_1 (W : World) (TI : TabI W) (TO : TabO W) (t : Nat) (ht : t < 1) (bo bt : Nat) (ho : W.heap[bo]? = some (.cells #[.int .i64 4, .int .i64 0, .int .i64 0, .int .i64 0] 26 (0, 0))) (hbt : W.heap[bt]? = some (.cells #[.int .i64 1] 3 (0, 0))) :
    Calls Tryz.prog 7 #[.agg #[.int .i64 4, .int .i64 0, .int .i64 0, .int .i64 0], .int .i64 1, .int .i64 (t : Int), .func (.func 22) #[] #[.pointer (some ⟨bo, 0, none⟩), .pointer (some ⟨bt, 0, none⟩)]] W fun e w' => e = .returned (.int .i64 1) ∧ Below W.heap.size W w' := by
  obtain ⟨g1, g2, g3, g4, g5, g6, g7⟩ := goodCase_parts (good_mcs ⟨1, by omega⟩ ⟨t, by omega⟩ ht)
  have hR : RightP 4 0 0 0 1 := by unfold RightP; omega
  have hA1 : AskP 4 0 0 0 1 1 t := ⟨hR, by omega, by omega, by decide⟩
  have hA2 : AskP 4 0 0 0 2 1 t := ⟨hR, by omega, by omega, by decide⟩
  refine aloneW_any W 4 0 0 0 1 t _ (fun V hV => alone_any V (TI.below hV (Nat.le_refl _)) 4 0 0 0 1 t (by omega) 22 #[.pointer (some ⟨bo, 0, none⟩), .pointer (some ⟨bt, 0, none⟩)] (resL (linMcsIn 16 1 t)) (resL (linMcsOut 16 1 t)) (List.replicate (2 + 2 * 1) 0) 1 ?_ ?_ ?_ (fun args w => enters_of Tryz.func22 (by kernel_rfl) rfl args w) (by decide) g1 g2 g3 g4 g5 g6 g7)
  · intro W' hb0
    have hb := hV.trans (hb0.mono hV.size)
    exact maker16_1 W' 4 0 0 0 1 1 t bo bt _ ((hb.block bo (Array.getElem?_eq_some_iff.1 ho).1).trans ho) ((hb.block bt (Array.getElem?_eq_some_iff.1 hbt).1).trans hbt) (codeMcsIn_any W' (TI.below hb (Nat.le_refl _)) (TO.below hb (Nat.le_refl _)) 0 0 0 0 t 1 16 hA1 (by omega) (by omega) (by omega))
  · intro W' hb0
    have hb := hV.trans (hb0.mono hV.size)
    exact maker16_1 W' 4 0 0 0 1 2 t bo bt _ ((hb.block bo (Array.getElem?_eq_some_iff.1 ho).1).trans ho) ((hb.block bt (Array.getElem?_eq_some_iff.1 hbt).1).trans hbt) (codeMcsOut_any W' (TI.below hb (Nat.le_refl _)) (TO.below hb (Nat.le_refl _)) 0 0 0 0 t 1 16 hA2 (by omega) (by omega) (by omega))
  · intro W' hb0
    have hb := hV.trans (hb0.mono hV.size)
    exact first_4_1 W' (TO.below hb (Nat.le_refl _)) 0 0 0 hR
set_option maxHeartbeats 1000000 in
theorem alone16_4_2 (W : World) (TI : TabI W) (TO : TabO W) (t : Nat) (ht : t < 2) (bo bt : Nat) (ho : W.heap[bo]? = some (.cells #[.int .i64 4, .int .i64 0, .int .i64 0, .int .i64 0] 26 (0, 0))) (hbt : W.heap[bt]? = some (.cells #[.int .i64 2] 3 (0, 0))) :
    Calls Tryz.prog 7 #[.agg #[.int .i64 4, .int .i64 0, .int .i64 0, .int .i64 0], .int .i64 2, .int .i64 (t : Int), .func (.func 22) #[] #[.pointer (some ⟨bo, 0, none⟩), .pointer (some ⟨bt, 0, none⟩)]] W fun e w' => e = .returned (.int .i64 1) ∧ Below W.heap.size W w' := by
  obtain ⟨g1, g2, g3, g4, g5, g6, g7⟩ := goodCase_parts (good_mcs ⟨2, by omega⟩ ⟨t, by omega⟩ ht)
  have hR : RightP 4 0 0 0 2 := by unfold RightP; omega
  have hA1 : AskP 4 0 0 0 1 2 t := ⟨hR, by omega, by omega, by decide⟩
  have hA2 : AskP 4 0 0 0 2 2 t := ⟨hR, by omega, by omega, by decide⟩
  refine aloneW_any W 4 0 0 0 2 t _ (fun V hV => alone_any V (TI.below hV (Nat.le_refl _)) 4 0 0 0 2 t (by omega) 22 #[.pointer (some ⟨bo, 0, none⟩), .pointer (some ⟨bt, 0, none⟩)] (resL (linMcsIn 16 2 t)) (resL (linMcsOut 16 2 t)) (List.replicate (2 + 2 * 2) 0) 1 ?_ ?_ ?_ (fun args w => enters_of Tryz.func22 (by kernel_rfl) rfl args w) (by decide) g1 g2 g3 g4 g5 g6 g7)
  · intro W' hb0
    have hb := hV.trans (hb0.mono hV.size)
    exact maker16_1 W' 4 0 0 0 2 1 t bo bt _ ((hb.block bo (Array.getElem?_eq_some_iff.1 ho).1).trans ho) ((hb.block bt (Array.getElem?_eq_some_iff.1 hbt).1).trans hbt) (codeMcsIn_any W' (TI.below hb (Nat.le_refl _)) (TO.below hb (Nat.le_refl _)) 0 0 0 0 t 2 16 hA1 (by omega) (by omega) (by omega))
  · intro W' hb0
    have hb := hV.trans (hb0.mono hV.size)
    exact maker16_1 W' 4 0 0 0 2 2 t bo bt _ ((hb.block bo (Array.getElem?_eq_some_iff.1 ho).1).trans ho) ((hb.block bt (Array.getElem?_eq_some_iff.1 hbt).1).trans hbt) (codeMcsOut_any W' (TI.below hb (Nat.le_refl _)) (TO.below hb (Nat.le_refl _)) 0 0 0 0 t 2 16 hA2 (by omega) (by omega) (by omega))
  · intro W' hb0
    have hb := hV.trans (hb0.mono hV.size)
    exact first_4_2 W' (TO.below hb (Nat.le_refl _)) 0 0 0 hR
set_option maxHeartbeats 1000000 in
theorem alone16_4_3 (W : World) (TI : TabI W) (TO : TabO W) (t : Nat) (ht : t < 3) (bo bt : Nat) (ho : W.heap[bo]? = some (.cells #[.int .i64 4, .int .i64 0, .int .i64 0, .int .i64 0] 26 (0, 0))) (hbt : W.heap[bt]? = some (.cells #[.int .i64 3] 3 (0, 0))) :
    Calls Tryz.prog 7 #[.agg #[.int .i64 4, .int .i64 0, .int .i64 0, .int .i64 0], .int .i64 3, .int .i64 (t : Int), .func (.func 22) #[] #[.pointer (some ⟨bo, 0, none⟩), .pointer (some ⟨bt, 0, none⟩)]] W fun e w' => e = .returned (.int .i64 1) ∧ Below W.heap.size W w' := by
  obtain ⟨g1, g2, g3, g4, g5, g6, g7⟩ := goodCase_parts (good_mcs ⟨3, by omega⟩ ⟨t, by omega⟩ ht)
  have hR : RightP 4 0 0 0 3 := by unfold RightP; omega
  have hA1 : AskP 4 0 0 0 1 3 t := ⟨hR, by omega, by omega, by decide⟩
  have hA2 : AskP 4 0 0 0 2 3 t := ⟨hR, by omega, by omega, by decide⟩
  refine aloneW_any W 4 0 0 0 3 t _ (fun V hV => alone_any V (TI.below hV (Nat.le_refl _)) 4 0 0 0 3 t (by omega) 22 #[.pointer (some ⟨bo, 0, none⟩), .pointer (some ⟨bt, 0, none⟩)] (resL (linMcsIn 16 3 t)) (resL (linMcsOut 16 3 t)) (List.replicate (2 + 2 * 3) 0) 1 ?_ ?_ ?_ (fun args w => enters_of Tryz.func22 (by kernel_rfl) rfl args w) (by decide) g1 g2 g3 g4 g5 g6 g7)
  · intro W' hb0
    have hb := hV.trans (hb0.mono hV.size)
    exact maker16_1 W' 4 0 0 0 3 1 t bo bt _ ((hb.block bo (Array.getElem?_eq_some_iff.1 ho).1).trans ho) ((hb.block bt (Array.getElem?_eq_some_iff.1 hbt).1).trans hbt) (codeMcsIn_any W' (TI.below hb (Nat.le_refl _)) (TO.below hb (Nat.le_refl _)) 0 0 0 0 t 3 16 hA1 (by omega) (by omega) (by omega))
  · intro W' hb0
    have hb := hV.trans (hb0.mono hV.size)
    exact maker16_1 W' 4 0 0 0 3 2 t bo bt _ ((hb.block bo (Array.getElem?_eq_some_iff.1 ho).1).trans ho) ((hb.block bt (Array.getElem?_eq_some_iff.1 hbt).1).trans hbt) (codeMcsOut_any W' (TI.below hb (Nat.le_refl _)) (TO.below hb (Nat.le_refl _)) 0 0 0 0 t 3 16 hA2 (by omega) (by omega) (by omega))
  · intro W' hb0
    have hb := hV.trans (hb0.mono hV.size)
    exact first_4_3 W' (TO.below hb (Nat.le_refl _)) 0 0 0 hR
set_option maxHeartbeats 1000000 in
theorem alone16_4_4 (W : World) (TI : TabI W) (TO : TabO W) (t : Nat) (ht : t < 4) (bo bt : Nat) (ho : W.heap[bo]? = some (.cells #[.int .i64 4, .int .i64 0, .int .i64 0, .int .i64 0] 26 (0, 0))) (hbt : W.heap[bt]? = some (.cells #[.int .i64 4] 3 (0, 0))) :
    Calls Tryz.prog 7 #[.agg #[.int .i64 4, .int .i64 0, .int .i64 0, .int .i64 0], .int .i64 4, .int .i64 (t : Int), .func (.func 22) #[] #[.pointer (some ⟨bo, 0, none⟩), .pointer (some ⟨bt, 0, none⟩)]] W fun e w' => e = .returned (.int .i64 1) ∧ Below W.heap.size W w' := by
  obtain ⟨g1, g2, g3, g4, g5, g6, g7⟩ := goodCase_parts (good_mcs ⟨4, by omega⟩ ⟨t, by omega⟩ ht)
  have hR : RightP 4 0 0 0 4 := by unfold RightP; omega
  have hA1 : AskP 4 0 0 0 1 4 t := ⟨hR, by omega, by omega, by decide⟩
  have hA2 : AskP 4 0 0 0 2 4 t := ⟨hR, by omega, by omega, by decide⟩
  refine aloneW_any W 4 0 0 0 4 t _ (fun V hV => alone_any V (TI.below hV (Nat.le_refl _)) 4 0 0 0 4 t (by omega) 22 #[.pointer (some ⟨bo, 0, none⟩), .pointer (some ⟨bt, 0, none⟩)] (resL (linMcsIn 16 4 t)) (resL (linMcsOut 16 4 t)) (List.replicate (2 + 2 * 4) 0) 1 ?_ ?_ ?_ (fun args w => enters_of Tryz.func22 (by kernel_rfl) rfl args w) (by decide) g1 g2 g3 g4 g5 g6 g7)
  · intro W' hb0
    have hb := hV.trans (hb0.mono hV.size)
    exact maker16_1 W' 4 0 0 0 4 1 t bo bt _ ((hb.block bo (Array.getElem?_eq_some_iff.1 ho).1).trans ho) ((hb.block bt (Array.getElem?_eq_some_iff.1 hbt).1).trans hbt) (codeMcsIn_any W' (TI.below hb (Nat.le_refl _)) (TO.below hb (Nat.le_refl _)) 0 0 0 0 t 4 16 hA1 (by omega) (by omega) (by omega))
  · intro W' hb0
    have hb := hV.trans (hb0.mono hV.size)
    exact maker16_1 W' 4 0 0 0 4 2 t bo bt _ ((hb.block bo (Array.getElem?_eq_some_iff.1 ho).1).trans ho) ((hb.block bt (Array.getElem?_eq_some_iff.1 hbt).1).trans hbt) (codeMcsOut_any W' (TI.below hb (Nat.le_refl _)) (TO.below hb (Nat.le_refl _)) 0 0 0 0 t 4 16 hA2 (by omega) (by omega) (by omega))
  · intro W' hb0
    have hb := hV.trans (hb0.mono hV.size)
    exact first_4_4 W' (TO.below hb (Nat.le_refl _)) 0 0 0 hR
set_option maxHeartbeats 1000000 in
theorem alone16_5_1 (W : World) (TI : TabI W) (TO : TabO W) (t : Nat) (ht : t < 1) (bo bt : Nat) (ho : W.heap[bo]? = some (.cells #[.int .i64 5, .int .i64 0, .int .i64 0, .int .i64 0] 26 (0, 0))) (hbt : W.heap[bt]? = some (.cells #[.int .i64 1] 3 (0, 0))) :
    Calls Tryz.prog 7 #[.agg #[.int .i64 5, .int .i64 0, .int .i64 0, .int .i64 0], .int .i64 1, .int .i64 (t : Int), .func (.func 22) #[] #[.pointer (some ⟨bo, 0, none⟩), .pointer (some ⟨bt, 0, none⟩)]] W fun e w' => e = .returned (.int .i64 1) ∧ Below W.heap.size W w' := by
  obtain ⟨g1, g2, g3, g4, g5, g6, g7⟩ := goodCase_parts (good_clh ⟨1, by omega⟩ ⟨t, by omega⟩ ht)
  have hR : RightP 5 0 0 0 1 := by unfold RightP; omega
  have hA1 : AskP 5 0 0 0 1 1 t := ⟨hR, by omega, by omega, by decide⟩
  have hA2 : AskP 5 0 0 0 2 1 t := ⟨hR, by omega, by omega, by decide⟩
  refine aloneW_any W 5 0 0 0 1 t _ (fun V hV => alone_any V (TI.below hV (Nat.le_refl _)) 5 0 0 0 1 t (by omega) 22 #[.pointer (some ⟨bo, 0, none⟩), .pointer (some ⟨bt, 0, none⟩)] (resL (linClhIn 16 1 t)) (resL (linClhOut 16 1 t)) (clhMem 1) 1 ?_ ?_ ?_ (fun args w => enters_of Tryz.func22 (by kernel_rfl) rfl args w) (by decide) g1 g2 g3 g4 g5 g6 g7)
  · intro W' hb0
    have hb := hV.trans (hb0.mono hV.size)
    exact maker16_1 W' 5 0 0 0 1 1 t bo bt _ ((hb.block bo (Array.getElem?_eq_some_iff.1 ho).1).trans ho) ((hb.block bt (Array.getElem?_eq_some_iff.1 hbt).1).trans hbt) (codeClhIn_any W' (TI.below hb (Nat.le_refl _)) (TO.below hb (Nat.le_refl _)) 0 0 0 0 t 1 16 hA1 (by omega) (by omega) (by omega))
  · intro W' hb0
    have hb := hV.trans (hb0.mono hV.size)
    exact maker16_1 W' 5 0 0 0 1 2 t bo bt _ ((hb.block bo (Array.getElem?_eq_some_iff.1 ho).1).trans ho) ((hb.block bt (Array.getElem?_eq_some_iff.1 hbt).1).trans hbt) (codeClhOut_any W' (TI.below hb (Nat.le_refl _)) (TO.below hb (Nat.le_refl _)) 0 0 0 0 t 1 16 hA2 (by omega) (by omega) (by omega))
  · intro W' hb0
    have hb := hV.trans (hb0.mono hV.size)
    exact first_5_1 W' (TO.below hb (Nat.le_refl _)) 0 0 0 hR
set_option maxHeartbeats 1000000 in
theorem alone16_5_2 (W : World) (TI : TabI W) (TO : TabO W) (t : Nat) (ht : t < 2) (bo bt : Nat) (ho : W.heap[bo]? = some (.cells #[.int .i64 5, .int .i64 0, .int .i64 0, .int .i64 0] 26 (0, 0))) (hbt : W.heap[bt]? = some (.cells #[.int .i64 2] 3 (0, 0))) :
    Calls Tryz.prog 7 #[.agg #[.int .i64 5, .int .i64 0, .int .i64 0, .int .i64 0], .int .i64 2, .int .i64 (t : Int), .func (.func 22) #[] #[.pointer (some ⟨bo, 0, none⟩), .pointer (some ⟨bt, 0, none⟩)]] W fun e w' => e = .returned (.int .i64 1) ∧ Below W.heap.size W w' := by
  obtain ⟨g1, g2, g3, g4, g5, g6, g7⟩ := goodCase_parts (good_clh ⟨2, by omega⟩ ⟨t, by omega⟩ ht)
  have hR : RightP 5 0 0 0 2 := by unfold RightP; omega
  have hA1 : AskP 5 0 0 0 1 2 t := ⟨hR, by omega, by omega, by decide⟩
  have hA2 : AskP 5 0 0 0 2 2 t := ⟨hR, by omega, by omega, by decide⟩
  refine aloneW_any W 5 0 0 0 2 t _ (fun V hV => alone_any V (TI.below hV (Nat.le_refl _)) 5 0 0 0 2 t (by omega) 22 #[.pointer (some ⟨bo, 0, none⟩), .pointer (some ⟨bt, 0, none⟩)] (resL (linClhIn 16 2 t)) (resL (linClhOut 16 2 t)) (clhMem 2) 1 ?_ ?_ ?_ (fun args w => enters_of Tryz.func22 (by kernel_rfl) rfl args w) (by decide) g1 g2 g3 g4 g5 g6 g7)
  · intro W' hb0
    have hb := hV.trans (hb0.mono hV.size)
    exact maker16_1 W' 5 0 0 0 2 1 t bo bt _ ((hb.block bo (Array.getElem?_eq_some_iff.1 ho).1).trans ho) ((hb.block bt (Array.getElem?_eq_some_iff.1 hbt).1).trans hbt) (codeClhIn_any W' (TI.below hb (Nat.le_refl _)) (TO.below hb (Nat.le_refl _)) 0 0 0 0 t 2 16 hA1 (by omega) (by omega) (by omega))
  · intro W' hb0
    have hb := hV.trans (hb0.mono hV.size)
    exact maker16_1 W' 5 0 0 0 2 2 t bo bt _ ((hb.block bo (Array.getElem?_eq_some_iff.1 ho).1).trans ho) ((hb.block bt (Array.getElem?_eq_some_iff.1 hbt).1).trans hbt) (codeClhOut_any W' (TI.below hb (Nat.le_refl _)) (TO.below hb (Nat.le_refl _)) 0 0 0 0 t 2 16 hA2 (by omega) (by omega) (by omega))
  · intro W' hb0
    have hb := hV.trans (hb0.mono hV.size)
    exact first_5_2 W' (TO.below hb (Nat.le_refl _)) 0 0 0 hR
set_option maxHeartbeats 1000000 in
theorem alone16_5_3 (W : World) (TI : TabI W) (TO : TabO W) (t : Nat) (ht : t < 3) (bo bt : Nat) (ho : W.heap[bo]? = some (.cells #[.int .i64 5, .int .i64 0, .int .i64 0, .int .i64 0] 26 (0, 0))) (hbt : W.heap[bt]? = some (.cells #[.int .i64 3] 3 (0, 0))) :
    Calls Tryz.prog 7 #[.agg #[.int .i64 5, .int .i64 0, .int .i64 0, .int .i64 0], .int .i64 3, .int .i64 (t : Int), .func (.func 22) #[] #[.pointer (some ⟨bo, 0, none⟩), .pointer (some ⟨bt, 0, none⟩)]] W fun e w' => e = .returned (.int .i64 1) ∧ Below W.heap.size W w' := by
  obtain ⟨g1, g2, g3, g4, g5, g6, g7⟩ := goodCase_parts (good_clh ⟨3, by omega⟩ ⟨t, by omega⟩ ht)
  have hR : RightP 5 0 0 0 3 := by unfold RightP; omega
  have hA1 : AskP 5 0 0 0 1 3 t := ⟨hR, by omega, by omega, by decide⟩
  have hA2 : AskP 5 0 0 0 2 3 t := ⟨hR, by omega, by omega, by decide⟩
  refine aloneW_any W 5 0 0 0 3 t _ (fun V hV => alone_any V (TI.below hV (Nat.le_refl _)) 5 0 0 0 3 t (by omega) 22 #[.pointer (some ⟨bo, 0, none⟩), .pointer (some ⟨bt, 0, none⟩)] (resL (linClhIn 16 3 t)) (resL (linClhOut 16 3 t)) (clhMem 3) 1 ?_ ?_ ?_ (fun args w => enters_of Tryz.func22 (by kernel_rfl) rfl args w) (by decide) g1 g2 g3 g4 g5 g6 g7)
  · intro W' hb0
    have hb := hV.trans (hb0.mono hV.size)
    exact maker16_1 W' 5 0 0 0 3 1 t bo bt _ ((hb.block bo (Array.getElem?_eq_some_iff.1 ho).1).trans ho) ((hb.block bt (Array.getElem?_eq_some_iff.1 hbt).1).trans hbt) (codeClhIn_any W' (TI.below hb (Nat.le_refl _)) (TO.below hb (Nat.le_refl _)) 0 0 0 0 t 3 16 hA1 (by omega) (by omega) (by omega))
  · intro W' hb0
    have hb := hV.trans (hb0.mono hV.size)
    exact maker16_1 W' 5 0 0 0 3 2 t bo bt _ ((hb.block bo (Array.getElem?_eq_some_iff.1 ho).1).trans ho) ((hb.block bt (Array.getElem?_eq_some_iff.1 hbt).1).trans hbt) (codeClhOut_any W' (TI.below hb (Nat.le_refl _)) (TO.below hb (Nat.le_refl _)) 0 0 0 0 t 3 16 hA2 (by omega) (by omega) (by omega))
  · intro W' hb0
    have hb := hV.trans (hb0.mono hV.size)
    exact first_5_3 W' (TO.below hb (Nat.le_refl _)) 0 0 0 hR
set_option maxHeartbeats 1000000 in
theorem alone16_5_4 (W : World) (TI : TabI W) (TO : TabO W) (t : Nat) (ht : t < 4) (bo bt : Nat) (ho : W.heap[bo]? = some (.cells #[.int .i64 5, .int .i64 0, .int .i64 0, .int .i64 0] 26 (0, 0))) (hbt : W.heap[bt]? = some (.cells #[.int .i64 4] 3 (0, 0))) :
    Calls Tryz.prog 7 #[.agg #[.int .i64 5, .int .i64 0, .int .i64 0, .int .i64 0], .int .i64 4, .int .i64 (t : Int), .func (.func 22) #[] #[.pointer (some ⟨bo, 0, none⟩), .pointer (some ⟨bt, 0, none⟩)]] W fun e w' => e = .returned (.int .i64 1) ∧ Below W.heap.size W w' := by
  obtain ⟨g1, g2, g3, g4, g5, g6, g7⟩ := goodCase_parts (good_clh ⟨4, by omega⟩ ⟨t, by omega⟩ ht)
  have hR : RightP 5 0 0 0 4 := by unfold RightP; omega
  have hA1 : AskP 5 0 0 0 1 4 t := ⟨hR, by omega, by omega, by decide⟩
  have hA2 : AskP 5 0 0 0 2 4 t := ⟨hR, by omega, by omega, by decide⟩
  refine aloneW_any W 5 0 0 0 4 t _ (fun V hV => alone_any V (TI.below hV (Nat.le_refl _)) 5 0 0 0 4 t (by omega) 22 #[.pointer (some ⟨bo, 0, none⟩), .pointer (some ⟨bt, 0, none⟩)] (resL (linClhIn 16 4 t)) (resL (linClhOut 16 4 t)) (clhMem 4) 1 ?_ ?_ ?_ (fun args w => enters_of Tryz.func22 (by kernel_rfl) rfl args w) (by decide) g1 g2 g3 g4 g5 g6 g7)
  · intro W' hb0
    have hb := hV.trans (hb0.mono hV.size)
    exact maker16_1 W' 5 0 0 0 4 1 t bo bt _ ((hb.block bo (Array.getElem?_eq_some_iff.1 ho).1).trans ho) ((hb.block bt (Array.getElem?_eq_some_iff.1 hbt).1).trans hbt) (codeClhIn_any W' (TI.below hb (Nat.le_refl _)) (TO.below hb (Nat.le_refl _)) 0 0 0 0 t 4 16 hA1 (by omega) (by omega) (by omega))
  · intro W' hb0
    have hb := hV.trans (hb0.mono hV.size)
    exact maker16_1 W' 5 0 0 0 4 2 t bo bt _ ((hb.block bo (Array.getElem?_eq_some_iff.1 ho).1).trans ho) ((hb.block bt (Array.getElem?_eq_some_iff.1 hbt).1).trans hbt) (codeClhOut_any W' (TI.below hb (Nat.le_refl _)) (TO.below hb (Nat.le_refl _)) 0 0 0 0 t 4 16 hA2 (by omega) (by omega) (by omega))
  · intro W' hb0
    have hb := hV.trans (hb0.mono hV.size)
    exact first_5_4 W' (TO.below hb (Nat.le_refl _)) 0 0 0 hR
theorem alone16_all (W : World) (TI : TabI W) (TO : TabO W) (k th : Int) (t : Nat) (hk : k = 4 ∨ k = 5) (h1 : 1 ≤ th ∧ th ≤ 4) (ht : (t : Int) < th) (bo bt : Nat) (ho : W.heap[bo]? = some (.cells #[.int .i64 k, .int .i64 0, .int .i64 0, .int .i64 0] 26 (0, 0))) (hbt : W.heap[bt]? = some (.cells #[.int .i64 th] 3 (0, 0))) :
    Calls Tryz.prog 7 #[.agg #[.int .i64 k, .int .i64 0, .int .i64 0, .int .i64 0], .int .i64 th, .int .i64 (t : Int), .func (.func 22) #[] #[.pointer (some ⟨bo, 0, none⟩), .pointer (some ⟨bt, 0, none⟩)]] W fun e w' => e = .returned (.int .i64 1) ∧ Below W.heap.size W w' := by
  rcases (show th = 1 ∨ th = 2 ∨ th = 3 ∨ th = 4 by omega) with rfl | rfl | rfl | rfl <;> rcases hk with rfl | rfl
  · exact alone16_4_1 W TI TO t (by omega) bo bt ho hbt
  · exact alone16_5_1 W TI TO t (by omega) bo bt ho hbt
  · exact alone16_4_2 W TI TO t (by omega) bo bt ho hbt
  · exact alone16_5_2 W TI TO t (by omega) bo bt ho hbt
  · exact alone16_4_3 W TI TO t (by omega) bo bt ho hbt
  · exact alone16_5_3 W TI TO t (by omega) bo bt ho hbt
  · exact alone16_4_4 W TI TO t (by omega) bo bt ho hbt
  · exact alone16_5_4 W TI TO t (by omega) bo bt ho hbt
set_option maxHeartbeats 4000000 in
theorem queueAlone_any (w : World) (TI : TabI w) (TO : TabO w) (x0 x1 x2 x3 tv : Int) (h0 : 0 ≤ x0 ∧ x0 ≤ 255) (h1 : 0 ≤ x1 ∧ x1 ≤ 255) (h2 : 0 ≤ x2 ∧ x2 ≤ 255) (h3 : 0 ≤ x3 ∧ x3 ≤ 255) (h4 : 0 ≤ tv ∧ tv ≤ 255) :
    Calls Tryz.prog 3 #[.agg #[.int .u8 x0, .int .u8 x1, .int .u8 x2, .int .u8 x3], .int .u8 tv] w fun e w' => e = .returned (.bool true) ∧ Below w.heap.size w w' := by
  obtain ⟨th, hth⟩ : ∃ th, 1 + x1 % 4 = th := ⟨_, rfl⟩
  have hth4 : 1 ≤ th ∧ th ≤ 4 := by omega
  obtain ⟨k, hk⟩ : ∃ k, 4 + x0 % 2 = k := ⟨_, rfl⟩
  have hk2 : k = 4 ∨ k = 5 := by omega
  have hz : (th == 0) = false := by simp; omega
  have htv : IntKind.i64.wrap tv = tv := by rw [IntKind.wrap_i64]; omega
  obtain ⟨t, ht⟩ : ∃ t : Nat, tv.tmod th = (t : Int) := ⟨(tv % th).toNat, by
    rw [Int.tmod_eq_emod_of_nonneg h4.1]
    have := Int.emod_nonneg tv (by omega : th ≠ 0)
    omega⟩
  have htl : (t : Int) < th := by
    rw [← ht, Int.tmod_eq_emod_of_nonneg h4.1]
    exact Int.emod_lt_of_pos tv (by omega)
  have hB0 : Below w.heap.size w (w.alloc (.cells #[.int .u8 x0, .int .u8 x1, .int .u8 x2, .int .u8 x3] 23)) := (Below.refl _ w).alloc (Nat.le_refl _) _
  have haw := awake16_any _ (TI.below hB0 (Nat.le_refl _)) (TO.below hB0 (Nat.le_refl _))
  have hob := fun W => object16 W x0 x1 x2 x3 h0 h1 h2 h3
  rw [hk, hth] at hob
  have hAL : ∀ W, Below w.heap.size w W → ∀ bo bt, W.heap[bo]? = some (.cells #[.int .i64 k, .int .i64 0, .int .i64 0, .int .i64 0] 26 (0, 0)) → W.heap[bt]? = some (.cells #[.int .i64 th] 3 (0, 0)) → Calls Tryz.prog 7 #[.agg #[.int .i64 k, .int .i64 0, .int .i64 0, .int .i64 0], .int .i64 th, .int .i64 (t : Int), .func (.func 22) #[] #[.pointer (some ⟨bo, 0, none⟩), .pointer (some ⟨bt, 0, none⟩)]] W fun e w' => e = .returned (.int .i64 1) ∧ Below W.heap.size W w' :=
    fun W hW bo bt ho hbt => alone16_all W (TI.below hW (Nat.le_refl _)) (TO.below hW (Nat.le_refl _)) k th t hk2 hth4 htl bo bt ho hbt
  clear hk hth
  go_enter Tryz.func3, Tryz.ntmps3
  go_wp2_with (first
    | (go_at_call 5; refine haw.mono ?_; rintro r w1 ⟨rfl, hb1⟩; have c0 : w1.cell? ⟨w.heap.size, 0, none⟩ = some (.int .u8 x0) := cell_of_row w1 _ 0 _ _ _ ((hb1.block w.heap.size (by simp)).trans (heap_alloc_new _ _)); have c1 : w1.cell? ⟨w.heap.size, 1, none⟩ = some (.int .u8 x1) := cell_of_row w1 _ 1 _ _ _ ((hb1.block w.heap.size (by simp)).trans (heap_alloc_new _ _)); have c2 : w1.cell? ⟨w.heap.size, 2, none⟩ = some (.int .u8 x2) := cell_of_row w1 _ 2 _ _ _ ((hb1.block w.heap.size (by simp)).trans (heap_alloc_new _ _)); have c3 : w1.cell? ⟨w.heap.size, 3, none⟩ = some (.int .u8 x3) := cell_of_row w1 _ 3 _ _ _ ((hb1.block w.heap.size (by simp)).trans (heap_alloc_new _ _)))
    | (go_at_call 6; refine (hob _).mono ?_; rintro r w2 ⟨⟨rr, mm, rfl⟩, hb2⟩))
  have hB2 : Below w.heap.size w w2 := (hB0.trans (hb1.mono (by simp))).trans (hb2.mono (by have := hb1.size; simp at this; omega))
  obtain ⟨WR, hWR⟩ : ∃ WR, (w2.alloc (.cells #[.int .i64 k, .int .i64 0, .int .i64 0, .int .i64 0] 26)) = WR := ⟨_, rfl⟩
  have hO : WR.heap[w2.heap.size]? = some (.cells #[.int .i64 k, .int .i64 0, .int .i64 0, .int .i64 0] 26 (0, 0)) := by rw [← hWR]; exact heap_alloc_new _ _
  have hBR : Below w.heap.size w WR := by rw [← hWR]; exact hB2.alloc hB2.size _
  rw [hWR]
  clear hWR c0 c1 c2 c3 hb1 hb2
  obtain ⟨o0, o1, o2, o3⟩ := cellsQ4 (show WR.drew.heap[w2.heap.size]? = _ from hO)
  have hm := maker16_any WR.drew k 0 0 0 th
  have hq := hAL ((WR.drew.alloc (.cells #[.int .i64 k, .int .i64 0, .int .i64 0, .int .i64 0] 26)).alloc (.cells #[.int .i64 th] 3)) (((bl_drew hBR).alloc (by have := hBR.size; simpa using this) _).alloc (by have := hBR.size; simp; omega) _) WR.heap.size (WR.heap.size + 1) (at_alloc (at_new rfl)) (at_new (by simp))
  have k0 : ∀ j v, WR.drew.cell? ⟨w2.heap.size, j, none⟩ = some v → ((WR.drew.alloc (.cells #[.int .i64 k, .int .i64 0, .int .i64 0, .int .i64 0] 26)).alloc (.cells #[.int .i64 th] 3)).cell? ⟨w2.heap.size, j, none⟩ = some v := fun j v h => alloc_cell1 (alloc_cell1 h)
  have p0 := k0 _ _ o0; have p1 := k0 _ _ o1; have p2 := k0 _ _ o2; have p3 := k0 _ _ o3
  go_region_held (fun w' => w'.cell? ⟨w2.heap.size, 0, none⟩ = some (.int .i64 k) ∧ w'.cell? ⟨w2.heap.size, 1, none⟩ = some (.int .i64 0) ∧ w'.cell? ⟨w2.heap.size, 2, none⟩ = some (.int .i64 0) ∧ w'.cell? ⟨w2.heap.size, 3, none⟩ = some (.int .i64 0)) (first | exact ⟨o0, o1, o2, o3⟩ | exact ⟨p0, p1, p2, p3⟩ | exact ⟨(hb4.cell (block_lt_of_cell p0)).trans p0, (hb4.cell (block_lt_of_cell p1)).trans p1, (hb4.cell (block_lt_of_cell p2)).trans p2, (hb4.cell (block_lt_of_cell p3)).trans p3⟩) (first
    | (go_at_call 8; refine hm.mono ?_; rintro r w3 ⟨rfl, rfl⟩)
    | (go_at_call 7; refine hq.mono ?_; rintro r w4 ⟨rfl, hb4⟩))
  all_goals go_wp2_with fail
  all_goals go_ret
  all_goals exact ⟨rfl, (((bl_drew hBR).alloc (by have := hBR.size; simpa using this) _).alloc (by have := hBR.size; simp; omega) _).trans (hb4.mono (by have := hBR.size; simp; omega))⟩
end Go.Proofs.YtackbadmcgjncaaGreatDoor.As

namespace Go.Proofs.YtackbadmcgjncaaGreatDoor.As
open Go.ChangeShapes Go.WideShapes Go.ChangeAt Go.RowKit

/-- A string, as a value. -/
def str (l : B8) : Value := .string ⟨l.toArray⟩
def layG (h : Array Obj) (g : Nat) (cs : Array Value) : Array Obj := h.modify g fun
  | .cells _ t frozen => .cells cs t frozen
  | o => o
def strData {H : Type} (ss : List B8) : DataW H := .agg (ss.map fun s => .lit (.string s))
/-- An array of strings that reads as a table holds the table's strings. -/
theorem cells_of_strs {H : Type} {enc : TypeId × Value → H} {P : Program} {w : World} {base : Nat} {sp : Nat → Bool} {held : Bool} {fuel : Nat} {t e : TypeId} {n : Nat} {cs : List Value} {ss : List B8} {p : List MemPlace}
    (ht : P.underlying t = some (.array n e)) (he : P.underlying e = some .string) (hce : P.cellsOf e = 1) (hct : P.cellsOf t = n)
    (h : DataW.trod enc P w base sp held fuel t cs = some (strData ss, p)) : cs = ss.map str := by
  cases fuel with
  | zero => simp [DataW.trod] at h
  | succ fuel =>
    simp only [DataW.trod, ht, hce, hct, Nat.mul_one] at h
    split at h
    · rename_i hl
      obtain ⟨xs, hm, hx⟩ := Option.map_eq_some_iff.1 h
      have hxs : xs.map (·.1) = ss.map fun s => (DataW.lit (.string s) : DataW H) := by
        have := congrArg Prod.fst hx
        simpa [strData] using this
      have hxl : xs.length = n := by simpa using Lib.mapM_length hm
      have hzl : ss.length = n := by
        have := congrArg List.length hxs
        simp at this
        omega
      apply List.ext_getElem?
      intro i
      by_cases hi : i < n
      · obtain ⟨b, hb, hf⟩ := Lib.mapM_at hm i i (by simp [hi])
        obtain ⟨s, hc, rfl, _⟩ := DataW.trod_string he hf
        have h1 : cs[i]? = some (.string s) := by
          have := congrArg (·[0]?) hc
          simpa [List.getElem?_take, List.getElem?_drop] using this
        have h2 : (xs.map (·.1))[i]? = some (DataW.lit (.string s.data.toList) : DataW H) := by simp [hb]
        rw [hxs] at h2
        simp only [List.getElem?_map, Option.map_eq_some_iff, DataW.lit.injEq, Lit.string.injEq] at h2
        obtain ⟨z', hz', e'⟩ := h2
        rw [h1, List.getElem?_map, hz', e']; rfl
      · rw [List.getElem?_eq_none (by omega), List.getElem?_eq_none (by simp; omega)]
    · cases h
theorem gUses : Tryz.prog.globalNamed "deadlatch/isa.uses" = some 0 := by kernel_rfl
theorem gNames : Tryz.prog.globalNamed "deadlatch/isa.names" = some 2 := by kernel_rfl
theorem gObj : Tryz.prog.globalNamed "deadlatch/obj.names" = some 1 := by kernel_rfl
def laid3 : List (String × DataW Unit) := [("deadlatch/isa.uses", Lib.tabData .i64 opUses), ("deadlatch/isa.names", strData opNames), ("deadlatch/obj.names", strData kindNames)]
/-- What a row's list gives. -/
theorem tables {W : World} (h : laidMetH Tryz.prog laid3 W) : TabI W ∧ TabO W := by
  have h' : laidMet Tryz.prog laid3 W := h
  obtain ⟨ps, ⟨g0, t0, cs0, f0, p0, q0, hg0, ht0, hv0, hd0, ⟨g1, t1, cs1, f1, p1, q1, hg1, ht1, hv1, hd1, ⟨g2, t2, cs2, f2, p2, q2, hg2, ht2, hv2, hd2, _, _⟩, _⟩, _⟩, _⟩ := h'
  obtain rfl := Option.some.inj (gUses.symm.trans hg0)
  obtain rfl := Option.some.inj (gNames.symm.trans hg1)
  obtain rfl := Option.some.inj (gObj.symm.trans hg2)
  obtain rfl := Option.some.inj ((show (Tryz.prog.globals[0]?).map (·.type) = some 161 by kernel_rfl).symm.trans ht0)
  obtain rfl := Option.some.inj ((show (Tryz.prog.globals[2]?).map (·.type) = some 181 by kernel_rfl).symm.trans ht1)
  obtain rfl := Option.some.inj ((show (Tryz.prog.globals[1]?).map (·.type) = some 180 by kernel_rfl).symm.trans ht2)
  have e0 := Lib.cells_of_tab Tryz.underlying161 Tryz.underlying3 (by kernel_rfl) (by kernel_rfl) hd0
  have e1 := cells_of_strs Tryz.underlying181 Tryz.underlying9 (by kernel_rfl) (by kernel_rfl) hd1
  have e2 := cells_of_strs Tryz.underlying180 Tryz.underlying9 (by kernel_rfl) (by kernel_rfl) hd2
  have k0 := World.var?_cell gUses (show W.var? Tryz.prog "deadlatch/isa.uses" = some (opUses.map fun z => Value.int .i64 z).toArray by rw [hv0, ← e0])
  have k1 := World.var?_cell gNames (show W.var? Tryz.prog "deadlatch/isa.names" = some (opNames.map str).toArray by rw [hv1, ← e1])
  have k2 := World.var?_cell gObj (show W.var? Tryz.prog "deadlatch/obj.names" = some (kindNames.map str).toArray by rw [hv2, ← e2])
  refine ⟨⟨fun i hi => ?_, fun i hi => ?_⟩, ⟨fun i hi => ?_⟩⟩
  · have hl : i < opNames.length := hi
    rw [k1 i]
    simp [List.getD, hl, str]
  · have hl : i < opUses.length := hi
    rw [k0 i]
    simp [List.getD, hl]
  · have hl : i < kindNames.length := hi
    rw [k2 i]
    simp [List.getD, hl, str]
theorem list4 {α : Type} : ∀ {l : List α}, l.length = 4 → ∃ a b c d, l = [a, b, c, d]
  | [a, b, c, d], _ => ⟨a, b, c, d, rfl⟩
theorem get_some {α : Type} {xs : List α} {i n : Nat} (h : xs.length = n) (hi : i < n) : ∃ y, xs[i]? = some y := ⟨_, List.getElem?_eq_getElem (by omega)⟩
/-- What is drawn for a case, opened. -/
theorem case_shape {H : Type} {enc : TypeId × Value → H} {W : World} {b0 base : Nat} {r : Reach} {sp : Nat → Bool} {held : Bool} {v : Value} {d : DataW H} {p : List MemPlace}
    (hv : Value.okWide Tryz.prog W r b0 23 v) (h : DataW.Trod enc Tryz.prog W base sp held 23 v d p) :
    ∃ (a b c e : Int), v = .agg #[.int .u8 a, .int .u8 b, .int .u8 c, .int .u8 e] ∧ (0 ≤ a ∧ a ≤ 255) ∧ (0 ≤ b ∧ b ≤ 255) ∧ (0 ≤ c ∧ c ≤ 255) ∧ (0 ≤ e ∧ e ≤ 255) := by
  obtain ⟨cs, rfl, hsz⟩ := okWide_struct Tryz.underlying23 hv
  obtain ⟨fuel, hf⟩ := h
  obtain ⟨l⟩ := cs
  have z4 : Tryz.prog.cellsOf 23 = 4 := by kernel_rfl
  have z1 : Tryz.prog.cellsOf 5 = 1 := by kernel_rfl
  obtain ⟨x0, x1, x2, x3, rfl⟩ := list4 (show l.length = 4 from hsz.trans z4)
  obtain ⟨xs, n, _, _, hl, hx, hfs⟩ := DataW.trod_struct Tryz.underlying23 hf
  have hx4 : xs.length = 4 := hx
  have f0 : DataW.trod enc Tryz.prog W base sp held n 5 (List.take (Tryz.prog.cellsOf 5) [x0, x1, x2, x3]) = xs[0]? := hfs 0 _ rfl
  have f1 : DataW.trod enc Tryz.prog W base sp held n 5 (List.take (Tryz.prog.cellsOf 5) [x1, x2, x3]) = xs[1]? := hfs 1 _ rfl
  have f2 : DataW.trod enc Tryz.prog W base sp held n 5 (List.take (Tryz.prog.cellsOf 5) [x2, x3]) = xs[2]? := hfs 2 _ rfl
  have f3 : DataW.trod enc Tryz.prog W base sp held n 5 (List.take (Tryz.prog.cellsOf 5) [x3]) = xs[3]? := hfs 3 _ rfl
  rw [z1] at f0 f1 f2 f3
  obtain ⟨y0, hy0⟩ := get_some hx4 (show 0 < 4 by decide)
  obtain ⟨y1, hy1⟩ := get_some hx4 (show 1 < 4 by decide)
  obtain ⟨y2, hy2⟩ := get_some hx4 (show 2 < 4 by decide)
  obtain ⟨y3, hy3⟩ := get_some hx4 (show 3 < 4 by decide)
  obtain ⟨a, ha, _, wa⟩ := DataW.trod_int Tryz.underlying5 (f0.trans hy0)
  obtain ⟨b, hb, _, wb⟩ := DataW.trod_int Tryz.underlying5 (f1.trans hy1)
  obtain ⟨c, hc, _, wc⟩ := DataW.trod_int Tryz.underlying5 (f2.trans hy2)
  obtain ⟨e, he, _, we⟩ := DataW.trod_int Tryz.underlying5 (f3.trans hy3)
  simp only [List.take_succ_cons, List.take_zero, List.cons.injEq, and_true] at ha hb hc he
  subst ha hb hc he
  simp [Lit.wf] at wa wb wc we
  have e1 : IntKind.u8.min = 0 := by decide
  have e2 : IntKind.u8.max = 255 := by decide
  exact ⟨a, b, c, e, rfl, by omega, by omega, by omega, by omega⟩
end Go.Proofs.YtackbadmcgjncaaGreatDoor.As

namespace Go.Proofs.YtackbadmcgjncaaGreatDoor.queueAloneL
open Go.ChangeShapes Go.WideShapes Go.ChangeAt Go.RowKit
open Go.Proofs.YtackbadmcgjncaaGreatDoor.As

theorem own : ownKnob Tryz.prog.godebug = none := by kernel_rfl
theorem laidOut : laidOutB Tryz.prog = true := by kernel_rfl

theorem laid_eq : Rows.queueAloneRow.laid = laid3 := by kernel_rfl
set_option maxRecDepth 100000 in
/-- What the walks give, for every argument and every world that holds the tables. -/
theorem contract (H : Type) (enc : TypeId × Value → H) (W : World) (base : Nat) (args : Array Value) (ds gs : List (DataW H)) (before : List MemPlace)
    (hval : ∀ (j : Nat) t v, Tryz.f3.params[j]? = some t → args[j]? = some v → Value.okWide Tryz.prog W .any base t v)
    (hW : DataW.Whole enc Tryz.prog Tryz.f3.params.toList Rows.queueAloneSpec.vars false W args.toList ds gs before) (hL : laidMetH Tryz.prog Rows.queueAloneRow.laid W) :
    Calls Tryz.prog 3 args W fun e W' => ∃ v, e = .returned v ∧ Rows.queueAloneSpec.post enc Tryz.prog Tryz.f3 false true false false W args v W' := by
  have hW' := hW
  obtain ⟨p, q, hA0, hV, rfl, hfz, hnd⟩ := hW
  have hA : DataW.TrodAll enc Tryz.prog W 0 (fun _ => true) true Tryz.f3.params.toList args.toList ds p := hA0
  rw [Tryz.params3] at hA hval
  obtain ⟨v0, vs0, d0, ds0, p0, q0, hargs, rfl, rfl, h0, r0⟩ := trodAll_cons hA
  obtain ⟨v1, vs1, d1, ds1, p1, q1, rfl, rfl, rfl, h1, r1⟩ := trodAll_cons r0
  obtain ⟨rfl, rfl, rfl⟩ := trodAll_nil r1
  obtain rfl : args = #[v0, v1] := by cases args; simp_all
  have k0 := h0
  have lt0 : ∀ x ∈ p0, x.block < W.heap.size := by obtain ⟨m, hm⟩ := k0; exact DataW.trod_lt m _ _ _ hm
  obtain ⟨x0, x1, x2, x3, rfl, b0, b1, b2, b3⟩ := case_shape (hval 0 23 v0 rfl rfl) h0
  obtain ⟨a1, rfl, rfl, rfl, w1⟩ := open_int Tryz.underlying5 (hval 1 5 v1 rfl rfl) h1
  have w1' := w1
  simp [Lit.wf] at w1'
  have e3 : IntKind.u8.min = 0 := by decide
  have e4 : IntKind.u8.max = 255 := by decide
  obtain ⟨rfl, rfl⟩ := trodVars_none hV
  clear hA0
  obtain ⟨TI, TO⟩ := tables (laid_eq ▸ hL)
  refine (queueAlone_any W TI TO x0 x1 x2 x3 a1 b0 b1 b2 b3 (by omega)).mono fun e W' ⟨he, bel⟩ => ?_
  subst he
  exact ⟨_, rfl, _, _, _, [], _, [], hW', trodAll_mk1 (shut_bool Tryz.underlying4 _), (trodAll_cons_mk (Below.trod laidOut (by kernel_rfl) (of_decide_eq_true (by kernel_rfl)) k0 bel lt0) (trodAll_cons_mk (shut_int Tryz.underlying5 w1) trodAll_mk0)), rfl, bel.frame _, fun h => by cases h⟩

/-- A world for the witness: the settled one, the tables as their initialisers lay them. -/
noncomputable def laidWorld (os : Os) : World :=
  { World.holding Tryz.prog os ⟨#[], #[], []⟩ with heap := layG (layG (layG (World.holding Tryz.prog os ⟨#[], #[], []⟩).heap 0 (opUses.map (Value.int .i64)).toArray) 2 (opNames.map str).toArray) 1 (kindNames.map str).toArray }
theorem laid_met (os : Os) : laidMet Tryz.prog Rows.queueAloneRow.laid ((laidWorld os).forCall (fun _ _ => 0) ⟨#[], #[.agg #[.int .u8 0, .int .u8 0, .int .u8 0, .int .u8 0], .int .u8 0], []⟩).memory :=
  laidMet_of_run' 8 (by kernel_rfl) (by kernel_rfl)
theorem reads (os : Os) {H : Type} (enc : TypeId × Value → H) : ∃ places, DataW.whole enc Tryz.prog ((laidWorld os).forCall (fun _ _ => 0) ⟨#[], #[.agg #[.int .u8 0, .int .u8 0, .int .u8 0, .int .u8 0], .int .u8 0], []⟩).memory Tryz.f3.params.toList Rows.queueAloneSpec.vars false #[.agg #[.int .u8 0, .int .u8 0, .int .u8 0, .int .u8 0], .int .u8 0].toList 8 = some ([.agg [.lit (.int .u8 0), .lit (.int .u8 0), .lit (.int .u8 0), .lit (.int .u8 0)], .lit (.int .u8 0)], [], places) :=
  ⟨[], by kernel_rfl⟩

set_option maxRecDepth 100000 in
theorem lifted (os : Os) (started : os.Started) (H : Type) (enc : TypeId × Value → H) (F : Stop.Interp) :
    ReturnsInHanded {} Tryz.checked os 3 .any ((OpenSpec.ofChange Rows.queueAloneSpec).preRow enc Tryz.prog Tryz.f3 Rows.queueAloneRow.domain false Rows.queueAloneRow.laid) (((OpenSpec.ofChange Rows.queueAloneSpec).at F).post enc Tryz.prog Tryz.f3 false true false false) := by
  obtain ⟨places, hx⟩ := reads os enc
  refine returnsInHanded_of_row (C := Tryz.checked) (s := OpenSpec.ofChange Rows.queueAloneSpec) own started (by kernel_rfl) Tryz.func3
    (witness_row_at (enc := enc) (C := Tryz.checked) false (laidWorld os) #[.agg #[.int .u8 0, .int .u8 0, .int .u8 0, .int .u8 0], .int .u8 0] rfl (by kernel_rfl) (by kernel_rfl) (by kernel_rfl)
      (OpenSpec.preRow_of_cond 8 hx (by kernel_rfl) (fun k hk => by cases hk) (by kernel_rfl) (laid_met os))) ?_
  intro W base args ds gs before hval hW _ _ _ hL _ _
  exact contract H enc W base args ds gs before hval hW hL
theorem said : Rows.QueueAloneSaid :=
  OpenClaim.holds_of_cond 3 Tryz.f3 rfl rfl rfl rfl rfl rfl rfl ⟨rfl, rfl, rfl, rfl, rfl⟩ rfl rfl rfl rfl rfl (by kernel_rfl) Tryz.func3 (by kernel_rfl)
    (of_decide_eq_true (by kernel_rfl)) (by unfold Func.isWrapper; first | (rw [if_pos (by decide +kernel)]; kernel_rfl) | (rw [if_neg (by decide +kernel)]; exact ⟨rfl, rfl⟩))
    (fun os started H enc _ F => by rw [OpenClaim.pre_eq_preRow]; exact lifted os started H enc F)
theorem plain (f : FuncId) (fn : Func) (hf : Tryz.pinned.checked.prog.funcNamed "deadlatch/deadlatchlaw16.QueueAlone" = some f) (hfn : Tryz.pinned.checked.prog.funcs[f]? = some fn) :
    false = Tryz.pinned.checked.prog.looks [] ∧ ∀ (j : Nat) t, fn.params[j]? = some t → Tryz.pinned.checked.prog.wantsStandIn t = false := by
  obtain rfl : f = 3 := Option.some.inj ((show Tryz.prog.funcNamed "deadlatch/deadlatchlaw16.QueueAlone" = some 3 by kernel_rfl).symm.trans hf) |>.symm
  obtain rfl : fn = Tryz.f3 := (Option.some.inj (Tryz.func3.symm.trans hfn)).symm
  refine ⟨by kernel_rfl, fun j t ht => ?_⟩
  rw [Tryz.params3] at ht
  have ht2 : t = 23 ∨ t = 5 := by simpa using Array.mem_of_getElem? ht
  rcases ht2 with rfl | rfl
  · exact (show Tryz.prog.wantsStandIn 23 = false by kernel_rfl)
  · exact (show Tryz.prog.wantsStandIn 5 = false by kernel_rfl)

/-- The card. -/
theorem card : Rows.QueueAloneCardSaid :=
  Claim7.holds_tied_plain_at .later [] _ _ _ _ said (fun _ h => by cases h) (by kernel_rfl) (fun _ h => by cases h) queueAlone_row_tie rfl ⟨rfl, rfl⟩ (by kernel_rfl) rfl plain (by kernel_rfl)
#print axioms card
end Go.Proofs.YtackbadmcgjncaaGreatDoor.queueAloneL
