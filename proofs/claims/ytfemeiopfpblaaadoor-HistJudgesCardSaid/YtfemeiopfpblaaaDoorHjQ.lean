/- The walks of the law's own functions: a tas that is acquired and released; an act as the document has it. -/
import Derived.Test.YtfemeiopfpblaaaDoorHjJ2
import Derived.Test.YtfemeiopfpblaaaDoorHjMB
set_option linter.unusedVariables false
set_option linter.unusedSimpArgs false
set_option maxRecDepth 20000
namespace Go.Proofs.YtfemeiopfpblaaaDoor.As
open Go.RowKit

theorem results_act26 {fn : Func} {p : Tmp} (h : fn.results = #[.cell p 38]) (tmps : Array Value) (w : World) (R : Nat) (a b c d e f g k l m n : Value) (hb : w.heap[R]? = some (.cells #[a, b, c, d, e, f, g, k, l, m, n] 38 (0, 0))) (hp : tmps.getD p undef = .pointer (some ⟨R, 0, none⟩)) :
    (results fn tmps).run Tryd.prog w = .ok (.agg #[a, b, c, d, e, f, g, k, l, m, n]) w := by
  have hl := run_loadVar_row (P := Tryd.prog) w R 38 38 _ _ _ hb Tryd.underlying38 rfl (by kernel_rfl)
  simp only [Array.getD_eq_getD_getElem?] at hp
  simp [results, h, hp, asAddr, hl]
set_option maxHeartbeats 2000000 in
theorem plain_any (w : World) (a : Act) (dA : Option Addr) (dn dc : Nat) : Calls Tryd.prog 5 #[.agg #[.int .i64 a.x.who, .int .i64 a.x.obj, .int .i64 a.x.call, .int .i64 a.x.part, .int .u32 a.x.arg, .int .u32 a.x.val, .int .i64 a.site, .int .i64 a.at_, .bool a.ended, .int .u32 a.res, .slice dA dn dc]] w fun e w' => e = .returned (.agg #[.int .i64 a.x.who, .int .i64 a.x.obj, .int .i64 a.x.call, .int .i64 a.x.part, .int .u32 a.x.arg, .int .u32 a.x.val, .int .i64 a.site, .int .i64 a.at_, .bool a.ended, .int .u32 a.res, .slice dA dn dc]) ∧ Below w.heap.size w w' := by
  go_enter Tryd.func5, Tryd.ntmps5
  go_wp2_with fail
  first
    | (go_ret; exact ⟨rfl, (((Below.refl _ w).alloc (Nat.le_refl _) _).alloc (by simp; omega) _).alloc (by simp; omega) _⟩)
    | (refine bodyPost_ret (results_act26 rfl _ _ (w.heap.size + 1) _ _ _ _ _ _ _ _ _ _ _ ((heap_alloc_old _ _ (by simp)).trans (heap_alloc2_new _ _ _)) rfl) rfl ?_
       exact ⟨rfl, (((Below.refl _ w).alloc (Nat.le_refl _) _).alloc (by simp) _).alloc (by simp; omega) _⟩)
/-- The acts' cells, one behind the other. -/
def flatK (L : List (Act × Value)) : List Value := L.flatMap fun y => y.1.cells y.2
theorem flatK_snoc (L : List (Act × Value)) (y : Act × Value) : flatK (L ++ [y]) = flatK L ++ y.1.cells y.2 := by simp [flatK]
theorem flatK_get (L : List (Act × Value)) (i : Nat) (y : Act × Value) (h : L[i]? = some y) (j : Nat) (hj : j < 11) : (flatK L)[i * 11 + j]? = (y.1.cells y.2)[j]? := flatMap_get (fun y : Act × Value => y.1.cells y.2) 11 (fun _ => rfl) L i y h j hj
theorem rdK_of_cells {w : World} {g off cap n : Nat} {L : List (Act × Value)} (hl : L.length = n) (hg : g < w.heap.size) (hc : ∀ j u, (flatK L)[j]? = some u → w.cell? ⟨g, off + j, none⟩ = some u) (hU : ∀ y ∈ L, InU w y.2 y.1.data.length y.1.data) : RdK w (.slice (some ⟨g, off, none⟩) n cap) n (L.map (·.1)) := by
  refine ⟨by rw [List.length_map]; exact hl, _, _, rfl, fun _ => ⟨g, off, rfl, hg, fun i a ha => ?_⟩⟩
  rw [List.getElem?_map] at ha
  obtain ⟨y, hy, rfl⟩ := Option.map_eq_some_iff.1 ha
  refine ⟨y.2, hU y (List.mem_of_getElem? hy), fun j u hu => ?_⟩
  have hj : j < 11 := (List.getElem?_eq_some_iff.1 hu).1
  rw [← flatK_get L i y hy j hj] at hu
  rw [Nat.add_assoc]
  exact hc _ _ hu
theorem rdK_of_rd {w : World} {v : Value} {n : Nat} {L : List (Act × Value)} (hl : L.length = n) (h : Rd w 11 v n (flatK L)) (hU : ∀ y ∈ L, InU w y.2 y.1.data.length y.1.data) : RdK w v n (L.map (·.1)) := by
  obtain ⟨A, cap, rfl, _, _, h⟩ := h
  rcases h with ⟨rfl, rfl⟩ | ⟨b, off, rfl, hb, hc⟩
  · exact ⟨by rw [List.length_map]; exact hl, _, _, rfl, fun h => by omega⟩
  · exact rdK_of_cells hl hb hc hU
theorem rdK_of_block {w : World} {g cap : Nat} {arr : Array Value} {t : TypeId} {L : List (Act × Value)} (h : w.heap[g]? = some (.cells arr t (0, 0))) (ha : arr = (flatK L).toArray) (hU : ∀ y ∈ L, InU w y.2 y.1.data.length y.1.data) : RdK w (.slice (some ⟨g, 0, none⟩) L.length cap) L.length (L.map (·.1)) := by
  refine rdK_of_cells rfl (Array.getElem?_eq_some_iff.1 h).1 (fun j u hu => ?_) hU
  rw [Nat.zero_add]
  subst ha
  exact (cell_of_row w g j _ _ _ h).trans (by rw [← hu]; simp)
theorem newCode_any (w : World) (T : TabO w) (vl : Value) (m : Nat) (obs : List Ob) (hI : InO w vl m obs) (hm : m ≤ 1000) (th : Int) :
    Calls Tryd.prog 7 #[vl, .int .i64 th] w fun e w' => (∃ p, e = .returned (.tuple #[.pointer p, .int .i64 (if NewOk th obs then 0 else 1)])) ∧ Below w.heap.size w w' := by
  refine (absNew_any w T vl m obs hI hm th).mono ?_
  rintro e w' ⟨hb, h⟩
  refine ⟨?_, hb⟩
  rcases h with ⟨hok, mb, g, rfl, _⟩ | ⟨hno, rfl⟩
  · exact ⟨_, by rw [if_pos hok]⟩
  · exact ⟨_, by rw [if_neg hno]⟩
def tasObs : List Ob := [⟨1, 0, 0, 0⟩]
def actP (who call : Int) : Act × Value := (⟨⟨who, 0, call, 0, 0, 0⟩, 0, 0, true, 0, []⟩, .slice none 0 0)
theorem val0 : (if NewOk ((2 : Nat) : Int) tasObs then judgeM ((2 : Nat) : Int) (tasObs.map St.new) [] 0 else 0) = -1 := by decide +kernel
theorem val1 : (if NewOk ((2 : Nat) : Int) tasObs then judgeM ((2 : Nat) : Int) (tasObs.map St.new) ([actP 0 1, actP 0 2, actP 1 1].map (·.1)) 0 else 0) = -1 := by decide +kernel
theorem val2 : (if NewOk ((2 : Nat) : Int) tasObs then judgeM ((2 : Nat) : Int) (tasObs.map St.new) ([actP 0 1, actP 1 1].map (·.1)) 0 else 0) = 1 := by decide +kernel
theorem inO_tas {w : World} {g : Nat} (h : w.heap[g]? = some (.cells #[.int .i64 1, .int .i64 0, .int .i64 0, .int .i64 0] 48 (0, 0))) : InO w (.slice (some ⟨g, 0, none⟩) 1 1) 1 tasObs := by
  refine ⟨rfl, _, _, rfl, fun _ => ⟨g, 0, rfl, (Array.getElem?_eq_some_iff.1 h).1, fun j u hu => ?_⟩⟩
  rw [Nat.zero_add]
  exact (cell_of_row w g j _ _ _ h).trans (by rw [← hu]; simp [flatO, tasObs, Ob.cells])
theorem inU_nil (w : World) (n : Int) : InU w (.slice none 0 0) ([] : List Int).length [] := ⟨rfl, none, 0, rfl, fun h => by simp at h⟩

theorem alloc_at (w : World) (o : Obj) (n : Nat) (h : w.heap.size = n) : (w.alloc o).heap[n]? = some o := by subst h; exact heap_alloc_new w o
set_option maxHeartbeats 4000000 in
theorem awake26_any (w : World) (T : TabO w) : Calls Tryd.prog 4 #[] w fun e w' => e = .returned (.bool true) ∧ Below w.heap.size w w' := by
  obtain ⟨W0, hW0⟩ : ∃ W0, W0 = ((((((w.alloc (.cells #[.int .i64 1, .int .i64 0, .int .i64 0, .int .i64 0] 48)).alloc (.cells #[.slice none 0 0, .slice none 0 0] 100)).alloc (.cells #[.slice (some ⟨w.heap.size, 0, none⟩) 1 1, .int .i64 0, .slice none 0 0, .int .i64 1, .slice (some ⟨w.heap.size + 1, 0, none⟩) 2 2] 28)).alloc (.cells #[.int .i64 0, .int .i64 0, .int .i64 1, .int .i64 0, .int .u32 0, .int .u32 0, .int .i64 0, .int .i64 0, .bool true, .int .u32 0, .slice none 0 0] 35)).alloc (.cells #[.int .i64 1, .int .i64 0, .int .i64 1, .int .i64 0, .int .u32 0, .int .u32 0, .int .i64 0, .int .i64 0, .bool true, .int .u32 0, .slice none 0 0] 35)).alloc (.cells #[.int .i64 0, .int .i64 0, .int .i64 2, .int .i64 0, .int .u32 0, .int .u32 0, .int .i64 0, .int .i64 0, .bool true, .int .u32 0, .slice none 0 0] 35)) := ⟨_, rfl⟩
  have hb0 : Below w.heap.size w W0 := by rw [hW0]; exact ((((((Below.refl _ w).alloc (Nat.le_refl _) _).alloc (by simp) _).alloc (by simp; omega) _).alloc (by simp; omega) _).alloc (by simp; omega) _).alloc (by simp; omega) _
  have hs0 : W0.heap.size = w.heap.size + 6 := by rw [hW0]; simp
  have g0 : W0.heap[w.heap.size]? = some (.cells #[.int .i64 1, .int .i64 0, .int .i64 0, .int .i64 0] 48 (0, 0)) := by
    rw [hW0]
    exact (heap_alloc_old _ _ (by simp only [World.size_alloc]; omega)).trans ((heap_alloc_old _ _ (by simp only [World.size_alloc]; omega)).trans ((heap_alloc_old _ _ (by simp only [World.size_alloc]; omega)).trans ((heap_alloc_old _ _ (by simp only [World.size_alloc]; omega)).trans ((heap_alloc_old _ _ (by simp only [World.size_alloc]; omega)).trans (alloc_at _ _ _ (by simp))))))
  have g2 : W0.heap[w.heap.size + 1 + 1]? = some (.cells #[.slice (some ⟨w.heap.size, 0, none⟩) 1 1, .int .i64 0, .slice none 0 0, .int .i64 1, .slice (some ⟨w.heap.size + 1, 0, none⟩) 2 2] 28 (0, 0)) := by
    rw [hW0]
    exact (heap_alloc_old _ _ (by simp only [World.size_alloc]; omega)).trans ((heap_alloc_old _ _ (by simp only [World.size_alloc]; omega)).trans ((heap_alloc_old _ _ (by simp only [World.size_alloc]; omega)).trans (alloc_at _ _ _ (by simp))))
  have g3 : W0.heap[w.heap.size + 1 + 1 + 1]? = some (.cells #[.int .i64 0, .int .i64 0, .int .i64 1, .int .i64 0, .int .u32 0, .int .u32 0, .int .i64 0, .int .i64 0, .bool true, .int .u32 0, .slice none 0 0] 35 (0, 0)) := by
    rw [hW0]
    exact (heap_alloc_old _ _ (by simp only [World.size_alloc]; omega)).trans ((heap_alloc_old _ _ (by simp only [World.size_alloc]; omega)).trans (alloc_at _ _ _ (by simp)))
  have g4 : W0.heap[w.heap.size + 1 + 1 + 1 + 1]? = some (.cells #[.int .i64 1, .int .i64 0, .int .i64 1, .int .i64 0, .int .u32 0, .int .u32 0, .int .i64 0, .int .i64 0, .bool true, .int .u32 0, .slice none 0 0] 35 (0, 0)) := by
    rw [hW0]
    exact (heap_alloc_old _ _ (by simp only [World.size_alloc]; omega)).trans (alloc_at _ _ _ (by simp))
  have g5 : W0.heap[w.heap.size + 1 + 1 + 1 + 1 + 1]? = some (.cells #[.int .i64 0, .int .i64 0, .int .i64 2, .int .i64 0, .int .u32 0, .int .u32 0, .int .i64 0, .int .i64 0, .bool true, .int .u32 0, .slice none 0 0] 35 (0, 0)) := by
    rw [hW0]
    exact alloc_at _ _ _ (by simp)
  have HB0 := Lib.hid hb0
  have HS0 := Lib.hid hs0
  have HG := Lib.hid (And.intro g0 (And.intro g2 (And.intro g3 (And.intro g4 g5))))
  have HT := Lib.hid (T.below hb0 (Nat.le_refl _))
  clear T hb0 hs0 g0 g2 g3 g4 g5
  have j0 : ∀ W, Below W0.heap.size W0 W → Calls Tryd.prog 6 #[.agg #[.slice (some ⟨w.heap.size, 0, none⟩) 1 1, .int .i64 0, .slice none 0 0, .int .i64 1, .slice (some ⟨w.heap.size + 1, 0, none⟩) 2 2], .slice none 0 0] W fun e w' => e = .returned (.int .i64 (-1)) ∧ Below W.heap.size W w' := fun W hW =>
    (judge_any W (HT.out.below hW (Nat.le_refl _)) _ (.slice none 0 0) (.slice none 0 0) 0 1 (some ⟨w.heap.size + 1, 0, none⟩) 2 2 1 0 tasObs [] (inO_tas ((hW.block _ (by rw [HS0.out]; omega)).trans HG.out.1)) (by decide) ⟨rfl, none, 0, rfl, fun h => by omega⟩ (by decide) (fun a ha => by cases ha) (by decide)).mono fun e w' ⟨h1, h2⟩ => ⟨by rw [h1, val0], h2⟩
  have j1 : ∀ W g, Below W0.heap.size W0 W → W.heap[g]? = some (.cells (flatK [actP 0 1, actP 0 2, actP 1 1]).toArray 35 (0, 0)) → Calls Tryd.prog 6 #[.agg #[.slice (some ⟨w.heap.size, 0, none⟩) 1 1, .int .i64 0, .slice none 0 0, .int .i64 1, .slice (some ⟨w.heap.size + 1, 0, none⟩) 2 2], .slice (some ⟨g, 0, none⟩) 3 3] W fun e w' => e = .returned (.int .i64 (-1)) ∧ Below W.heap.size W w' := fun W g hW hg =>
    (judge_any W (HT.out.below hW (Nat.le_refl _)) _ (.slice none 0 0) _ 0 1 (some ⟨w.heap.size + 1, 0, none⟩) 2 2 1 3 tasObs _ (inO_tas ((hW.block _ (by rw [HS0.out]; omega)).trans HG.out.1)) (by decide) (rdK_of_block (L := [actP 0 1, actP 0 2, actP 1 1]) hg rfl (fun y hy => by simp at hy; rcases hy with rfl | rfl | rfl <;> exact inU_nil _ 0)) (by decide) (fun a ha => by simp [actP] at ha; rcases ha with rfl | rfl | rfl <;> decide) (by decide)).mono fun e w' ⟨h1, h2⟩ => ⟨by rw [h1, val1], h2⟩
  have j2 : ∀ W g, Below W0.heap.size W0 W → W.heap[g]? = some (.cells (flatK [actP 0 1, actP 1 1]).toArray 35 (0, 0)) → Calls Tryd.prog 6 #[.agg #[.slice (some ⟨w.heap.size, 0, none⟩) 1 1, .int .i64 0, .slice none 0 0, .int .i64 1, .slice (some ⟨w.heap.size + 1, 0, none⟩) 2 2], .slice (some ⟨g, 0, none⟩) 2 2] W fun e w' => e = .returned (.int .i64 1) ∧ Below W.heap.size W w' := fun W g hW hg =>
    (judge_any W (HT.out.below hW (Nat.le_refl _)) _ (.slice none 0 0) _ 0 1 (some ⟨w.heap.size + 1, 0, none⟩) 2 2 1 2 tasObs _ (inO_tas ((hW.block _ (by rw [HS0.out]; omega)).trans HG.out.1)) (by decide) (rdK_of_block (L := [actP 0 1, actP 1 1]) hg rfl (fun y hy => by simp at hy; rcases hy with rfl | rfl <;> exact inU_nil _ 0)) (by decide) (fun a ha => by simp [actP] at ha; rcases ha with rfl | rfl <;> decide) (by decide)).mono fun e w' ⟨h1, h2⟩ => ⟨by rw [h1, val2], h2⟩
  have K : ∀ W, Below W0.heap.size W0 W → (W.heap[w.heap.size + 1 + 1]? = some (.cells #[.slice (some ⟨w.heap.size, 0, none⟩) 1 1, .int .i64 0, .slice none 0 0, .int .i64 1, .slice (some ⟨w.heap.size + 1, 0, none⟩) 2 2] 28 (0, 0)) ∧ W.heap[w.heap.size + 1 + 1 + 1]? = some (.cells #[.int .i64 0, .int .i64 0, .int .i64 1, .int .i64 0, .int .u32 0, .int .u32 0, .int .i64 0, .int .i64 0, .bool true, .int .u32 0, .slice none 0 0] 35 (0, 0)) ∧ W.heap[w.heap.size + 1 + 1 + 1 + 1]? = some (.cells #[.int .i64 1, .int .i64 0, .int .i64 1, .int .i64 0, .int .u32 0, .int .u32 0, .int .i64 0, .int .i64 0, .bool true, .int .u32 0, .slice none 0 0] 35 (0, 0)) ∧ W.heap[w.heap.size + 1 + 1 + 1 + 1 + 1]? = some (.cells #[.int .i64 0, .int .i64 0, .int .i64 2, .int .i64 0, .int .u32 0, .int .u32 0, .int .i64 0, .int .i64 0, .bool true, .int .u32 0, .slice none 0 0] 35 (0, 0))) := fun W hW => ⟨(hW.block _ (by rw [HS0.out]; omega)).trans HG.out.2.1, (hW.block _ (by rw [HS0.out]; omega)).trans HG.out.2.2.1, (hW.block _ (by rw [HS0.out]; omega)).trans HG.out.2.2.2.1, (hW.block _ (by rw [HS0.out]; omega)).trans HG.out.2.2.2.2⟩
  have HK := Lib.hid K
  have hj0 := j0 W0 (Below.refl _ _)
  rw [hW0] at hj0
  clear K j0
  go_enter Tryd.func4, Tryd.ntmps4
  go_wp2_with fail
  refine hj0.mono ?_
  rintro e w1 ⟨rfl, hb1⟩
  rw [← hW0] at hb1
  have HB1 := Lib.hid hb1
  obtain ⟨k2, k3, k4, k5⟩ := HK.out w1 hb1
  obtain ⟨v0, v1, v2, v3, v4⟩ := cells5 k2
  obtain ⟨x0, x1, x2, x3, x4, x5, x6, x7, x8, x9, x10⟩ := cells11b k3
  obtain ⟨y0, y1, y2, y3, y4, y5, y6, y7, y8, y9, y10⟩ := cells11b k4
  obtain ⟨z0, z1, z2, z3, z4, z5, z6, z7, z8, z9, z10⟩ := cells11b k5
  clear k2 k3 k4 k5
  go_wp2_with fail
  have hb1a : Below W0.heap.size W0 (w1.alloc (.cells (flatK [actP 0 1, actP 0 2, actP 1 1]).toArray 35)) := HB1.out.alloc HB1.out.size _
  refine (j1 _ _ hb1a (heap_alloc_new w1 _)).mono ?_
  rintro e w2 ⟨rfl, hb2⟩
  have hb12 : Below W0.heap.size W0 w2 := hb1a.trans (hb2.mono hb1a.size)
  have HB12 := Lib.hid hb12
  obtain ⟨k2, k3, k4, k5⟩ := HK.out w2 hb12
  clear v0 v1 v2 v3 v4 x0 x1 x2 x3 x4 x5 x6 x7 x8 x9 x10 y0 y1 y2 y3 y4 y5 y6 y7 y8 y9 y10 z0 z1 z2 z3 z4 z5 z6 z7 z8 z9 z10 hb1a hb2 hb12
  obtain ⟨v0, v1, v2, v3, v4⟩ := cells5 k2
  obtain ⟨x0, x1, x2, x3, x4, x5, x6, x7, x8, x9, x10⟩ := cells11b k3
  obtain ⟨y0, y1, y2, y3, y4, y5, y6, y7, y8, y9, y10⟩ := cells11b k4
  clear k2 k3 k4 k5
  go_wp2_with fail
  have hb2a : Below W0.heap.size W0 (w2.alloc (.cells (flatK [actP 0 1, actP 1 1]).toArray 35)) := HB12.out.alloc HB12.out.size _
  refine (j2 _ _ hb2a (heap_alloc_new w2 _)).mono ?_
  rintro e w3 ⟨rfl, hb3⟩
  have HB3 := Lib.hid (hb2a.trans (hb3.mono hb2a.size))
  clear v0 v1 v2 v3 v4 x0 x1 x2 x3 x4 x5 x6 x7 x8 x9 x10 y0 y1 y2 y3 y4 y5 y6 y7 y8 y9 y10 hb2a hb3 j1 j2
  go_wp2_with fail
  go_ret
  exact ⟨rfl, HB0.out.trans (HB3.out.mono HB0.out.size)⟩

end Go.Proofs.YtfemeiopfpblaaaDoor.As
