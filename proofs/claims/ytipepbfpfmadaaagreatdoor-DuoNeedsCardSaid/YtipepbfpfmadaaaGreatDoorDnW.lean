/- The walk of duo.Weak. -/
import Derived.Test.YtipepbfpfmadaaaGreatDoorGb
set_option linter.unusedVariables false
set_option linter.unusedSimpArgs false
set_option maxRecDepth 20000
namespace Go.Proofs.YtipepbfpfmadaaaGreatDoor.As.T
open Go.RowKit

def weak1 (i : Ins) : Ins := if i.op = 18 then { i with op := 26 } else if i.op = 25 then { i with op := 18 } else i
/-- A slice of instructions that came in. -/
def InS (w : World) (v : Value) (n : Nat) (l : List Ins) : Prop :=
  l.length = n ∧ ∃ A cap, v = .slice A n cap ∧ (0 < n → ∃ b off, A = some ⟨b, off, none⟩ ∧ b < w.heap.size ∧ ∀ j u, (flat l)[j]? = some u → w.cell? ⟨b, off + j, none⟩ = some u)
theorem InS.at {w : World} {A : Option Addr} {n cap i : Nat} {l : List Ins} {x : Ins} (h : InS w (.slice A n cap) n l) (hx : l[i]? = some x) :
    ∃ b off, A = some ⟨b, off, none⟩ ∧ b < w.heap.size ∧ w.cell? ⟨b, off + i * 5, none⟩ = some (.int .i64 x.op) ∧ w.cell? ⟨b, off + i * 5 + 1, none⟩ = some (.int .i64 x.a) ∧ w.cell? ⟨b, off + i * 5 + 2, none⟩ = some (.int .i64 x.b) ∧ w.cell? ⟨b, off + i * 5 + 3, none⟩ = some (.int .i64 x.c) ∧ w.cell? ⟨b, off + i * 5 + 4, none⟩ = some (.int .u32 x.k) := by
  obtain ⟨hl, A', cap', e, h⟩ := h
  injection e with e1 e2 e3
  subst e1
  have hi : i < l.length := (List.getElem?_eq_some_iff.1 hx).1
  obtain ⟨b, off, rfl, hb, hc⟩ := h (by omega)
  have g := fun j hj => flat_get l i x hx j hj
  exact ⟨b, off, rfl, hb, hc _ _ (g 0 (by decide)), hc _ _ (g 1 (by decide)), hc _ _ (g 2 (by decide)), hc _ _ (g 3 (by decide)), hc _ _ (g 4 (by decide))⟩
theorem InS.below {w w' : World} {B : Nat} {v : Value} {n : Nat} {l : List Ins} (h : InS w v n l) (hb : Below B w w') (hB : w.heap.size ≤ B) : InS w' v n l := by
  obtain ⟨hl, A, cap, rfl, h⟩ := h
  refine ⟨hl, A, cap, rfl, fun hn => ?_⟩
  obtain ⟨b, off, rfl, hlt, hc⟩ := h hn
  exact ⟨b, off, rfl, Nat.lt_of_lt_of_le hlt hb.size, fun j u hu => (hb.cell (p := ⟨b, off + j, none⟩) (Nat.lt_of_lt_of_le hlt hB)).trans (hc j u hu)⟩



theorem weak_cells (x : Ins) : (weak1 x).cells = [.int .i64 (weak1 x).op, .int .i64 x.a, .int .i64 x.b, .int .i64 x.c, .int .u32 x.k] := by
  unfold weak1 Ins.cells
  split
  · rfl
  · split <;> rfl
/-- Five cells of a row, stored one by one. -/
def set5 (arr : Array Value) (i : Nat) (v0 v1 v2 v3 v4 : Value) : Array Value := ((((arr.setIfInBounds i v0).setIfInBounds (i + 1) v1).setIfInBounds (i + 2) v2).setIfInBounds (i + 3) v3).setIfInBounds (i + 4) v4
theorem set5_size (arr : Array Value) (i : Nat) (v0 v1 v2 v3 v4 : Value) : (set5 arr i v0 v1 v2 v3 v4).size = arr.size := by simp [set5]
theorem set5_get (arr : Array Value) (i j : Nat) (v0 v1 v2 v3 v4 : Value) (h : i + 5 ≤ arr.size) : (set5 arr i v0 v1 v2 v3 v4)[j]? = if i ≤ j ∧ j < i + 5 then [v0, v1, v2, v3, v4][j - i]? else arr[j]? := by
  unfold set5
  by_cases h1 : i ≤ j ∧ j < i + 5
  · rw [if_pos h1]
    obtain ⟨q, rfl⟩ : ∃ q, j = i + q := ⟨j - i, by omega⟩
    have hq : q = 0 ∨ q = 1 ∨ q = 2 ∨ q = 3 ∨ q = 4 := by omega
    have hs : i + q < arr.size := by omega
    rcases hq with rfl | rfl | rfl | rfl | rfl <;> simp [Array.getElem?_setIfInBounds] <;> omega
  · rw [if_neg h1]
    have n0 : ¬ i = j := by omega
    have n1 : ¬ i + 1 = j := by omega
    have n2 : ¬ i + 2 = j := by omega
    have n3 : ¬ i + 3 = j := by omega
    have n4 : ¬ i + 4 = j := by omega
    simp [Array.getElem?_setIfInBounds, n0, n1, n2, n3, n4]
theorem set5_row {w : World} {g : Nat} {arr : Array Value} {t : TypeId} (h : w.heap[g]? = some (.cells arr t (0, 0))) (i : Nat) (v0 v1 v2 v3 v4 : Value) :
    (((((w.setCell ⟨g, i, none⟩ v0).setCell ⟨g, i + 1, none⟩ v1).setCell ⟨g, i + 2, none⟩ v2).setCell ⟨g, i + 3, none⟩ v3).setCell ⟨g, i + 4, none⟩ v4).heap[g]? = some (.cells (set5 arr i v0 v1 v2 v3 v4) t (0, 0)) :=
  heap_setCell_same _ g _ _ t _ (heap_setCell_same _ g _ _ t _ (heap_setCell_same _ g _ _ t _ (heap_setCell_same _ g _ _ t _ (heap_setCell_same _ g _ _ t _ h))))
theorem set5_below {B : Nat} {w w' : World} {g : Nat} (h : Below B w w') (hg : B ≤ g) (i : Nat) (v0 v1 v2 v3 v4 : Value) :
    Below B w (((((w'.setCell ⟨g, i, none⟩ v0).setCell ⟨g, i + 1, none⟩ v1).setCell ⟨g, i + 2, none⟩ v2).setCell ⟨g, i + 3, none⟩ v3).setCell ⟨g, i + 4, none⟩ v4) :=
  ((((h.setCell hg _).setCell hg _).setCell hg _).setCell hg _).setCell hg _
theorem map_at {l : List Ins} {k : Nat} {x : Ins} (h : l[k]? = some x) : (l.map weak1)[k]? = some (weak1 x) := by rw [List.getElem?_map, h]; rfl
theorem row_more {arr : Array Value} {l : List Ins} {n k : Nat} {x : Ins} (hs : arr.size = n * 5) (hk : k < n) (hx : l[k]? = some x) (h : ∀ j, j < k * 5 → arr[j]? = (flat (l.map weak1))[j]?) (y : Ins) (hy : y = weak1 x) :
    (set5 arr (k * 5) (.int .i64 y.op) (.int .i64 x.a) (.int .i64 x.b) (.int .i64 x.c) (.int .u32 x.k)).size = n * 5 ∧ ∀ j, j < (k + 1) * 5 → (set5 arr (k * 5) (.int .i64 y.op) (.int .i64 x.a) (.int .i64 x.b) (.int .i64 x.c) (.int .u32 x.k))[j]? = (flat (l.map weak1))[j]? := by
  refine ⟨by rw [set5_size]; exact hs, fun j hj => ?_⟩
  subst hy
  rw [set5_get _ _ _ _ _ _ _ _ (by omega)]
  split
  · next hc =>
    obtain ⟨q, rfl⟩ : ∃ q, j = k * 5 + q := ⟨j - k * 5, by omega⟩
    rw [flat_get _ k _ (map_at hx) q (by omega), weak_cells, show k * 5 + q - k * 5 = q from by omega]
  · next hc => exact h j (by omega)

set_option maxHeartbeats 4000000 in
theorem weak_any (w : World) (v : Value) (n : Nat) (l : List Ins) (h : InS w v n l) (hn : n ≤ 3000) :
    Calls Tryz.prog 20 #[v] w fun e w' => ∃ u, e = .returned u ∧ w'.ownsRow w.heap.size 74 5 u n (flat (l.map weak1)) ∧ Below w.heap.size w w' := by
  have HI := Lib.hid h
  obtain ⟨hl, A, cap, rfl, hc⟩ := h
  have hle : (n : Int) ≤ 3000 := by omega
  obtain ⟨i0, hi, hz0, hz1, hz2⟩ := info_parts infoI
  clear hc
  go_enter Tryz.func20, Tryz.ntmps20
  go_wp2_with (at_make; refine wpList_make_full w rfl (.tmp 7) (.tmp 7) 58 rfl w.heap.size 74 i0 _ 5 Tryz.underlying58 hi hz0 hz1 .i64 .i64 n n n rfl rfl rfl rfl (by rw [hz2]; omega) (by unfold maxLen; omega) (Nat.le_refl _) ?_; intro w1 ho hgr)
  have hb1 : Below w.heap.size w w1 := (Below.refl w.heap.size w).grown hgr (Nat.le_refl _) (fun k hk => by cases hk)
  obtain ⟨g', cap', arr, e1, hbg, hrow, hnc, hcm, hcs, htk⟩ : ∃ g' cap' arr, (Value.slice (some ⟨w.heap.size, 0, none⟩) n n) = .slice (some ⟨g', 0, none⟩) n cap' ∧ w.heap.size ≤ g' ∧ w1.heap[g']? = some (.cells arr 74 (0, 0)) ∧ n ≤ cap' ∧ cap' ≤ maxLen ∧ arr.size = cap' * 5 ∧ arr.toList.take (n * 5) = _ := by
    rcases ho.2 with ⟨h', _⟩ | h'
    · simp at h'
    · exact h'
  simp only [Value.slice.injEq, Option.some.injEq, Addr.mk.injEq, and_true, true_and] at e1
  obtain ⟨rfl, rfl⟩ := e1
  have HS := Lib.hid hcs
  have HR := Lib.hid hrow
  have HB := Lib.hid hb1
  have hlt1 : w.heap.size < w1.heap.size := (Array.getElem?_eq_some_iff.1 hrow).1
  clear hcs hrow hb1 ho hgr htk hbg
  go_wp2_with fail
  go_loopw [11] (fun iv wr => ∃ (k : Nat) (arr : Array Value), k ≤ n ∧ iv = .int .i64 k ∧ Hid (arr.size = n * 5) ∧ Hid (∀ j, j < k * 5 → arr[j]? = (flat (l.map weak1))[j]?) ∧ Hid (wr.heap[w.heap.size]? = some (.cells arr 74 (0, 0))) ∧ Hid (Below w.heap.size w wr)) (fun i _ => n - (intOf i).toNat)
  case atStart => exact ⟨0, arr, by omega, rfl, HS, fun j hj => by omega, HR, HB⟩
  case round =>
    clear HS HR HB hlt1
    obtain ⟨k, arr, hkn, rfl, HS, HQ, HR, HB⟩ := hrel
    by_cases hlt : k < n
    · obtain ⟨x, hx⟩ : ∃ x, l[k]? = some x := ⟨_, List.getElem?_eq_getElem (by omega)⟩
      obtain ⟨b, off, rfl, hbl, a0, a1, a2, a3, a4⟩ := InS.at HI.out hx
      have HX := Lib.hid hx
      clear hx
      have hgw : w.heap.size < wr.heap.size := (Array.getElem?_eq_some_iff.1 HR.out).1
      have hbw : b < wr.heap.size := by omega
      have hne : ¬ wr.heap.size = w.heap.size := by omega
      have hne2 : ¬ w.heap.size = wr.heap.size := by omega

      have x0 : wr.cell? ⟨b, off + k * 5, none⟩ = some (.int .i64 x.op) := (HB.out.cell (p := ⟨b, off + k * 5, none⟩) hbl).trans a0
      obtain ⟨u0, o0⟩ : ∃ u, wr.cell? ⟨w.heap.size, k * 5, none⟩ = some u := ⟨_, (cell_of_row wr w.heap.size (k * 5) arr _ _ HR.out).trans (Array.getElem?_eq_getElem (by have := HS.out; omega))⟩
      have z0 : wr.frozen? ⟨w.heap.size, k * 5, none⟩ = false := frozen_of_row wr w.heap.size _ arr _ HR.out
      have x1 : wr.cell? ⟨b, off + k * 5 + 1, none⟩ = some (.int .i64 x.a) := (HB.out.cell (p := ⟨b, off + k * 5 + 1, none⟩) hbl).trans a1
      obtain ⟨u1, o1⟩ : ∃ u, wr.cell? ⟨w.heap.size, k * 5 + 1, none⟩ = some u := ⟨_, (cell_of_row wr w.heap.size (k * 5 + 1) arr _ _ HR.out).trans (Array.getElem?_eq_getElem (by have := HS.out; omega))⟩
      have z1 : wr.frozen? ⟨w.heap.size, k * 5 + 1, none⟩ = false := frozen_of_row wr w.heap.size _ arr _ HR.out
      have x2 : wr.cell? ⟨b, off + k * 5 + 2, none⟩ = some (.int .i64 x.b) := (HB.out.cell (p := ⟨b, off + k * 5 + 2, none⟩) hbl).trans a2
      obtain ⟨u2, o2⟩ : ∃ u, wr.cell? ⟨w.heap.size, k * 5 + 2, none⟩ = some u := ⟨_, (cell_of_row wr w.heap.size (k * 5 + 2) arr _ _ HR.out).trans (Array.getElem?_eq_getElem (by have := HS.out; omega))⟩
      have z2 : wr.frozen? ⟨w.heap.size, k * 5 + 2, none⟩ = false := frozen_of_row wr w.heap.size _ arr _ HR.out
      have x3 : wr.cell? ⟨b, off + k * 5 + 3, none⟩ = some (.int .i64 x.c) := (HB.out.cell (p := ⟨b, off + k * 5 + 3, none⟩) hbl).trans a3
      obtain ⟨u3, o3⟩ : ∃ u, wr.cell? ⟨w.heap.size, k * 5 + 3, none⟩ = some u := ⟨_, (cell_of_row wr w.heap.size (k * 5 + 3) arr _ _ HR.out).trans (Array.getElem?_eq_getElem (by have := HS.out; omega))⟩
      have z3 : wr.frozen? ⟨w.heap.size, k * 5 + 3, none⟩ = false := frozen_of_row wr w.heap.size _ arr _ HR.out
      have x4 : wr.cell? ⟨b, off + k * 5 + 4, none⟩ = some (.int .u32 x.k) := (HB.out.cell (p := ⟨b, off + k * 5 + 4, none⟩) hbl).trans a4
      obtain ⟨u4, o4⟩ : ∃ u, wr.cell? ⟨w.heap.size, k * 5 + 4, none⟩ = some u := ⟨_, (cell_of_row wr w.heap.size (k * 5 + 4) arr _ _ HR.out).trans (Array.getElem?_eq_getElem (by have := HS.out; omega))⟩
      have z4 : wr.frozen? ⟨w.heap.size, k * 5 + 4, none⟩ = false := frozen_of_row wr w.heap.size _ arr _ HR.out
      clear a0 a1 a2 a3 a4
      by_cases h18 : x.op = 18
      · have d18 : (x.op == 18) = true := by simp [h18]
        go_wp2_with fail
        have hm := row_more HS.out hlt HX.out HQ.out ⟨26, x.a, x.b, x.c, x.k⟩ (by unfold weak1; rw [if_pos h18])
        exact ⟨⟨k + 1, set5 arr (k * 5) (.int .i64 26) (.int .i64 x.a) (.int .i64 x.b) (.int .i64 x.c) (.int .u32 x.k), by omega, by simp, hm.1, hm.2, (Below.heap_alloc _ _ _ (Array.getElem?_eq_some_iff.1 (set5_row HR.out (k * 5) _ _ _ _ _)).1).trans (set5_row HR.out (k * 5) _ _ _ _ _), (set5_below HB.out (Nat.le_refl _) (k * 5) _ _ _ _ _).alloc (set5_below HB.out (Nat.le_refl _) (k * 5) _ _ _ _ _).size _⟩, by simp [intOf]; omega⟩
      · have d18 : (x.op == 18) = false := by simp [h18]
        by_cases h25 : x.op = 25
        · have d25 : (x.op == 25) = true := by simp [h25]
          go_wp2_with fail
          have hm := row_more HS.out hlt HX.out HQ.out ⟨18, x.a, x.b, x.c, x.k⟩ (by unfold weak1; rw [if_neg h18, if_pos h25])
          exact ⟨⟨k + 1, set5 arr (k * 5) (.int .i64 18) (.int .i64 x.a) (.int .i64 x.b) (.int .i64 x.c) (.int .u32 x.k), by omega, by simp, hm.1, hm.2, (Below.heap_alloc _ _ _ (Array.getElem?_eq_some_iff.1 (set5_row HR.out (k * 5) _ _ _ _ _)).1).trans (set5_row HR.out (k * 5) _ _ _ _ _), (set5_below HB.out (Nat.le_refl _) (k * 5) _ _ _ _ _).alloc (set5_below HB.out (Nat.le_refl _) (k * 5) _ _ _ _ _).size _⟩, by simp [intOf]; omega⟩
        · have d25 : (x.op == 25) = false := by simp [h25]
          go_wp2_with fail
          have hm := row_more HS.out hlt HX.out HQ.out x (by unfold weak1; rw [if_neg h18, if_neg h25])
          exact ⟨⟨k + 1, set5 arr (k * 5) (.int .i64 x.op) (.int .i64 x.a) (.int .i64 x.b) (.int .i64 x.c) (.int .u32 x.k), by omega, by simp, hm.1, hm.2, (Below.heap_alloc _ _ _ (Array.getElem?_eq_some_iff.1 (set5_row HR.out (k * 5) _ _ _ _ _)).1).trans (set5_row HR.out (k * 5) _ _ _ _ _), (set5_below HB.out (Nat.le_refl _) (k * 5) _ _ _ _ _).alloc (set5_below HB.out (Nat.le_refl _) (k * 5) _ _ _ _ _).size _⟩, by simp [intOf]; omega⟩
    · have hkk : k = n := by omega
      subst hkk
      go_wp2_with fail
      go_ret
      have hfl : (flat (l.map weak1)).length = k * 5 := by rw [flat_len, List.length_map, hl]
      refine ⟨_, rfl, ⟨hfl, .inr ⟨w.heap.size, k, arr, rfl, Nat.le_refl _, HR.out, Nat.le_refl _, by unfold maxLen; omega, HS.out, ?_⟩⟩, HB.out⟩
      apply List.ext_getElem?
      intro j
      rw [List.getElem?_take]
      split
      · next hj => rw [Array.getElem?_toList]; exact HQ.out j hj
      · next hj => rw [List.getElem?_eq_none (by omega)]
end Go.Proofs.YtipepbfpfmadaaaGreatDoor.As.T
