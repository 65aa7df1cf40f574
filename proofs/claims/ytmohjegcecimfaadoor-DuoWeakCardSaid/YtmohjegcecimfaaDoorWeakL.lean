/- The walk of duo.Weak; a slice of instructions that came in. A slice of instructions that comes in, opened. The walk of the law DuoWeak. -/
import Derived.Test.YtmohjegcecimfaaDoorBlk
import Derived.Test.YtmohjegcecimfaaDoorCode
import Derived.Test.YtmohjegcecimfaaDoorSame
import Derived.Test.YtmohjegcecimfaaDoorLaid
import Derived.Deep.Slices
import Derived.Test.YtmohjegcecimfaaDoorDuoLaw
set_option linter.unusedVariables false
set_option linter.unusedSimpArgs false
set_option maxRecDepth 20000
namespace Go.Proofs.YtmohjegcecimfaaDoor.As
open Go.RowKit

def weak1 (i : Ins) : Ins := if i.op = 18 then { i with op := 26 } else if i.op = 25 then { i with op := 18 } else i
/-- A slice of instructions that came in. -/
def InS (w : World) (v : Value) (n : Nat) (l : List Ins) : Prop :=
  l.length = n ∧ ∃ A cap, v = .slice A n cap ∧ (0 < n → ∃ b off, A = some ⟨b, off, none⟩ ∧ b < w.heap.size ∧ ∀ j u, (flat l)[j]? = some u → w.cell? ⟨b, off + j, none⟩ = some u)
theorem InS.at {w : World} {A : Option Addr} {n cap i : Nat} {l : List Ins} {x : Ins} (h : InS w (.slice A n cap) n l) (hx : l[i]? = some x) :
    ∃ b off, A = some ⟨b, off, none⟩ ∧ b < w.heap.size ∧ w.cell? ⟨b, off + i * 5, none⟩ = some (.int .i64 x.op) ∧ w.cell? ⟨b, off + i * 5 + 1, none⟩ = some (.int .i64 x.a) ∧ w.cell? ⟨b, off + i * 5 + 2, none⟩ = some (.int .i64 x.b) ∧ w.cell? ⟨b, off + i * 5 + 3, none⟩ = some (.int .i64 x.c) ∧ w.cell? ⟨b, off + i * 5 + 4, none⟩ = some (.int .u32 x.k) := by
  obtain ⟨hl, A', cap', e, h⟩ := h
  injection e with e1 e2 e3
  subst e1
  have hi : i < l.length := (List.getElem?_eq_some_iff.1 hx).1
  obtain ⟨b, off, rfl, hb, hc⟩ := h (by omega)
  have g := fun j hj => flat_get l i x hx j hj
  exact ⟨b, off, rfl, hb, hc _ _ (g 0 (by decide)), hc _ _ (g 1 (by decide)), hc _ _ (g 2 (by decide)), hc _ _ (g 3 (by decide)), hc _ _ (g 4 (by decide))⟩
theorem InS.below {w w' : World} {B : Nat} {v : Value} {n : Nat} {l : List Ins} (h : InS w v n l) (hb : Below B w w') (hB : w.heap.size ≤ B) : InS w' v n l := by
  obtain ⟨hl, A, cap, rfl, h⟩ := h
  refine ⟨hl, A, cap, rfl, fun hn => ?_⟩
  obtain ⟨b, off, rfl, hlt, hc⟩ := h hn
  exact ⟨b, off, rfl, Nat.lt_of_lt_of_le hlt hb.size, fun j u hu => (hb.cell (p := ⟨b, off + j, none⟩) (Nat.lt_of_lt_of_le hlt hB)).trans (hc j u hu)⟩



theorem weak_cells (x : Ins) : (weak1 x).cells = [.int .i64 (weak1 x).op, .int .i64 x.a, .int .i64 x.b, .int .i64 x.c, .int .u32 x.k] := by
  unfold weak1 Ins.cells
  split
  · rfl
  · split <;> rfl
/-- Five cells of a row, stored one by one. -/
def set5 (arr : Array Value) (i : Nat) (v0 v1 v2 v3 v4 : Value) : Array Value := ((((arr.setIfInBounds i v0).setIfInBounds (i + 1) v1).setIfInBounds (i + 2) v2).setIfInBounds (i + 3) v3).setIfInBounds (i + 4) v4
theorem set5_size (arr : Array Value) (i : Nat) (v0 v1 v2 v3 v4 : Value) : (set5 arr i v0 v1 v2 v3 v4).size = arr.size := by simp [set5]
theorem set5_get (arr : Array Value) (i j : Nat) (v0 v1 v2 v3 v4 : Value) (h : i + 5 ≤ arr.size) : (set5 arr i v0 v1 v2 v3 v4)[j]? = if i ≤ j ∧ j < i + 5 then [v0, v1, v2, v3, v4][j - i]? else arr[j]? := by
  unfold set5
  by_cases h1 : i ≤ j ∧ j < i + 5
  · rw [if_pos h1]
    obtain ⟨q, rfl⟩ : ∃ q, j = i + q := ⟨j - i, by omega⟩
    have hq : q = 0 ∨ q = 1 ∨ q = 2 ∨ q = 3 ∨ q = 4 := by omega
    have hs : i + q < arr.size := by omega
    rcases hq with rfl | rfl | rfl | rfl | rfl <;> simp [Array.getElem?_setIfInBounds] <;> omega
  · rw [if_neg h1]
    have n0 : ¬ i = j := by omega
    have n1 : ¬ i + 1 = j := by omega
    have n2 : ¬ i + 2 = j := by omega
    have n3 : ¬ i + 3 = j := by omega
    have n4 : ¬ i + 4 = j := by omega
    simp [Array.getElem?_setIfInBounds, n0, n1, n2, n3, n4]
theorem set5_row {w : World} {g : Nat} {arr : Array Value} {t : TypeId} (h : w.heap[g]? = some (.cells arr t (0, 0))) (i : Nat) (v0 v1 v2 v3 v4 : Value) :
    (((((w.setCell ⟨g, i, none⟩ v0).setCell ⟨g, i + 1, none⟩ v1).setCell ⟨g, i + 2, none⟩ v2).setCell ⟨g, i + 3, none⟩ v3).setCell ⟨g, i + 4, none⟩ v4).heap[g]? = some (.cells (set5 arr i v0 v1 v2 v3 v4) t (0, 0)) :=
  heap_setCell_same _ g _ _ t _ (heap_setCell_same _ g _ _ t _ (heap_setCell_same _ g _ _ t _ (heap_setCell_same _ g _ _ t _ (heap_setCell_same _ g _ _ t _ h))))
theorem set5_below {B : Nat} {w w' : World} {g : Nat} (h : Below B w w') (hg : B ≤ g) (i : Nat) (v0 v1 v2 v3 v4 : Value) :
    Below B w (((((w'.setCell ⟨g, i, none⟩ v0).setCell ⟨g, i + 1, none⟩ v1).setCell ⟨g, i + 2, none⟩ v2).setCell ⟨g, i + 3, none⟩ v3).setCell ⟨g, i + 4, none⟩ v4) :=
  ((((h.setCell hg _).setCell hg _).setCell hg _).setCell hg _).setCell hg _
theorem map_at {l : List Ins} {k : Nat} {x : Ins} (h : l[k]? = some x) : (l.map weak1)[k]? = some (weak1 x) := by rw [List.getElem?_map, h]; rfl
theorem row_more {arr : Array Value} {l : List Ins} {n k : Nat} {x : Ins} (hs : arr.size = n * 5) (hk : k < n) (hx : l[k]? = some x) (h : ∀ j, j < k * 5 → arr[j]? = (flat (l.map weak1))[j]?) (y : Ins) (hy : y = weak1 x) :
    (set5 arr (k * 5) (.int .i64 y.op) (.int .i64 x.a) (.int .i64 x.b) (.int .i64 x.c) (.int .u32 x.k)).size = n * 5 ∧ ∀ j, j < (k + 1) * 5 → (set5 arr (k * 5) (.int .i64 y.op) (.int .i64 x.a) (.int .i64 x.b) (.int .i64 x.c) (.int .u32 x.k))[j]? = (flat (l.map weak1))[j]? := by
  refine ⟨by rw [set5_size]; exact hs, fun j hj => ?_⟩
  subst hy
  rw [set5_get _ _ _ _ _ _ _ _ (by omega)]
  split
  · next hc =>
    obtain ⟨q, rfl⟩ : ∃ q, j = k * 5 + q := ⟨j - k * 5, by omega⟩
    rw [flat_get _ k _ (map_at hx) q (by omega), weak_cells, show k * 5 + q - k * 5 = q from by omega]
  · next hc => exact h j (by omega)

set_option maxHeartbeats 4000000 in
theorem weak_any (w : World) (v : Value) (n : Nat) (l : List Ins) (h : InS w v n l) (hn : n ≤ 3000) :
    Calls Tryd.prog 31 #[v] w fun e w' => ∃ u, e = .returned u ∧ w'.ownsRow w.heap.size 55 5 u n (flat (l.map weak1)) ∧ Below w.heap.size w w' := by
  have HI := Lib.hid h
  obtain ⟨hl, A, cap, rfl, hc⟩ := h
  have hle : (n : Int) ≤ 3000 := by omega
  obtain ⟨i0, hi, hz0, hz1, hz2⟩ := info_parts infoI
  clear hc
  go_enter Tryd.func31, Tryd.ntmps31
  go_wp2_with (at_make; refine wpList_make_full w rfl (.tmp 7) (.tmp 7) 29 rfl w.heap.size 55 i0 _ 5 Tryd.underlying29 hi hz0 hz1 .i64 .i64 n n n rfl rfl rfl rfl (by rw [hz2]; omega) (by unfold maxLen; omega) (Nat.le_refl _) ?_; intro w1 ho hgr)
  have hb1 : Below w.heap.size w w1 := (Below.refl w.heap.size w).grown hgr (Nat.le_refl _) (fun k hk => by cases hk)
  obtain ⟨g', cap', arr, e1, hbg, hrow, hnc, hcm, hcs, htk⟩ : ∃ g' cap' arr, (Value.slice (some ⟨w.heap.size, 0, none⟩) n n) = .slice (some ⟨g', 0, none⟩) n cap' ∧ w.heap.size ≤ g' ∧ w1.heap[g']? = some (.cells arr 55 (0, 0)) ∧ n ≤ cap' ∧ cap' ≤ maxLen ∧ arr.size = cap' * 5 ∧ arr.toList.take (n * 5) = _ := by
    rcases ho.2 with ⟨h', _⟩ | h'
    · simp at h'
    · exact h'
  simp only [Value.slice.injEq, Option.some.injEq, Addr.mk.injEq, and_true, true_and] at e1
  obtain ⟨rfl, rfl⟩ := e1
  have HS := Lib.hid hcs
  have HR := Lib.hid hrow
  have HB := Lib.hid hb1
  have hlt1 : w.heap.size < w1.heap.size := (Array.getElem?_eq_some_iff.1 hrow).1
  clear hcs hrow hb1 ho hgr htk hbg
  go_wp2_with fail
  go_loopw [11] (fun iv wr => ∃ (k : Nat) (arr : Array Value), k ≤ n ∧ iv = .int .i64 k ∧ Hid (arr.size = n * 5) ∧ Hid (∀ j, j < k * 5 → arr[j]? = (flat (l.map weak1))[j]?) ∧ Hid (wr.heap[w.heap.size]? = some (.cells arr 55 (0, 0))) ∧ Hid (Below w.heap.size w wr)) (fun i _ => n - (intOf i).toNat)
  case atStart => exact ⟨0, arr, by omega, rfl, HS, fun j hj => by omega, HR, HB⟩
  case round =>
    clear HS HR HB hlt1
    obtain ⟨k, arr, hkn, rfl, HS, HQ, HR, HB⟩ := hrel
    by_cases hlt : k < n
    · obtain ⟨x, hx⟩ : ∃ x, l[k]? = some x := ⟨_, List.getElem?_eq_getElem (by omega)⟩
      obtain ⟨b, off, rfl, hbl, a0, a1, a2, a3, a4⟩ := InS.at HI.out hx
      have HX := Lib.hid hx
      clear hx
      have hgw : w.heap.size < wr.heap.size := (Array.getElem?_eq_some_iff.1 HR.out).1
      have hbw : b < wr.heap.size := by omega
      have hne : ¬ wr.heap.size = w.heap.size := by omega
      have hne2 : ¬ w.heap.size = wr.heap.size := by omega

      have x0 : wr.cell? ⟨b, off + k * 5, none⟩ = some (.int .i64 x.op) := (HB.out.cell (p := ⟨b, off + k * 5, none⟩) hbl).trans a0
      obtain ⟨u0, o0⟩ : ∃ u, wr.cell? ⟨w.heap.size, k * 5, none⟩ = some u := ⟨_, (cell_of_row wr w.heap.size (k * 5) arr _ _ HR.out).trans (Array.getElem?_eq_getElem (by have := HS.out; omega))⟩
      have z0 : wr.frozen? ⟨w.heap.size, k * 5, none⟩ = false := frozen_of_row wr w.heap.size _ arr _ HR.out
      have x1 : wr.cell? ⟨b, off + k * 5 + 1, none⟩ = some (.int .i64 x.a) := (HB.out.cell (p := ⟨b, off + k * 5 + 1, none⟩) hbl).trans a1
      obtain ⟨u1, o1⟩ : ∃ u, wr.cell? ⟨w.heap.size, k * 5 + 1, none⟩ = some u := ⟨_, (cell_of_row wr w.heap.size (k * 5 + 1) arr _ _ HR.out).trans (Array.getElem?_eq_getElem (by have := HS.out; omega))⟩
      have z1 : wr.frozen? ⟨w.heap.size, k * 5 + 1, none⟩ = false := frozen_of_row wr w.heap.size _ arr _ HR.out
      have x2 : wr.cell? ⟨b, off + k * 5 + 2, none⟩ = some (.int .i64 x.b) := (HB.out.cell (p := ⟨b, off + k * 5 + 2, none⟩) hbl).trans a2
      obtain ⟨u2, o2⟩ : ∃ u, wr.cell? ⟨w.heap.size, k * 5 + 2, none⟩ = some u := ⟨_, (cell_of_row wr w.heap.size (k * 5 + 2) arr _ _ HR.out).trans (Array.getElem?_eq_getElem (by have := HS.out; omega))⟩
      have z2 : wr.frozen? ⟨w.heap.size, k * 5 + 2, none⟩ = false := frozen_of_row wr w.heap.size _ arr _ HR.out
      have x3 : wr.cell? ⟨b, off + k * 5 + 3, none⟩ = some (.int .i64 x.c) := (HB.out.cell (p := ⟨b, off + k * 5 + 3, none⟩) hbl).trans a3
      obtain ⟨u3, o3⟩ : ∃ u, wr.cell? ⟨w.heap.size, k * 5 + 3, none⟩ = some u := ⟨_, (cell_of_row wr w.heap.size (k * 5 + 3) arr _ _ HR.out).trans (Array.getElem?_eq_getElem (by have := HS.out; omega))⟩
      have z3 : wr.frozen? ⟨w.heap.size, k * 5 + 3, none⟩ = false := frozen_of_row wr w.heap.size _ arr _ HR.out
      have x4 : wr.cell? ⟨b, off + k * 5 + 4, none⟩ = some (.int .u32 x.k) := (HB.out.cell (p := ⟨b, off + k * 5 + 4, none⟩) hbl).trans a4
      obtain ⟨u4, o4⟩ : ∃ u, wr.cell? ⟨w.heap.size, k * 5 + 4, none⟩ = some u := ⟨_, (cell_of_row wr w.heap.size (k * 5 + 4) arr _ _ HR.out).trans (Array.getElem?_eq_getElem (by have := HS.out; omega))⟩
      have z4 : wr.frozen? ⟨w.heap.size, k * 5 + 4, none⟩ = false := frozen_of_row wr w.heap.size _ arr _ HR.out
      clear a0 a1 a2 a3 a4
      by_cases h18 : x.op = 18
      · have d18 : (x.op == 18) = true := by simp [h18]
        go_wp2_with fail
        have hm := row_more HS.out hlt HX.out HQ.out ⟨26, x.a, x.b, x.c, x.k⟩ (by unfold weak1; rw [if_pos h18])
        exact ⟨⟨k + 1, set5 arr (k * 5) (.int .i64 26) (.int .i64 x.a) (.int .i64 x.b) (.int .i64 x.c) (.int .u32 x.k), by omega, by simp, hm.1, hm.2, (Below.heap_alloc _ _ _ (Array.getElem?_eq_some_iff.1 (set5_row HR.out (k * 5) _ _ _ _ _)).1).trans (set5_row HR.out (k * 5) _ _ _ _ _), (set5_below HB.out (Nat.le_refl _) (k * 5) _ _ _ _ _).alloc (set5_below HB.out (Nat.le_refl _) (k * 5) _ _ _ _ _).size _⟩, by simp [intOf]; omega⟩
      · have d18 : (x.op == 18) = false := by simp [h18]
        by_cases h25 : x.op = 25
        · have d25 : (x.op == 25) = true := by simp [h25]
          go_wp2_with fail
          have hm := row_more HS.out hlt HX.out HQ.out ⟨18, x.a, x.b, x.c, x.k⟩ (by unfold weak1; rw [if_neg h18, if_pos h25])
          exact ⟨⟨k + 1, set5 arr (k * 5) (.int .i64 18) (.int .i64 x.a) (.int .i64 x.b) (.int .i64 x.c) (.int .u32 x.k), by omega, by simp, hm.1, hm.2, (Below.heap_alloc _ _ _ (Array.getElem?_eq_some_iff.1 (set5_row HR.out (k * 5) _ _ _ _ _)).1).trans (set5_row HR.out (k * 5) _ _ _ _ _), (set5_below HB.out (Nat.le_refl _) (k * 5) _ _ _ _ _).alloc (set5_below HB.out (Nat.le_refl _) (k * 5) _ _ _ _ _).size _⟩, by simp [intOf]; omega⟩
        · have d25 : (x.op == 25) = false := by simp [h25]
          go_wp2_with fail
          have hm := row_more HS.out hlt HX.out HQ.out x (by unfold weak1; rw [if_neg h18, if_neg h25])
          exact ⟨⟨k + 1, set5 arr (k * 5) (.int .i64 x.op) (.int .i64 x.a) (.int .i64 x.b) (.int .i64 x.c) (.int .u32 x.k), by omega, by simp, hm.1, hm.2, (Below.heap_alloc _ _ _ (Array.getElem?_eq_some_iff.1 (set5_row HR.out (k * 5) _ _ _ _ _)).1).trans (set5_row HR.out (k * 5) _ _ _ _ _), (set5_below HB.out (Nat.le_refl _) (k * 5) _ _ _ _ _).alloc (set5_below HB.out (Nat.le_refl _) (k * 5) _ _ _ _ _).size _⟩, by simp [intOf]; omega⟩
    · have hkk : k = n := by omega
      subst hkk
      go_wp2_with fail
      go_ret
      have hfl : (flat (l.map weak1)).length = k * 5 := by rw [flat_len, List.length_map, hl]
      refine ⟨_, rfl, ⟨hfl, .inr ⟨w.heap.size, k, arr, rfl, Nat.le_refl _, HR.out, Nat.le_refl _, by unfold maxLen; omega, HS.out, ?_⟩⟩, HB.out⟩
      apply List.ext_getElem?
      intro j
      rw [List.getElem?_take]
      split
      · next hj => rw [Array.getElem?_toList]; exact HQ.out j hj
      · next hj => rw [List.getElem?_eq_none (by omega)]
end Go.Proofs.YtmohjegcecimfaaDoor.As

namespace Go.Proofs.YtmohjegcecimfaaDoor.As
open Go.ChangeShapes Go.WideShapes Go.ChangeAt Go.RowKit

theorem cell_in {w : World} {a : Addr} {v : Value} (h : w.cell? a = some v) : a.block < w.heap.size ∧ a.spot = none := by
  unfold World.cell? at h
  split at h
  · next e =>
    refine ⟨(Array.getElem?_eq_some_iff.1 e).1, ?_⟩
    cases hs : a.spot with
    | none => rfl
    | some x => rw [hs] at h; simp at h
  · cases h
theorem list5 {α : Type} : ∀ {l : List α}, l.length = 5 → ∃ a b c d e, l = [a, b, c, d, e]
  | [a, b, c, d, e], _ => ⟨a, b, c, d, e, rfl⟩
theorem one_ins {H : Type} {enc : TypeId × Value → H} {W : World} {base n : Nat} {sp : Nat → Bool} {held : Bool} {cs : List Value} {x : DataW H × List MemPlace}
    (h : DataW.trod enc Tryd.prog W base sp held n 55 cs = some x) (hl : cs.length = 5) :
    ∃ i : Ins, cs = i.cells ∧ (-9223372036854775808 ≤ i.op ∧ i.op ≤ 9223372036854775807) ∧ 0 ≤ i.k ∧ i.k ≤ 4294967295 := by
  obtain ⟨x0, x1, x2, x3, x4, rfl⟩ := list5 hl
  have z1 : Tryd.prog.cellsOf 3 = 1 := by kernel_rfl
  have z3 : Tryd.prog.cellsOf 25 = 1 := by kernel_rfl
  obtain ⟨xs, m, _, _, _, hx, hfs⟩ := DataW.trod_struct Tryd.underlying55 h
  have hx5 : xs.length = 5 := hx
  have f0 : DataW.trod enc Tryd.prog W base sp held m 3 (List.take (Tryd.prog.cellsOf 3) [x0, x1, x2, x3, x4]) = xs[0]? := hfs 0 _ rfl
  have f1 : DataW.trod enc Tryd.prog W base sp held m 3 (List.take (Tryd.prog.cellsOf 3) [x1, x2, x3, x4]) = xs[1]? := hfs 1 _ rfl
  have f2 : DataW.trod enc Tryd.prog W base sp held m 3 (List.take (Tryd.prog.cellsOf 3) [x2, x3, x4]) = xs[2]? := hfs 2 _ rfl
  have f3 : DataW.trod enc Tryd.prog W base sp held m 3 (List.take (Tryd.prog.cellsOf 3) [x3, x4]) = xs[3]? := hfs 3 _ rfl
  have f4 : DataW.trod enc Tryd.prog W base sp held m 25 (List.take (Tryd.prog.cellsOf 25) [x4]) = xs[4]? := hfs 4 _ rfl
  rw [z1] at f0 f1 f2 f3
  rw [z3] at f4
  obtain ⟨y0, hy0⟩ := get_some hx5 (show 0 < 5 by decide)
  obtain ⟨y1, hy1⟩ := get_some hx5 (show 1 < 5 by decide)
  obtain ⟨y2, hy2⟩ := get_some hx5 (show 2 < 5 by decide)
  obtain ⟨y3, hy3⟩ := get_some hx5 (show 3 < 5 by decide)
  obtain ⟨y4, hy4⟩ := get_some hx5 (show 4 < 5 by decide)
  obtain ⟨a, ha, _, wa⟩ := DataW.trod_int Tryd.underlying3 (f0.trans hy0)
  obtain ⟨b, hb, _, _⟩ := DataW.trod_int Tryd.underlying3 (f1.trans hy1)
  obtain ⟨c, hc, _, _⟩ := DataW.trod_int Tryd.underlying3 (f2.trans hy2)
  obtain ⟨d, hd, _, _⟩ := DataW.trod_int Tryd.underlying3 (f3.trans hy3)
  obtain ⟨k, hk, _, wk⟩ := DataW.trod_int Tryd.underlying25 (f4.trans hy4)
  simp only [List.take_succ_cons, List.take_zero, List.cons.injEq, and_true] at ha hb hc hd hk
  subst ha hb hc hd hk
  simp [Lit.wf] at wa wk
  have e1 : IntKind.u32.min = 0 := by decide
  have e2 : IntKind.u32.max = 4294967295 := by decide
  have e3 : IntKind.i64.min = -9223372036854775808 := by decide
  have e4 : IntKind.i64.max = 9223372036854775807 := by decide
  exact ⟨⟨a, b, c, d, k⟩, rfl, ⟨show _ ≤ a by omega, show a ≤ _ by omega⟩, show 0 ≤ k by omega, show k ≤ _ by omega⟩
/-- A slice of instructions that comes in. -/
theorem ins_open {H : Type} {enc : TypeId × Value → H} {W : World} {b0 base : Nat} {r : Reach} {sp : Nat → Bool} {held : Bool} {v : Value} {d : DataW H} {p : List MemPlace}
    (hv : Value.okWide Tryd.prog W r b0 29 v) (h : DataW.Trod enc Tryd.prog W base sp held 29 v d p) :
    ∃ n l, InS W v n l ∧ n ≤ maxLen ∧ ∀ i ∈ l, 0 ≤ i.k ∧ i.k ≤ 4294967295 := by
  obtain ⟨A, n, cap, rfl⟩ := okWide_slice Tryd.underlying29 hv
  obtain ⟨fuel, hf⟩ := h
  have z5 : Tryd.prog.cellsOf 55 = 5 := by kernel_rfl
  rcases Go.Deep.open_slice Tryd.underlying29 hf with ⟨h0, _⟩ | ⟨a, len, cap', m, q, D, Pl, hcs, _, hl, hm, hmm, _, hel⟩
  · have h1 : (Value.slice A n cap) = .slice none 0 0 := by
      have : [Value.slice A n cap] = [.slice none 0 0] := h0
      simpa using this
    injection h1 with e1 e2 e3
    subst e1 e2 e3
    exact ⟨0, [], ⟨rfl, none, 0, rfl, fun h => by omega⟩, Nat.zero_le _, fun i hi => by cases hi⟩
  · have h1 : (Value.slice A n cap) = .slice (some a) len cap' := by
      have : [Value.slice A n cap] = [.slice (some a) len cap'] := hcs
      simpa using this
    injection h1 with e1 e2 e3
    subst e1 e2 e3
    have hlm : n ≤ m := by rw [hmm]; split <;> omega
    rw [z5] at hel
    have each : ∀ i : Fin n, ∃ x : Ins, (∀ j, j < 5 → W.cell? (a.add (i.1 * 5 + j)) = x.cells[j]?) ∧ 0 ≤ x.k ∧ x.k ≤ 4294967295 := by
      intro i
      obtain ⟨cs', h1, h2⟩ := hel i.1 (by have := i.2; omega)
      obtain ⟨_, hlen, hcell⟩ := World.cells?_some h1
      obtain ⟨x, rfl, _, hk⟩ := one_ins h2 hlen
      refine ⟨x, fun j hj => ?_, hk⟩
      have := hcell j hj
      rwa [Go.Deep.add_add] at this
    refine ⟨n, List.ofFn (fun i => Classical.choose (each i)), ⟨List.length_ofFn, some a, cap, rfl, fun hn => ?_⟩, Nat.le_trans hl hm, ?_⟩
    · have c0 := (Classical.choose_spec (each ⟨0, hn⟩)).1 0 (by omega)
      have c1 : W.cell? a = _ := c0
      obtain ⟨h1, h2⟩ := cell_in (c1.trans rfl)
      obtain ⟨b, off, spot⟩ := a
      simp only at h1 h2
      subst h2
      refine ⟨b, off, rfl, h1, fun j u hu => ?_⟩
      have hj : j < n * 5 := by
        have := (List.getElem?_eq_some_iff.1 hu).1
        rw [flat_len, List.length_ofFn] at this
        exact this
      have hi : j / 5 < n := by omega
      have hg := flat_get (List.ofFn (fun i => Classical.choose (each i))) (j / 5) _ (by rw [List.getElem?_ofFn, dif_pos hi]) (j % 5) (by omega)
      rw [show j / 5 * 5 + j % 5 = j from by omega, hu] at hg
      have hc := (Classical.choose_spec (each ⟨j / 5, hi⟩)).1 (j % 5) (by omega)
      rw [show j / 5 * 5 + j % 5 = j from by omega, ← hg, add_at] at hc
      exact hc
    · intro i hi
      obtain ⟨q, rfl⟩ := List.mem_ofFn.1 hi
      exact (Classical.choose_spec (each q)).2
end Go.Proofs.YtmohjegcecimfaaDoor.As

namespace Go.Proofs.YtmohjegcecimfaaDoor.As
open Go.RowKit

set_option maxHeartbeats 4000000 in
theorem duoWeak_any (w : World) (TI : TabI w) (TO : TabO w) (v : Value) (n : Nat) (l : List Ins) (h : InS w v n l) :
    Calls Tryd.prog 7 #[v] w fun e w' => e = .returned (.bool true) ∧ Below w.heap.size w w' := by
  have HI := Lib.hid h
  obtain ⟨hl, A, cap, rfl, hc⟩ := h
  clear hc
  have hawake := fun w TI TO => awake17_any w TI TO
  by_cases hn : n ≤ 3000
  · have hle : ¬ (3000 : Int) < (n : Int) := by omega
    have dle : decide ((3000 : Int) < (n : Int)) = false := decide_eq_false hle
    go_enter Tryd.func7, Tryd.ntmps7
    go_wp2_with fail
    refine (hawake w TI TO).mono ?_; rintro e w1 ⟨rfl, hb1⟩
    go_wp2_with fail
    refine (weak_any w1 _ n l (HI.out.below hb1 (Nat.le_refl _)) hn).mono ?_; rintro e w2 ⟨u, rfl, ho, hb2⟩
    have hRu := Rd.of_own ho
    obtain ⟨B, cbp, rfl⟩ := hRu.form
    have HU := Lib.hid hRu
    have hB2 := hb1.trans (hb2.mono hb1.size)
    have HB := Lib.hid hB2
    clear ho hRu hb1 hb2 hB2 hawake TI TO
    go_wp2_with fail
    go_loopw [4] (fun iv wr => ∃ k : Nat, k ≤ n ∧ iv = .int .i64 k ∧ Hid (Below w.heap.size w wr) ∧ Hid (Below w2.heap.size w2 wr)) (fun i _ => n - (intOf i).toNat)
    case atStart => exact ⟨0, by omega, rfl, HB, Below.refl _ _⟩
    case round =>
      obtain ⟨k, hkn, rfl, HB1, HB2⟩ := hrel
      by_cases hlt : k < n
      · obtain ⟨x, hx⟩ : ∃ x, l[k]? = some x := ⟨_, List.getElem?_eq_getElem (by omega)⟩
        obtain ⟨b, off, rfl, hbl, a0, a1, a2, a3, a4⟩ := InS.at HI.out hx
        obtain ⟨b2, o2, rfl, hb2, d0, d1, d2, d3, d4⟩ := ins_cells HU.out (map_at hx) (by omega)
        clear hx
        have s1 := HB1.out.size
        have s2 := HB2.out.size
        have hbw : b < wr.heap.size := by omega
        have hbw2 : b2 < wr.heap.size := by omega
        have f1 : (0 : Int) ≤ (k : Int) := by omega
        have f2 : (k : Int) < (n : Int) := by omega

        have x0 : wr.cell? ⟨b, off + k * 5, none⟩ = some (.int .i64 x.op) := (HB1.out.cell (p := ⟨b, off + k * 5, none⟩) hbl).trans a0
        have y0 := (HB2.out.cell (p := ⟨b2, o2 + k * 5, none⟩) hb2).trans d0
        have x1 : wr.cell? ⟨b, off + k * 5 + 1, none⟩ = some (.int .i64 x.a) := (HB1.out.cell (p := ⟨b, off + k * 5 + 1, none⟩) hbl).trans a1
        have y1 := (HB2.out.cell (p := ⟨b2, o2 + k * 5 + 1, none⟩) hb2).trans d1
        have x2 : wr.cell? ⟨b, off + k * 5 + 2, none⟩ = some (.int .i64 x.b) := (HB1.out.cell (p := ⟨b, off + k * 5 + 2, none⟩) hbl).trans a2
        have y2 := (HB2.out.cell (p := ⟨b2, o2 + k * 5 + 2, none⟩) hb2).trans d2
        have x3 : wr.cell? ⟨b, off + k * 5 + 3, none⟩ = some (.int .i64 x.c) := (HB1.out.cell (p := ⟨b, off + k * 5 + 3, none⟩) hbl).trans a3
        have y3 := (HB2.out.cell (p := ⟨b2, o2 + k * 5 + 3, none⟩) hb2).trans d3
        have x4 : wr.cell? ⟨b, off + k * 5 + 4, none⟩ = some (.int .u32 x.k) := (HB1.out.cell (p := ⟨b, off + k * 5 + 4, none⟩) hbl).trans a4
        have y4 := (HB2.out.cell (p := ⟨b2, o2 + k * 5 + 4, none⟩) hb2).trans d4
        clear a0 a1 a2 a3 a4 d0 d1 d2 d3 d4
        have hA : ∀ o, Below wr.heap.size wr (wr.alloc o) := fun o => (Below.refl _ wr).alloc (Nat.le_refl _) o
        have hB1 := fun (o : Obj) => HB1.out.alloc HB1.out.size o
        have hB2 := fun (o : Obj) => HB2.out.alloc HB2.out.size o

        have Y0 := fun (o : Obj) => ((hA o).cell (p := ⟨b2, o2 + k * 5, none⟩) hbw2).trans y0
        have D0 : ∀ o, (wr.alloc o).drew.cell? ⟨b2, o2 + k * 5, none⟩ = _ := Y0
        have Y1 := fun (o : Obj) => ((hA o).cell (p := ⟨b2, o2 + k * 5 + 1, none⟩) hbw2).trans y1
        have D1 : ∀ o, (wr.alloc o).drew.cell? ⟨b2, o2 + k * 5 + 1, none⟩ = _ := Y1
        have Y2 := fun (o : Obj) => ((hA o).cell (p := ⟨b2, o2 + k * 5 + 2, none⟩) hbw2).trans y2
        have D2 : ∀ o, (wr.alloc o).drew.cell? ⟨b2, o2 + k * 5 + 2, none⟩ = _ := Y2
        have Y3 := fun (o : Obj) => ((hA o).cell (p := ⟨b2, o2 + k * 5 + 3, none⟩) hbw2).trans y3
        have D3 : ∀ o, (wr.alloc o).drew.cell? ⟨b2, o2 + k * 5 + 3, none⟩ = _ := Y3
        have Y4 := fun (o : Obj) => ((hA o).cell (p := ⟨b2, o2 + k * 5 + 4, none⟩) hbw2).trans y4
        have D4 : ∀ o, (wr.alloc o).drew.cell? ⟨b2, o2 + k * 5 + 4, none⟩ = _ := Y4
        by_cases h18 : x.op = 18
        · have d18 : (x.op == 18) = true := by simp [h18]
          have hw : weak1 x = { x with op := 26 } := by unfold weak1; rw [if_pos h18]
          rw [hw] at y0 y1 y2 y3 y4 Y0 Y1 Y2 Y3 Y4 D0 D1 D2 D3 D4
          go_wp2_with fail
          go_region_with (fail)
          all_goals go_wp2_with fail
          all_goals exact ⟨⟨k + 1, by omega, by simp, bl_drew (hB1 _), bl_drew (hB2 _)⟩, by simp [intOf]; omega⟩
        · have d18 : (x.op == 18) = false := by simp [h18]
          by_cases h25 : x.op = 25
          · have d25 : (x.op == 25) = true := by simp [h25]
            have hw : weak1 x = { x with op := 18 } := by unfold weak1; rw [if_neg h18, if_pos h25]
            rw [hw] at y0 y1 y2 y3 y4 Y0 Y1 Y2 Y3 Y4 D0 D1 D2 D3 D4
            go_wp2_with fail
            go_region_with (fail)
            all_goals go_wp2_with fail
            all_goals exact ⟨⟨k + 1, by omega, by simp, bl_drew (hB1 _), bl_drew (hB2 _)⟩, by simp [intOf]; omega⟩
          · have d25 : (x.op == 25) = false := by simp [h25]
            have hw : weak1 x = x := by unfold weak1; rw [if_neg h18, if_neg h25]
            rw [hw] at y0 y1 y2 y3 y4 Y0 Y1 Y2 Y3 Y4 D0 D1 D2 D3 D4
            go_wp2_with fail
            go_region_with (fail)
            all_goals go_wp2_with fail
            all_goals exact ⟨⟨k + 1, by omega, by simp, bl_drew (hB1 _), bl_drew (hB2 _)⟩, by simp [intOf]; omega⟩
      · go_wp2_with fail
        go_ret
        exact ⟨rfl, HB1.out⟩
  · have hle : (3000 : Int) < (n : Int) := by omega
    have dle : decide ((3000 : Int) < (n : Int)) = true := decide_eq_true hle
    go_enter Tryd.func7, Tryd.ntmps7
    go_wp2_with fail
    refine (hawake w TI TO).mono ?_; rintro e w1 ⟨rfl, hb1⟩
    go_wp2_with fail
    refine (hawake w1 (TI.below hb1 (Nat.le_refl _)) (TO.below hb1 (Nat.le_refl _))).mono ?_; rintro e w2 ⟨rfl, hb2⟩
    go_wp2_with fail
    go_ret
    exact ⟨rfl, hb1.trans (hb2.mono hb1.size)⟩
end Go.Proofs.YtmohjegcecimfaaDoor.As
