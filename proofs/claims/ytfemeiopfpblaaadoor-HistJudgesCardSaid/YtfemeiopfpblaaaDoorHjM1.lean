/- An abstract object in memory, and what its calls leave; the walks of abs.told, abs.fine, abs.not. -/
import Derived.Test.YtfemeiopfpblaaaDoorHjR4
set_option linter.unusedVariables false
set_option linter.unusedSimpArgs false
set_option maxRecDepth 20000
namespace Go.Proofs.YtfemeiopfpblaaaDoor.As
open Go.RowKit

def St.head (s : St) : List Value := [.int .i64 s.o.k, .int .i64 s.o.n, .int .i64 s.o.a, .int .i64 s.o.b, .int .i64 s.owner]
/-- An object's cells. -/
def St.cells (s : St) : List Value := s.head ++ (s.rd.map Value.bool ++ (s.data.map (Value.int .u32) ++ (s.draft.map (Value.int .u32) ++ ([.int .i64 s.count, .bool s.done] ++ (s.come.map (Value.int .i64) ++ ([.int .i64 s.opened] ++ s.left.map (Value.int .i64)))))))
structure St.Wf (s : St) : Prop where
  l1 : s.rd.length = 8
  l2 : s.data.length = 3
  l3 : s.draft.length = 3
  l4 : s.come.length = 8
  l5 : s.left.length = 8
theorem St.Wf.len {s : St} (h : s.Wf) : s.cells.length = 38 := by
  unfold St.cells St.head
  simp [h.l1, h.l2, h.l3, h.l4, h.l5]
/-- A stretch of a row reads as a list. -/
def SegL (arr : Array Value) (f : Nat) (L : List Value) : Prop := L.length = 38 ∧ f + 38 ≤ arr.size ∧ ∀ i, i < 38 → arr[f + i]? = L[i]?
theorem SegL.set {arr : Array Value} {f : Nat} {L : List Value} (h : SegL arr f L) (j : Nat) (hj : j < 38) (v : Value) : SegL (arr.setIfInBounds (f + j) v) f (L.set j v) := by
  obtain ⟨h1, h2, h3⟩ := h
  refine ⟨by simpa using h1, by simpa using h2, fun i hi => ?_⟩
  rw [Array.getElem?_setIfInBounds, set_get _ _ _ _ (by omega)]
  by_cases e : i = j
  · subst e
    rw [if_pos rfl, if_pos rfl, if_pos (by omega)]
  · rw [if_neg (by omega), if_neg e]; exact h3 i hi
/-- An object lies at a place of a row. -/
def Seg (w : World) (g f : Nat) (s : St) : Prop := s.Wf ∧ ∃ arr, w.heap[g]? = some (.cells arr 62 (0, 0)) ∧ SegL arr f s.cells
theorem Seg.lt {w : World} {g f : Nat} {s : St} (h : Seg w g f s) : g < w.heap.size := by
  obtain ⟨_, arr, h, _⟩ := h
  exact (Array.getElem?_eq_some_iff.1 h).1
theorem Seg.at {w : World} {g f : Nat} {s : St} (h : Seg w g f s) (i : Nat) (hi : i < 38) : w.cell? ⟨g, f + i, none⟩ = s.cells[i]? ∧ w.frozen? ⟨g, f + i, none⟩ = false := by
  obtain ⟨_, arr, h, _, _, h3⟩ := h
  exact ⟨(cell_of_row w g (f + i) arr _ _ h).trans (h3 i hi), frozen_of_row w g (f + i) arr _ h⟩
theorem St.cells_at (s : St) : s.cells[0]? = some (.int .i64 s.o.k) ∧ s.cells[1]? = some (.int .i64 s.o.n) ∧ s.cells[2]? = some (.int .i64 s.o.a) ∧ s.cells[3]? = some (.int .i64 s.o.b) ∧ s.cells[4]? = some (.int .i64 s.owner) := ⟨rfl, rfl, rfl, rfl, rfl⟩
theorem St.Wf.mid {s : St} (h : s.Wf) : s.cells[19]? = some (.int .i64 s.count) ∧ s.cells[20]? = some (.bool s.done) ∧ s.cells[29]? = some (.int .i64 s.opened) := by
  obtain ⟨h1, h2, h3, h4, h5⟩ := h
  unfold St.cells St.head
  refine ⟨?_, ?_, ?_⟩ <;> simp [List.getElem?_append, h1, h2, h3, h4, h5]
theorem St.Wf.rdAt {s : St} (h : s.Wf) (i : Nat) (hi : i < 8) : s.cells[5 + i]? = some (.bool (s.rd.getD i false)) := by
  obtain ⟨h1, h2, h3, h4, h5⟩ := h
  unfold St.cells St.head
  rw [List.getElem?_append_right (by simp), List.getElem?_append_left (by simp [h1]; omega)]
  simp [List.getD, List.getElem?_eq_getElem (show i < s.rd.length by omega)]
theorem St.Wf.datAt {s : St} (h : s.Wf) (i : Nat) (hi : i < 3) : s.cells[13 + i]? = some (.int .u32 (s.data.getD i 0)) ∧ s.cells[16 + i]? = some (.int .u32 (s.draft.getD i 0)) := by
  obtain ⟨h1, h2, h3, h4, h5⟩ := h
  unfold St.cells St.head
  refine ⟨?_, ?_⟩
  · rw [List.getElem?_append_right (by simp; omega), List.getElem?_append_right (by simp [h1]; omega), List.getElem?_append_left (by simp [h1, h2]; omega)]
    simp [h1, List.getD]
    rw [show 13 + i - 5 - 8 = i from by omega, List.getElem?_eq_getElem (show i < s.data.length by omega)]; simp
  · rw [List.getElem?_append_right (by simp; omega), List.getElem?_append_right (by simp [h1]; omega), List.getElem?_append_right (by simp [h1, h2]; omega), List.getElem?_append_left (by simp [h1, h2, h3]; omega)]
    simp [h1, h2, List.getD]
    rw [show 16 + i - 5 - 8 - 3 = i from by omega, List.getElem?_eq_getElem (show i < s.draft.length by omega)]; simp
theorem St.Wf.cntAt {s : St} (h : s.Wf) (i : Nat) (hi : i < 8) : s.cells[21 + i]? = some (.int .i64 (s.come.getD i 0)) ∧ s.cells[30 + i]? = some (.int .i64 (s.left.getD i 0)) := by
  obtain ⟨h1, h2, h3, h4, h5⟩ := h
  unfold St.cells St.head
  refine ⟨?_, ?_⟩
  · rw [List.getElem?_append_right (by simp; omega), List.getElem?_append_right (by simp [h1]; omega), List.getElem?_append_right (by simp [h1, h2]; omega), List.getElem?_append_right (by simp [h1, h2, h3]; omega), List.getElem?_append_right (by simp [h1, h2, h3]; omega), List.getElem?_append_left (by simp [h1, h2, h3, h4]; omega)]
    simp [h1, h2, h3, List.getD]
    rw [show 21 + i - 5 - 8 - 3 - 3 - 2 = i from by omega, List.getElem?_eq_getElem (show i < s.come.length by omega)]; simp
  · rw [List.getElem?_append_right (by simp; omega), List.getElem?_append_right (by simp [h1]; omega), List.getElem?_append_right (by simp [h1, h2]; omega), List.getElem?_append_right (by simp [h1, h2, h3]; omega), List.getElem?_append_right (by simp [h1, h2, h3]; omega), List.getElem?_append_right (by simp [h1, h2, h3, h4]; omega), List.getElem?_append_right (by simp [h1, h2, h3, h4]; omega)]
    simp [h1, h2, h3, h4, List.getD]
    rw [show 30 + i - 5 - 8 - 3 - 3 - 2 - 8 - 1 = i from by omega, List.getElem?_eq_getElem (show i < s.left.length by omega)]; simp
/-- What a call of an object leaves: the object in its place, all else of the row as it was; no other block has turned. -/
def Upd (w : World) (g f : Nat) (s' : St) (w' : World) : Prop :=
  Only (fun k => k = g) w w' ∧ s'.Wf ∧ ∃ arr arr', w.heap[g]? = some (.cells arr 62 (0, 0)) ∧ w'.heap[g]? = some (.cells arr' 62 (0, 0)) ∧ arr'.size = arr.size ∧ SegL arr' f s'.cells ∧ ∀ i, i < f ∨ f + 38 ≤ i → arr'[i]? = arr[i]?
def MPost (w : World) (g f : Nat) (a : Ans) (s' : St) (e : Ending) (w' : World) : Prop :=
  ∃ dv, e = .returned (.tuple #[.agg #[.int .u32 (ansR a), dv], .bool a.isSome]) ∧ Rd w' 1 dv (ansD a).length (ints32 (ansD a)) ∧ Upd w g f s' w'
/-- Nothing of the row has turned. -/
theorem Upd.same {w w' : World} {g f : Nat} {s : St} (h : Seg w g f s) (hb : Below w.heap.size w w') : Upd w g f s w' := by
  have hlt := h.lt
  obtain ⟨hw, arr, h1, h2⟩ := h
  exact ⟨Only.of_below hb (Nat.le_refl _), hw, arr, arr, h1, (hb.block g hlt).trans h1, rfl, h2, fun _ _ => rfl⟩
/-- One cell has turned, then only new blocks have come. -/
theorem Upd.one {w w' : World} {g f j : Nat} {s s' : St} {v : Value} (h : Seg w g f s) (hj : j < 38) (hs : s'.cells = s.cells.set j v) (hw' : s'.Wf) (hb : Below w.heap.size (w.setCell ⟨g, f + j, none⟩ v) w') : Upd w g f s' w' := by
  have hlt := h.lt
  obtain ⟨hw, arr, h1, h2⟩ := h
  have h3 := heap_setCell_same w g (f + j) arr _ v h1
  refine ⟨⟨hb.os, hb.tape, hb.output, by have := hb.size; simpa using this, fun k hk hn => (hb.block k hk).trans (Below.heap_setCell w ⟨g, f + j, none⟩ v k hn)⟩, hw', arr, _, h1, (hb.block g hlt).trans h3, by simp, hs ▸ h2.set j hj v, fun i hi => ?_⟩
  rw [Array.getElem?_setIfInBounds, if_neg (by omega)]
theorem results_ans2 {fn : Func} {p u : Tmp} (h : fn.results = #[.cell p 50, .tmp u]) (tmps : Array Value) (w : World) (R : Nat) (a b : Value) (hb : w.heap[R]? = some (.cells #[a, b] 50 (0, 0))) (hp : tmps.getD p undef = .pointer (some ⟨R, 0, none⟩)) :
    (results fn tmps).run Tryd.prog w = .ok (.tuple #[.agg #[a, b], tmps.getD u undef]) w := by
  have hl := run_loadVar_row (P := Tryd.prog) w R 50 50 _ _ _ hb Tryd.underlying50 rfl (by kernel_rfl)
  simp only [Array.getD_eq_getD_getElem?] at hp
  simp [results, h, hp, asAddr, hl]
theorem told_any (w : World) (r : Int) : Calls Tryd.prog 33 #[.int .u32 r] w fun e w' => e = .returned (.tuple #[.agg #[.int .u32 r, .slice none 0 0], .bool true]) ∧ Below w.heap.size w w' := by
  go_enter Tryd.func33, Tryd.ntmps33
  go_wp2_with fail
  refine bodyPost_ret (results_ans2 rfl _ _ w.heap.size _ _ (heap_alloc_new _ _) rfl) rfl ?_
  exact ⟨rfl, (Below.refl _ w).alloc (Nat.le_refl _) _⟩
theorem fine_any (w : World) : Calls Tryd.prog 34 #[] w fun e w' => e = .returned (.tuple #[.agg #[.int .u32 0, .slice none 0 0], .bool true]) ∧ Below w.heap.size w w' := by
  go_enter Tryd.func34, Tryd.ntmps34
  go_wp2_with fail
  refine bodyPost_ret (results_ans2 rfl _ _ w.heap.size _ _ (heap_alloc_new _ _) rfl) rfl ?_
  exact ⟨rfl, (Below.refl _ w).alloc (Nat.le_refl _) _⟩
theorem not_any (w : World) : Calls Tryd.prog 13 #[] w fun e w' => e = .returned (.tuple #[.agg #[.int .u32 0, .slice none 0 0], .bool false]) ∧ Below w.heap.size w w' := by
  go_enter Tryd.func13, Tryd.ntmps13
  go_wp2_with fail
  refine bodyPost_ret (results_ans2 rfl _ _ w.heap.size _ _ (heap_alloc_new _ _) rfl) rfl ?_
  exact ⟨rfl, (Below.refl _ w).alloc (Nat.le_refl _) _⟩

end Go.Proofs.YtfemeiopfpblaaaDoor.As
