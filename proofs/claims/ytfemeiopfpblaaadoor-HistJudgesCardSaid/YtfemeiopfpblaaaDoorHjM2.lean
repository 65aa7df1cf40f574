/- The walks of the package abs: what an object's calls do: a lock, what is done once, a semaphore, a condition. -/
import Derived.Test.YtfemeiopfpblaaaDoorHjM1
set_option linter.unusedVariables false
set_option linter.unusedSimpArgs false
set_option maxRecDepth 20000
namespace Go.Proofs.YtfemeiopfpblaaaDoor.As
open Go.RowKit

theorem set2_row {w : World} {R : Nat} {a0 b0 : Value} {t : TypeId} (h : w.heap[R]? = some (.cells #[a0, b0] t (0, 0))) (a b : Value) :
    ((w.setCell ⟨R, 0, none⟩ a).setCell ⟨R, 1, none⟩ b).heap[R]? = some (.cells #[a, b] t (0, 0)) :=
  (heap_setCell_same _ R 1 _ t _ (heap_setCell_same _ R 0 _ t _ h)).trans (by simp)
theorem set2_below {B : Nat} {w w' : World} {R : Nat} (h : Below B w w') (hR : B ≤ R) (a b : Value) : Below B w ((w'.setCell ⟨R, 0, none⟩ a).setCell ⟨R, 1, none⟩ b) := (h.setCell hR _).setCell hR _
theorem two_new (w : World) (X Z : Obj) : ((w.alloc X).alloc Z).heap[w.heap.size + 1]? = some Z ∧ Below w.heap.size w ((w.alloc X).alloc Z) := by
  have h1 := heap_alloc_new (w.alloc X) Z
  simp only [World.size_alloc] at h1
  exact ⟨h1, ((Below.refl _ w).alloc (Nat.le_refl _) X).alloc (by simp) Z⟩
theorem setCell_cong {w w2 : World} {k : Nat} (h : w2.heap[k]? = w.heap[k]?) (a : Addr) (v : Value) : (w2.setCell a v).heap[k]? = (w.setCell a v).heap[k]? := by
  simp [World.setCell, Array.getElem?_modify, h]
theorem Below.both {B : Nat} {w w2 : World} (h : Below B w w2) (a : Addr) (v : Value) : Below B (w.setCell a v) (w2.setCell a v) :=
  ⟨h.os, h.tape, h.output, by have := h.size; simpa using this, fun k hk => setCell_cong (h.block k hk) a v⟩
theorem St.Wf.lists {s : St} (h : s.Wf) : ∃ r0 r1 r2 r3 r4 r5 r6 r7 d0 d1 d2 e0 e1 e2 c0 c1 c2 c3 c4 c5 c6 c7 f0 f1 f2 f3 f4 f5 f6 f7, s.rd = [r0, r1, r2, r3, r4, r5, r6, r7] ∧ s.data = [d0, d1, d2] ∧ s.draft = [e0, e1, e2] ∧ s.come = [c0, c1, c2, c3, c4, c5, c6, c7] ∧ s.left = [f0, f1, f2, f3, f4, f5, f6, f7] := by
  obtain ⟨h1, h2, h3, h4, h5⟩ := h
  obtain ⟨o, ow, rd, da, dr, cn, dn, co, op, le⟩ := s
  dsimp only at *
  match rd, h1, da, h2, dr, h3, co, h4, le, h5 with
  | [_, _, _, _, _, _, _, _], _, [_, _, _], _, [_, _, _], _, [_, _, _, _, _, _, _, _], _, [_, _, _, _, _, _, _, _], _ => exact ⟨_, _, _, _, _, _, _, _, _, _, _, _, _, _, _, _, _, _, _, _, _, _, _, _, _, _, _, _, _, _, rfl, rfl, rfl, rfl, rfl⟩
theorem cells_owner (s : St) (v : Int) : ({ s with owner := v } : St).cells = s.cells.set 4 (.int .i64 v) := rfl
theorem cells_count {s : St} (h : s.Wf) (v : Int) : ({ s with count := v } : St).cells = s.cells.set 19 (.int .i64 v) := by
  obtain ⟨_, _, _, _, _, _, _, _, _, _, _, _, _, _, _, _, _, _, _, _, _, _, _, _, _, _, _, _, _, _, h1, h2, h3, h4, h5⟩ := h.lists
  unfold St.cells St.head
  rw [h1, h2, h3, h4, h5]; rfl
theorem cells_done {s : St} (h : s.Wf) (v : Bool) : ({ s with done := v } : St).cells = s.cells.set 20 (.bool v) := by
  obtain ⟨_, _, _, _, _, _, _, _, _, _, _, _, _, _, _, _, _, _, _, _, _, _, _, _, _, _, _, _, _, _, h1, h2, h3, h4, h5⟩ := h.lists
  unfold St.cells St.head
  rw [h1, h2, h3, h4, h5]; rfl
theorem cells_data {s : St} (h : s.Wf) (a b c : Int) : ({ s with data := [a, b, c] } : St).cells = ((s.cells.set 13 (.int .u32 a)).set 14 (.int .u32 b)).set 15 (.int .u32 c) := by
  obtain ⟨_, _, _, _, _, _, _, _, _, _, _, _, _, _, _, _, _, _, _, _, _, _, _, _, _, _, _, _, _, _, h1, h2, h3, h4, h5⟩ := h.lists
  unfold St.cells St.head
  dsimp only
  rw [h1, h2, h3, h4, h5]; rfl
theorem Upd.trans {w w1 w2 : World} {g f : Nat} {s1 s2 : St} (h : Upd w g f s1 w1) (k : Upd w1 g f s2 w2) : Upd w g f s2 w2 := by
  obtain ⟨o1, _, a, b, ha, hb, hsz, _, ho⟩ := h
  obtain ⟨o2, hw, c, d, hc, hd, hsz2, hs, ho2⟩ := k
  rw [hb] at hc
  injection hc with hc
  injection hc with hc
  subst hc
  exact ⟨o1.trans o2 (fun i e => .inl e), hw, a, d, ha, hd, hsz2.trans hsz, hs, fun i hi => (ho2 i hi).trans (ho i hi)⟩
theorem Upd.seg {w w1 : World} {g f : Nat} {s1 : St} (h : Upd w g f s1 w1) : Seg w1 g f s1 := by
  obtain ⟨_, hw, a, b, ha, hb, _, hs, _⟩ := h
  exact ⟨hw, b, hb, hs⟩
/-- The data become the draft. -/
theorem Upd.data {w w' : World} {g f : Nat} {s : St} {a b c : Int} (h : Seg w g f s) (hb : Below w.heap.size (((w.setCell ⟨g, f + 13, none⟩ (.int .u32 a)).setCell ⟨g, f + 14, none⟩ (.int .u32 b)).setCell ⟨g, f + 15, none⟩ (.int .u32 c)) w') : Upd w g f { s with data := [a, b, c] } w' := by
  have hlt := h.lt
  obtain ⟨hw, arr, h1, h2⟩ := h
  have h3 := heap_setCell_same _ g (f + 15) _ _ (.int .u32 c) (heap_setCell_same _ g (f + 14) _ _ (.int .u32 b) (heap_setCell_same w g (f + 13) arr _ (.int .u32 a) h1))
  refine ⟨⟨hb.os, hb.tape, hb.output, by have := hb.size; simpa using this, fun k hk hn => (hb.block k hk).trans ?_⟩, ⟨hw.l1, rfl, hw.l3, hw.l4, hw.l5⟩, arr, _, h1, (hb.block g hlt).trans h3, by simp, ?_, fun i hi => ?_⟩
  · rw [Below.heap_setCell _ _ _ _ hn, Below.heap_setCell _ _ _ _ hn, Below.heap_setCell _ _ _ _ hn]
  · rw [cells_data hw]
    exact ((h2.set 13 (by decide) _).set 14 (by decide) _).set 15 (by decide) _
  · rw [Array.getElem?_setIfInBounds, if_neg (by omega), Array.getElem?_setIfInBounds, if_neg (by omega), Array.getElem?_setIfInBounds, if_neg (by omega)]

set_option maxHeartbeats 1000000 in
theorem lock_2not (w : World) (g f : Nat) (s : St) (x : Ask) (h : Seg w g f s) (p0 : x.call = 2) (p1 : s.owner ≠ x.who) :
    Calls Tryd.prog 22 #[.pointer (some ⟨g, f, none⟩), .agg #[.int .i64 x.who, .int .i64 x.obj, .int .i64 x.call, .int .i64 x.part, .int .u32 x.arg, .int .u32 x.val]] w (MPost w g f (some (2, [])) (s)) := by
  have hlt := h.lt
  have c_owner : w.cell? ⟨g, f + 4, none⟩ = some (.int .i64 s.owner) := (h.at 4 (by decide)).1.trans s.cells_at.2.2.2.2
  have z_owner : w.frozen? ⟨g, f + 4, none⟩ = false := (h.at 4 (by decide)).2
  have q0 : (x.call == 2) = true := by simp; omega
  have q1 : (s.owner != x.who) = true := by simp; omega
  have q2 : (s.owner == x.who) = false := by simp; omega
  have HS := Lib.hid h
  clear h p0 p1
  go_enter Tryd.func22, Tryd.ntmps22
  go_wp2_with (first
      | (go_at_call 33; refine (told_any _ _).mono ?_; rintro e wF ⟨rfl, hbF⟩; have hk := keepC hbF (Nat.le_refl _); have hf := keepF hbF (Nat.le_refl _))
      | (go_at_call 34; refine (fine_any _).mono ?_; rintro e wF ⟨rfl, hbF⟩; have hk := keepC hbF (Nat.le_refl _); have hf := keepF hbF (Nat.le_refl _))
      | (go_at_call 13; refine (not_any _).mono ?_; rintro e wF ⟨rfl, hbF⟩; have hk := keepC hbF (Nat.le_refl _); have hf := keepF hbF (Nat.le_refl _)))
  go_quiet (fail)
  go_wp2_with (first
      | (go_at_call 33; refine (told_any _ _).mono ?_; rintro e wF ⟨rfl, hbF⟩; have hk := keepC hbF (Nat.le_refl _); have hf := keepF hbF (Nat.le_refl _))
      | (go_at_call 34; refine (fine_any _).mono ?_; rintro e wF ⟨rfl, hbF⟩; have hk := keepC hbF (Nat.le_refl _); have hf := keepF hbF (Nat.le_refl _))
      | (go_at_call 13; refine (not_any _).mono ?_; rintro e wF ⟨rfl, hbF⟩; have hk := keepC hbF (Nat.le_refl _); have hf := keepF hbF (Nat.le_refl _)))
  have hZ := two_new (w) (.cells #[.int .i64 x.who, .int .i64 x.obj, .int .i64 x.call, .int .i64 x.part, .int .u32 x.arg, .int .u32 x.val] 32) (.cells #[.int .u32 0, .slice none 0 0] 50)
  have hsz : (w).heap.size = w.heap.size := by simp
  obtain ⟨bZ0, bB⟩ := hZ
  have bZ : (((w).alloc (.cells #[.int .i64 x.who, .int .i64 x.obj, .int .i64 x.call, .int .i64 x.part, .int .u32 x.arg, .int .u32 x.val] 32)).alloc (.cells #[.int .u32 0, .slice none 0 0] 50)).heap[w.heap.size + 1]? = some (.cells #[.int .u32 0, .slice none 0 0] 50) := by rw [hsz] at bZ0; exact bZ0
  have bZF : wF.heap[w.heap.size + 1]? = some (.cells #[.int .u32 0, .slice none 0 0] 50) := (hbF.block _ (Array.getElem?_eq_some_iff.1 bZ).1).trans bZ
  have bF : Below w.heap.size (w) wF := (bB.mono (Nat.le_of_eq hsz.symm)).trans ⟨hbF.os, hbF.tape, hbF.output, hbF.size, fun k hk => hbF.block k (Nat.lt_of_lt_of_le hk (Nat.le_trans (Nat.le_of_eq hsz.symm) bB.size))⟩
  refine bodyPost_ret (results_ans2 rfl _ _ (w.heap.size + 1) _ _ (set2_row bZF _ _) rfl) rfl ?_
  refine ⟨_, rfl, rd_nil _ _, ?_⟩
  have hb2 := set2_below bF (R := w.heap.size + 1) (by omega) (.int .u32 (ansR (some (2, [])))) (.slice none 0 0)
  exact Upd.same HS.out hb2

set_option maxHeartbeats 1000000 in
theorem lock_1own (w : World) (g f : Nat) (s : St) (x : Ask) (h : Seg w g f s) (p0 : x.call ≠ 2) (p1 : s.owner = x.who) :
    Calls Tryd.prog 22 #[.pointer (some ⟨g, f, none⟩), .agg #[.int .i64 x.who, .int .i64 x.obj, .int .i64 x.call, .int .i64 x.part, .int .u32 x.arg, .int .u32 x.val]] w (MPost w g f (some (1, [])) (s)) := by
  have hlt := h.lt
  have c_owner : w.cell? ⟨g, f + 4, none⟩ = some (.int .i64 s.owner) := (h.at 4 (by decide)).1.trans s.cells_at.2.2.2.2
  have z_owner : w.frozen? ⟨g, f + 4, none⟩ = false := (h.at 4 (by decide)).2
  have q0 : (x.call == 2) = false := by simp; omega
  have q1 : (s.owner != x.who) = false := by simp; omega
  have q2 : (s.owner == x.who) = true := by simp; omega
  have HS := Lib.hid h
  clear h p0 p1
  go_enter Tryd.func22, Tryd.ntmps22
  go_wp2_with (first
      | (go_at_call 33; refine (told_any _ _).mono ?_; rintro e wF ⟨rfl, hbF⟩; have hk := keepC hbF (Nat.le_refl _); have hf := keepF hbF (Nat.le_refl _))
      | (go_at_call 34; refine (fine_any _).mono ?_; rintro e wF ⟨rfl, hbF⟩; have hk := keepC hbF (Nat.le_refl _); have hf := keepF hbF (Nat.le_refl _))
      | (go_at_call 13; refine (not_any _).mono ?_; rintro e wF ⟨rfl, hbF⟩; have hk := keepC hbF (Nat.le_refl _); have hf := keepF hbF (Nat.le_refl _)))
  have hZ := two_new (w) (.cells #[.int .i64 x.who, .int .i64 x.obj, .int .i64 x.call, .int .i64 x.part, .int .u32 x.arg, .int .u32 x.val] 32) (.cells #[.int .u32 0, .slice none 0 0] 50)
  have hsz : (w).heap.size = w.heap.size := by simp
  obtain ⟨bZ0, bB⟩ := hZ
  have bZ : (((w).alloc (.cells #[.int .i64 x.who, .int .i64 x.obj, .int .i64 x.call, .int .i64 x.part, .int .u32 x.arg, .int .u32 x.val] 32)).alloc (.cells #[.int .u32 0, .slice none 0 0] 50)).heap[w.heap.size + 1]? = some (.cells #[.int .u32 0, .slice none 0 0] 50) := by rw [hsz] at bZ0; exact bZ0
  have bZF : wF.heap[w.heap.size + 1]? = some (.cells #[.int .u32 0, .slice none 0 0] 50) := (hbF.block _ (Array.getElem?_eq_some_iff.1 bZ).1).trans bZ
  have bF : Below w.heap.size (w) wF := (bB.mono (Nat.le_of_eq hsz.symm)).trans ⟨hbF.os, hbF.tape, hbF.output, hbF.size, fun k hk => hbF.block k (Nat.lt_of_lt_of_le hk (Nat.le_trans (Nat.le_of_eq hsz.symm) bB.size))⟩
  refine bodyPost_ret (results_ans2 rfl _ _ (w.heap.size + 1) _ _ (set2_row bZF _ _) rfl) rfl ?_
  refine ⟨_, rfl, rd_nil _ _, ?_⟩
  have hb2 := set2_below bF (R := w.heap.size + 1) (by omega) (.int .u32 (ansR (some (1, [])))) (.slice none 0 0)
  exact Upd.same HS.out hb2

set_option maxHeartbeats 1000000 in
theorem lock_1bus (w : World) (g f : Nat) (s : St) (x : Ask) (h : Seg w g f s) (p0 : x.call ≠ 2) (p1 : s.owner ≠ x.who) (p2 : s.owner ≠ -1) :
    Calls Tryd.prog 22 #[.pointer (some ⟨g, f, none⟩), .agg #[.int .i64 x.who, .int .i64 x.obj, .int .i64 x.call, .int .i64 x.part, .int .u32 x.arg, .int .u32 x.val]] w (MPost w g f (none) (s)) := by
  have hlt := h.lt
  have c_owner : w.cell? ⟨g, f + 4, none⟩ = some (.int .i64 s.owner) := (h.at 4 (by decide)).1.trans s.cells_at.2.2.2.2
  have z_owner : w.frozen? ⟨g, f + 4, none⟩ = false := (h.at 4 (by decide)).2
  have q0 : (x.call == 2) = false := by simp; omega
  have q1 : (s.owner == -1) = false := by simp; omega
  have q2 : (s.owner != x.who) = true := by simp; omega
  have q3 : (s.owner == x.who) = false := by simp; omega
  have HS := Lib.hid h
  clear h p0 p1 p2
  go_enter Tryd.func22, Tryd.ntmps22
  go_wp2_with (first
      | (go_at_call 33; refine (told_any _ _).mono ?_; rintro e wF ⟨rfl, hbF⟩; have hk := keepC hbF (Nat.le_refl _); have hf := keepF hbF (Nat.le_refl _))
      | (go_at_call 34; refine (fine_any _).mono ?_; rintro e wF ⟨rfl, hbF⟩; have hk := keepC hbF (Nat.le_refl _); have hf := keepF hbF (Nat.le_refl _))
      | (go_at_call 13; refine (not_any _).mono ?_; rintro e wF ⟨rfl, hbF⟩; have hk := keepC hbF (Nat.le_refl _); have hf := keepF hbF (Nat.le_refl _)))
  have hZ := two_new (w) (.cells #[.int .i64 x.who, .int .i64 x.obj, .int .i64 x.call, .int .i64 x.part, .int .u32 x.arg, .int .u32 x.val] 32) (.cells #[.int .u32 0, .slice none 0 0] 50)
  have hsz : (w).heap.size = w.heap.size := by simp
  obtain ⟨bZ0, bB⟩ := hZ
  have bZ : (((w).alloc (.cells #[.int .i64 x.who, .int .i64 x.obj, .int .i64 x.call, .int .i64 x.part, .int .u32 x.arg, .int .u32 x.val] 32)).alloc (.cells #[.int .u32 0, .slice none 0 0] 50)).heap[w.heap.size + 1]? = some (.cells #[.int .u32 0, .slice none 0 0] 50) := by rw [hsz] at bZ0; exact bZ0
  have bZF : wF.heap[w.heap.size + 1]? = some (.cells #[.int .u32 0, .slice none 0 0] 50) := (hbF.block _ (Array.getElem?_eq_some_iff.1 bZ).1).trans bZ
  have bF : Below w.heap.size (w) wF := (bB.mono (Nat.le_of_eq hsz.symm)).trans ⟨hbF.os, hbF.tape, hbF.output, hbF.size, fun k hk => hbF.block k (Nat.lt_of_lt_of_le hk (Nat.le_trans (Nat.le_of_eq hsz.symm) bB.size))⟩
  refine bodyPost_ret (results_ans2 rfl _ _ (w.heap.size + 1) _ _ (set2_row bZF _ _) rfl) rfl ?_
  refine ⟨_, rfl, rd_nil _ _, ?_⟩
  have hb2 := set2_below bF (R := w.heap.size + 1) (by omega) (.int .u32 (ansR (none))) (.slice none 0 0)
  exact Upd.same HS.out hb2

set_option maxHeartbeats 1000000 in
theorem lock_1fre (w : World) (g f : Nat) (s : St) (x : Ask) (h : Seg w g f s) (p0 : x.call ≠ 2) (p1 : s.owner ≠ x.who) (p2 : s.owner = -1) :
    Calls Tryd.prog 22 #[.pointer (some ⟨g, f, none⟩), .agg #[.int .i64 x.who, .int .i64 x.obj, .int .i64 x.call, .int .i64 x.part, .int .u32 x.arg, .int .u32 x.val]] w (MPost w g f (some (0, [])) ({ s with owner := x.who })) := by
  have hlt := h.lt
  have c_owner : w.cell? ⟨g, f + 4, none⟩ = some (.int .i64 s.owner) := (h.at 4 (by decide)).1.trans s.cells_at.2.2.2.2
  have z_owner : w.frozen? ⟨g, f + 4, none⟩ = false := (h.at 4 (by decide)).2
  have q0 : (x.call == 2) = false := by simp; omega
  have q1 : (s.owner == -1) = true := by simp; omega
  have q2 : (s.owner != x.who) = true := by simp; omega
  have q3 : (s.owner == x.who) = false := by simp; omega
  have HS := Lib.hid h
  clear h p0 p1 p2
  go_enter Tryd.func22, Tryd.ntmps22
  go_wp2_with (first
      | (go_at_call 33; refine (told_any _ _).mono ?_; rintro e wF ⟨rfl, hbF⟩; have hk := keepC hbF (Nat.le_refl _); have hf := keepF hbF (Nat.le_refl _))
      | (go_at_call 34; refine (fine_any _).mono ?_; rintro e wF ⟨rfl, hbF⟩; have hk := keepC hbF (Nat.le_refl _); have hf := keepF hbF (Nat.le_refl _))
      | (go_at_call 13; refine (not_any _).mono ?_; rintro e wF ⟨rfl, hbF⟩; have hk := keepC hbF (Nat.le_refl _); have hf := keepF hbF (Nat.le_refl _)))
  have hZ := two_new ((w.setCell ⟨g, f + 4, none⟩ (.int .i64 x.who))) (.cells #[.int .i64 x.who, .int .i64 x.obj, .int .i64 x.call, .int .i64 x.part, .int .u32 x.arg, .int .u32 x.val] 32) (.cells #[.int .u32 0, .slice none 0 0] 50)
  have hsz : ((w.setCell ⟨g, f + 4, none⟩ (.int .i64 x.who))).heap.size = w.heap.size := by simp
  obtain ⟨bZ0, bB⟩ := hZ
  have bZ : ((((w.setCell ⟨g, f + 4, none⟩ (.int .i64 x.who))).alloc (.cells #[.int .i64 x.who, .int .i64 x.obj, .int .i64 x.call, .int .i64 x.part, .int .u32 x.arg, .int .u32 x.val] 32)).alloc (.cells #[.int .u32 0, .slice none 0 0] 50)).heap[w.heap.size + 1]? = some (.cells #[.int .u32 0, .slice none 0 0] 50) := by rw [hsz] at bZ0; exact bZ0
  have bZF : wF.heap[w.heap.size + 1]? = some (.cells #[.int .u32 0, .slice none 0 0] 50) := (hbF.block _ (Array.getElem?_eq_some_iff.1 bZ).1).trans bZ
  have bF : Below w.heap.size ((w.setCell ⟨g, f + 4, none⟩ (.int .i64 x.who))) wF := (bB.mono (Nat.le_of_eq hsz.symm)).trans ⟨hbF.os, hbF.tape, hbF.output, hbF.size, fun k hk => hbF.block k (Nat.lt_of_lt_of_le hk (Nat.le_trans (Nat.le_of_eq hsz.symm) bB.size))⟩
  refine bodyPost_ret (results_ans2 rfl _ _ (w.heap.size + 1) _ _ (set2_row bZF _ _) rfl) rfl ?_
  refine ⟨_, rfl, rd_nil _ _, ?_⟩
  have hb2 := set2_below bF (R := w.heap.size + 1) (by omega) (.int .u32 (ansR (some (0, [])))) (.slice none 0 0)
  exact Upd.one HS.out (j := 4) (by decide) (cells_owner s _) (by have hw := HS.out.1; exact ⟨hw.l1, hw.l2, hw.l3, hw.l4, hw.l5⟩) hb2

set_option maxHeartbeats 1000000 in
theorem lock_2own (w : World) (g f : Nat) (s : St) (x : Ask) (h : Seg w g f s) (p0 : x.call = 2) (p1 : s.owner = x.who) :
    Calls Tryd.prog 22 #[.pointer (some ⟨g, f, none⟩), .agg #[.int .i64 x.who, .int .i64 x.obj, .int .i64 x.call, .int .i64 x.part, .int .u32 x.arg, .int .u32 x.val]] w (MPost w g f (some (0, [])) ({ s with owner := -1, data := s.draft })) := by
  have hlt := h.lt
  have c_owner : w.cell? ⟨g, f + 4, none⟩ = some (.int .i64 s.owner) := (h.at 4 (by decide)).1.trans s.cells_at.2.2.2.2
  have z_owner : w.frozen? ⟨g, f + 4, none⟩ = false := (h.at 4 (by decide)).2
  have q0 : (x.call == 2) = true := by simp; omega
  have q1 : (s.owner != x.who) = false := by simp; omega
  have q2 : (s.owner == x.who) = true := by simp; omega
  have y0 : w.cell? ⟨g, f + 16, none⟩ = some (.int .u32 (s.draft.getD 0 0)) := (h.at 16 (by decide)).1.trans (h.1.datAt 0 (by decide)).2
  have y1 : w.cell? ⟨g, f + 17, none⟩ = some (.int .u32 (s.draft.getD 1 0)) := (h.at 17 (by decide)).1.trans (h.1.datAt 1 (by decide)).2
  have y2 : w.cell? ⟨g, f + 18, none⟩ = some (.int .u32 (s.draft.getD 2 0)) := (h.at 18 (by decide)).1.trans (h.1.datAt 2 (by decide)).2
  have y3 : w.cell? ⟨g, f + 16 + 1, none⟩ = some (.int .u32 (s.draft.getD 1 0)) := (h.at 17 (by decide)).1.trans (h.1.datAt 1 (by decide)).2
  have y4 : w.cell? ⟨g, f + 16 + 2, none⟩ = some (.int .u32 (s.draft.getD 2 0)) := (h.at 18 (by decide)).1.trans (h.1.datAt 2 (by decide)).2
  have v0 : w.cell? ⟨g, f + 13, none⟩ = some (.int .u32 (s.data.getD 0 0)) := (h.at 13 (by decide)).1.trans (h.1.datAt 0 (by decide)).1
  have vz0 : w.frozen? ⟨g, f + 13, none⟩ = false := (h.at 13 (by decide)).2
  have v1 : w.cell? ⟨g, f + 14, none⟩ = some (.int .u32 (s.data.getD 1 0)) := (h.at 14 (by decide)).1.trans (h.1.datAt 1 (by decide)).1
  have vz1 : w.frozen? ⟨g, f + 14, none⟩ = false := (h.at 14 (by decide)).2
  have v2 : w.cell? ⟨g, f + 15, none⟩ = some (.int .u32 (s.data.getD 2 0)) := (h.at 15 (by decide)).1.trans (h.1.datAt 2 (by decide)).1
  have vz2 : w.frozen? ⟨g, f + 15, none⟩ = false := (h.at 15 (by decide)).2
  have v3 : w.cell? ⟨g, f + 13 + 1, none⟩ = some (.int .u32 (s.data.getD 1 0)) := (h.at 14 (by decide)).1.trans (h.1.datAt 1 (by decide)).1
  have vz3 : w.frozen? ⟨g, f + 13 + 1, none⟩ = false := (h.at 14 (by decide)).2
  have v4 : w.cell? ⟨g, f + 13 + 2, none⟩ = some (.int .u32 (s.data.getD 2 0)) := (h.at 15 (by decide)).1.trans (h.1.datAt 2 (by decide)).1
  have vz4 : w.frozen? ⟨g, f + 13 + 2, none⟩ = false := (h.at 15 (by decide)).2
  have HS := Lib.hid h
  clear h p0 p1
  go_enter Tryd.func22, Tryd.ntmps22
  go_wp2_with (first
      | (go_at_call 33; refine (told_any _ _).mono ?_; rintro e wF ⟨rfl, hbF⟩; have hk := keepC hbF (Nat.le_refl _); have hf := keepF hbF (Nat.le_refl _))
      | (go_at_call 34; refine (fine_any _).mono ?_; rintro e wF ⟨rfl, hbF⟩; have hk := keepC hbF (Nat.le_refl _); have hf := keepF hbF (Nat.le_refl _))
      | (go_at_call 13; refine (not_any _).mono ?_; rintro e wF ⟨rfl, hbF⟩; have hk := keepC hbF (Nat.le_refl _); have hf := keepF hbF (Nat.le_refl _)))
  go_quiet (fail)
  go_wp2_with (first
      | (go_at_call 33; refine (told_any _ _).mono ?_; rintro e wF ⟨rfl, hbF⟩; have hk := keepC hbF (Nat.le_refl _); have hf := keepF hbF (Nat.le_refl _))
      | (go_at_call 34; refine (fine_any _).mono ?_; rintro e wF ⟨rfl, hbF⟩; have hk := keepC hbF (Nat.le_refl _); have hf := keepF hbF (Nat.le_refl _))
      | (go_at_call 13; refine (not_any _).mono ?_; rintro e wF ⟨rfl, hbF⟩; have hk := keepC hbF (Nat.le_refl _); have hf := keepF hbF (Nat.le_refl _)))
  obtain ⟨bZ0, bB0⟩ := two_new w (.cells #[.int .i64 x.who, .int .i64 x.obj, .int .i64 x.call, .int .i64 x.part, .int .u32 x.arg, .int .u32 x.val] 32) (.cells #[.int .u32 0, .slice none 0 0] 50)
  have bB := Below.both (Below.both (Below.both (Below.both (bl_drewN bB0 nq) ⟨g, f + 4, none⟩ (.int .i64 (-1))) ⟨g, f + 13, none⟩ (.int .u32 (s.draft.getD 0 0))) ⟨g, f + 14, none⟩ (.int .u32 (s.draft.getD 1 0))) ⟨g, f + 15, none⟩ (.int .u32 (s.draft.getD 2 0))
  have bZF : wF.heap[w.heap.size + 1]? = some (.cells #[.int .u32 0, .slice none 0 0] 50) := (hbF.block _ (by have := (Array.getElem?_eq_some_iff.1 bZ0).1; simp at this ⊢)).trans ((Below.heap_setCell _ _ _ _ (show w.heap.size + 1 ≠ g by omega)).trans ((Below.heap_setCell _ _ _ _ (show w.heap.size + 1 ≠ g by omega)).trans ((Below.heap_setCell _ _ _ _ (show w.heap.size + 1 ≠ g by omega)).trans ((Below.heap_setCell _ _ _ _ (show w.heap.size + 1 ≠ g by omega)).trans (bZ0)))))
  have bF : Below w.heap.size (((((w.setCell ⟨g, f + 4, none⟩ (.int .i64 (-1))).setCell ⟨g, f + 13, none⟩ (.int .u32 (s.draft.getD 0 0))).setCell ⟨g, f + 14, none⟩ (.int .u32 (s.draft.getD 1 0))).setCell ⟨g, f + 15, none⟩ (.int .u32 (s.draft.getD 2 0)))) wF := bB.trans ⟨hbF.os, hbF.tape, hbF.output, hbF.size, fun k hk => hbF.block k (Nat.lt_of_lt_of_le hk (by have := bB.size; simp at this ⊢; omega))⟩
  refine bodyPost_ret (results_ans2 rfl _ _ (w.heap.size + 1) _ _ (set2_row bZF _ _) rfl) rfl ?_
  refine ⟨_, rfl, rd_nil _ _, ?_⟩
  have hb2 := set2_below bF (R := w.heap.size + 1) (by omega) (.int .u32 (ansR (some (0, [])))) (.slice none 0 0)
  have hU1 : Upd w g f { s with owner := -1 } (w.setCell ⟨g, f + 4, none⟩ (.int .i64 (-1))) := Upd.one HS.out (j := 4) (by decide) (cells_owner s _) (by have hw := HS.out.1; exact ⟨hw.l1, hw.l2, hw.l3, hw.l4, hw.l5⟩) (Below.refl _ _)
  have hU2 := Upd.data hU1.seg (a := s.draft.getD 0 0) (b := s.draft.getD 1 0) (c := s.draft.getD 2 0) (hb2.mono (Nat.le_of_eq (by simp)))
  have hdd : [s.draft.getD 0 0, s.draft.getD 1 0, s.draft.getD 2 0] = s.draft := by
    obtain ⟨_, _, _, _, _, _, _, _, _, _, _, _, _, _, _, _, _, _, _, _, _, _, _, _, _, _, _, _, _, _, _, _, h3, _, _⟩ := HS.out.1.lists
    rw [h3]; rfl
  rw [hdd] at hU2
  exact hU1.trans hU2

set_option maxHeartbeats 1000000 in
theorem once_10own (w : World) (g f : Nat) (s : St) (x : Ask) (h : Seg w g f s) (p0 : x.call = 10) (p1 : s.owner = x.who) :
    Calls Tryd.prog 21 #[.pointer (some ⟨g, f, none⟩), .agg #[.int .i64 x.who, .int .i64 x.obj, .int .i64 x.call, .int .i64 x.part, .int .u32 x.arg, .int .u32 x.val]] w (MPost w g f (some (0, [])) ({ s with owner := -1, done := true })) := by
  have hlt := h.lt
  have c_owner : w.cell? ⟨g, f + 4, none⟩ = some (.int .i64 s.owner) := (h.at 4 (by decide)).1.trans s.cells_at.2.2.2.2
  have z_owner : w.frozen? ⟨g, f + 4, none⟩ = false := (h.at 4 (by decide)).2
  have c_done : w.cell? ⟨g, f + 20, none⟩ = some (.bool s.done) := (h.at 20 (by decide)).1.trans h.1.mid.2.1
  have z_done : w.frozen? ⟨g, f + 20, none⟩ = false := (h.at 20 (by decide)).2
  have q0 : (x.call == 10) = true := by simp; omega
  have q1 : (s.owner != x.who) = false := by simp; omega
  have q2 : (s.owner == x.who) = true := by simp; omega
  have HS := Lib.hid h
  clear h p0 p1
  go_enter Tryd.func21, Tryd.ntmps21
  go_wp2_with (first
      | (go_at_call 33; refine (told_any _ _).mono ?_; rintro e wF ⟨rfl, hbF⟩; have hk := keepC hbF (Nat.le_refl _); have hf := keepF hbF (Nat.le_refl _))
      | (go_at_call 34; refine (fine_any _).mono ?_; rintro e wF ⟨rfl, hbF⟩; have hk := keepC hbF (Nat.le_refl _); have hf := keepF hbF (Nat.le_refl _))
      | (go_at_call 13; refine (not_any _).mono ?_; rintro e wF ⟨rfl, hbF⟩; have hk := keepC hbF (Nat.le_refl _); have hf := keepF hbF (Nat.le_refl _)))
  go_quiet (fail)
  go_wp2_with (first
      | (go_at_call 33; refine (told_any _ _).mono ?_; rintro e wF ⟨rfl, hbF⟩; have hk := keepC hbF (Nat.le_refl _); have hf := keepF hbF (Nat.le_refl _))
      | (go_at_call 34; refine (fine_any _).mono ?_; rintro e wF ⟨rfl, hbF⟩; have hk := keepC hbF (Nat.le_refl _); have hf := keepF hbF (Nat.le_refl _))
      | (go_at_call 13; refine (not_any _).mono ?_; rintro e wF ⟨rfl, hbF⟩; have hk := keepC hbF (Nat.le_refl _); have hf := keepF hbF (Nat.le_refl _)))
  obtain ⟨bZ0, bB0⟩ := two_new w (.cells #[.int .i64 x.who, .int .i64 x.obj, .int .i64 x.call, .int .i64 x.part, .int .u32 x.arg, .int .u32 x.val] 32) (.cells #[.int .u32 0, .slice none 0 0] 50)
  have bB := Below.both (Below.both (bl_drewN bB0 nq) ⟨g, f + 4, none⟩ (.int .i64 (-1))) ⟨g, f + 20, none⟩ (.bool true)
  have bZF : wF.heap[w.heap.size + 1]? = some (.cells #[.int .u32 0, .slice none 0 0] 50) := (hbF.block _ (by have := (Array.getElem?_eq_some_iff.1 bZ0).1; simp at this ⊢)).trans ((Below.heap_setCell _ _ _ _ (show w.heap.size + 1 ≠ g by omega)).trans ((Below.heap_setCell _ _ _ _ (show w.heap.size + 1 ≠ g by omega)).trans (bZ0)))
  have bF : Below w.heap.size (((w.setCell ⟨g, f + 4, none⟩ (.int .i64 (-1))).setCell ⟨g, f + 20, none⟩ (.bool true))) wF := bB.trans ⟨hbF.os, hbF.tape, hbF.output, hbF.size, fun k hk => hbF.block k (Nat.lt_of_lt_of_le hk (by have := bB.size; simp at this ⊢; omega))⟩
  refine bodyPost_ret (results_ans2 rfl _ _ (w.heap.size + 1) _ _ (set2_row bZF _ _) rfl) rfl ?_
  refine ⟨_, rfl, rd_nil _ _, ?_⟩
  have hb2 := set2_below bF (R := w.heap.size + 1) (by omega) (.int .u32 (ansR (some (0, [])))) (.slice none 0 0)
  have hU1 : Upd w g f { s with owner := -1 } (w.setCell ⟨g, f + 4, none⟩ (.int .i64 (-1))) := Upd.one HS.out (j := 4) (by decide) (cells_owner s _) (by have hw := HS.out.1; exact ⟨hw.l1, hw.l2, hw.l3, hw.l4, hw.l5⟩) (Below.refl _ _)
  exact hU1.trans (Upd.one hU1.seg (j := 20) (by decide) (cells_done hU1.seg.1 true) (by have hw := HS.out.1; exact ⟨hw.l1, hw.l2, hw.l3, hw.l4, hw.l5⟩) (hb2.mono (Nat.le_of_eq (by simp))))

set_option maxHeartbeats 1000000 in
theorem once_10not (w : World) (g f : Nat) (s : St) (x : Ask) (h : Seg w g f s) (p0 : x.call = 10) (p1 : s.owner ≠ x.who) :
    Calls Tryd.prog 21 #[.pointer (some ⟨g, f, none⟩), .agg #[.int .i64 x.who, .int .i64 x.obj, .int .i64 x.call, .int .i64 x.part, .int .u32 x.arg, .int .u32 x.val]] w (MPost w g f (some (2, [])) (s)) := by
  have hlt := h.lt
  have c_owner : w.cell? ⟨g, f + 4, none⟩ = some (.int .i64 s.owner) := (h.at 4 (by decide)).1.trans s.cells_at.2.2.2.2
  have z_owner : w.frozen? ⟨g, f + 4, none⟩ = false := (h.at 4 (by decide)).2
  have c_done : w.cell? ⟨g, f + 20, none⟩ = some (.bool s.done) := (h.at 20 (by decide)).1.trans h.1.mid.2.1
  have z_done : w.frozen? ⟨g, f + 20, none⟩ = false := (h.at 20 (by decide)).2
  have q0 : (x.call == 10) = true := by simp; omega
  have q1 : (s.owner != x.who) = true := by simp; omega
  have q2 : (s.owner == x.who) = false := by simp; omega
  have HS := Lib.hid h
  clear h p0 p1
  go_enter Tryd.func21, Tryd.ntmps21
  go_wp2_with (first
      | (go_at_call 33; refine (told_any _ _).mono ?_; rintro e wF ⟨rfl, hbF⟩; have hk := keepC hbF (Nat.le_refl _); have hf := keepF hbF (Nat.le_refl _))
      | (go_at_call 34; refine (fine_any _).mono ?_; rintro e wF ⟨rfl, hbF⟩; have hk := keepC hbF (Nat.le_refl _); have hf := keepF hbF (Nat.le_refl _))
      | (go_at_call 13; refine (not_any _).mono ?_; rintro e wF ⟨rfl, hbF⟩; have hk := keepC hbF (Nat.le_refl _); have hf := keepF hbF (Nat.le_refl _)))
  go_quiet (fail)
  go_wp2_with (first
      | (go_at_call 33; refine (told_any _ _).mono ?_; rintro e wF ⟨rfl, hbF⟩; have hk := keepC hbF (Nat.le_refl _); have hf := keepF hbF (Nat.le_refl _))
      | (go_at_call 34; refine (fine_any _).mono ?_; rintro e wF ⟨rfl, hbF⟩; have hk := keepC hbF (Nat.le_refl _); have hf := keepF hbF (Nat.le_refl _))
      | (go_at_call 13; refine (not_any _).mono ?_; rintro e wF ⟨rfl, hbF⟩; have hk := keepC hbF (Nat.le_refl _); have hf := keepF hbF (Nat.le_refl _)))
  have hZ := two_new (w) (.cells #[.int .i64 x.who, .int .i64 x.obj, .int .i64 x.call, .int .i64 x.part, .int .u32 x.arg, .int .u32 x.val] 32) (.cells #[.int .u32 0, .slice none 0 0] 50)
  have hsz : (w).heap.size = w.heap.size := by simp
  obtain ⟨bZ0, bB⟩ := hZ
  have bZ : (((w).alloc (.cells #[.int .i64 x.who, .int .i64 x.obj, .int .i64 x.call, .int .i64 x.part, .int .u32 x.arg, .int .u32 x.val] 32)).alloc (.cells #[.int .u32 0, .slice none 0 0] 50)).heap[w.heap.size + 1]? = some (.cells #[.int .u32 0, .slice none 0 0] 50) := by rw [hsz] at bZ0; exact bZ0
  have bZF : wF.heap[w.heap.size + 1]? = some (.cells #[.int .u32 0, .slice none 0 0] 50) := (hbF.block _ (Array.getElem?_eq_some_iff.1 bZ).1).trans bZ
  have bF : Below w.heap.size (w) wF := (bB.mono (Nat.le_of_eq hsz.symm)).trans ⟨hbF.os, hbF.tape, hbF.output, hbF.size, fun k hk => hbF.block k (Nat.lt_of_lt_of_le hk (Nat.le_trans (Nat.le_of_eq hsz.symm) bB.size))⟩
  refine bodyPost_ret (results_ans2 rfl _ _ (w.heap.size + 1) _ _ (set2_row bZF _ _) rfl) rfl ?_
  refine ⟨_, rfl, rd_nil _ _, ?_⟩
  have hb2 := set2_below bF (R := w.heap.size + 1) (by omega) (.int .u32 (ansR (some (2, [])))) (.slice none 0 0)
  exact Upd.same HS.out hb2

set_option maxHeartbeats 1000000 in
theorem once_9own (w : World) (g f : Nat) (s : St) (x : Ask) (h : Seg w g f s) (p0 : x.call ≠ 10) (p1 : s.owner = x.who) :
    Calls Tryd.prog 21 #[.pointer (some ⟨g, f, none⟩), .agg #[.int .i64 x.who, .int .i64 x.obj, .int .i64 x.call, .int .i64 x.part, .int .u32 x.arg, .int .u32 x.val]] w (MPost w g f (some (1, [])) (s)) := by
  have hlt := h.lt
  have c_owner : w.cell? ⟨g, f + 4, none⟩ = some (.int .i64 s.owner) := (h.at 4 (by decide)).1.trans s.cells_at.2.2.2.2
  have z_owner : w.frozen? ⟨g, f + 4, none⟩ = false := (h.at 4 (by decide)).2
  have c_done : w.cell? ⟨g, f + 20, none⟩ = some (.bool s.done) := (h.at 20 (by decide)).1.trans h.1.mid.2.1
  have z_done : w.frozen? ⟨g, f + 20, none⟩ = false := (h.at 20 (by decide)).2
  have q0 : (x.call == 10) = false := by simp; omega
  have q1 : (s.owner != x.who) = false := by simp; omega
  have q2 : (s.owner == x.who) = true := by simp; omega
  have HS := Lib.hid h
  clear h p0 p1
  go_enter Tryd.func21, Tryd.ntmps21
  go_wp2_with (first
      | (go_at_call 33; refine (told_any _ _).mono ?_; rintro e wF ⟨rfl, hbF⟩; have hk := keepC hbF (Nat.le_refl _); have hf := keepF hbF (Nat.le_refl _))
      | (go_at_call 34; refine (fine_any _).mono ?_; rintro e wF ⟨rfl, hbF⟩; have hk := keepC hbF (Nat.le_refl _); have hf := keepF hbF (Nat.le_refl _))
      | (go_at_call 13; refine (not_any _).mono ?_; rintro e wF ⟨rfl, hbF⟩; have hk := keepC hbF (Nat.le_refl _); have hf := keepF hbF (Nat.le_refl _)))
  go_quiet (fail)
  go_wp2_with (first
      | (go_at_call 33; refine (told_any _ _).mono ?_; rintro e wF ⟨rfl, hbF⟩; have hk := keepC hbF (Nat.le_refl _); have hf := keepF hbF (Nat.le_refl _))
      | (go_at_call 34; refine (fine_any _).mono ?_; rintro e wF ⟨rfl, hbF⟩; have hk := keepC hbF (Nat.le_refl _); have hf := keepF hbF (Nat.le_refl _))
      | (go_at_call 13; refine (not_any _).mono ?_; rintro e wF ⟨rfl, hbF⟩; have hk := keepC hbF (Nat.le_refl _); have hf := keepF hbF (Nat.le_refl _)))
  have hZ := two_new (w) (.cells #[.int .i64 x.who, .int .i64 x.obj, .int .i64 x.call, .int .i64 x.part, .int .u32 x.arg, .int .u32 x.val] 32) (.cells #[.int .u32 0, .slice none 0 0] 50)
  have hsz : (w).heap.size = w.heap.size := by simp
  obtain ⟨bZ0, bB⟩ := hZ
  have bZ : (((w).alloc (.cells #[.int .i64 x.who, .int .i64 x.obj, .int .i64 x.call, .int .i64 x.part, .int .u32 x.arg, .int .u32 x.val] 32)).alloc (.cells #[.int .u32 0, .slice none 0 0] 50)).heap[w.heap.size + 1]? = some (.cells #[.int .u32 0, .slice none 0 0] 50) := by rw [hsz] at bZ0; exact bZ0
  have bZF : wF.heap[w.heap.size + 1]? = some (.cells #[.int .u32 0, .slice none 0 0] 50) := (hbF.block _ (Array.getElem?_eq_some_iff.1 bZ).1).trans bZ
  have bF : Below w.heap.size (w) wF := (bB.mono (Nat.le_of_eq hsz.symm)).trans ⟨hbF.os, hbF.tape, hbF.output, hbF.size, fun k hk => hbF.block k (Nat.lt_of_lt_of_le hk (Nat.le_trans (Nat.le_of_eq hsz.symm) bB.size))⟩
  refine bodyPost_ret (results_ans2 rfl _ _ (w.heap.size + 1) _ _ (set2_row bZF _ _) rfl) rfl ?_
  refine ⟨_, rfl, rd_nil _ _, ?_⟩
  have hb2 := set2_below bF (R := w.heap.size + 1) (by omega) (.int .u32 (ansR (some (1, [])))) (.slice none 0 0)
  exact Upd.same HS.out hb2

set_option maxHeartbeats 1000000 in
theorem once_9done (w : World) (g f : Nat) (s : St) (x : Ask) (h : Seg w g f s) (p0 : x.call ≠ 10) (p1 : s.owner ≠ x.who) (p2 : s.done = true) :
    Calls Tryd.prog 21 #[.pointer (some ⟨g, f, none⟩), .agg #[.int .i64 x.who, .int .i64 x.obj, .int .i64 x.call, .int .i64 x.part, .int .u32 x.arg, .int .u32 x.val]] w (MPost w g f (some (0, [])) (s)) := by
  have hlt := h.lt
  have c_owner : w.cell? ⟨g, f + 4, none⟩ = some (.int .i64 s.owner) := (h.at 4 (by decide)).1.trans s.cells_at.2.2.2.2
  have z_owner : w.frozen? ⟨g, f + 4, none⟩ = false := (h.at 4 (by decide)).2
  have c_done : w.cell? ⟨g, f + 20, none⟩ = some (.bool s.done) := (h.at 20 (by decide)).1.trans h.1.mid.2.1
  have z_done : w.frozen? ⟨g, f + 20, none⟩ = false := (h.at 20 (by decide)).2
  have q0 : (x.call == 10) = false := by simp; omega
  have q1 : (s.owner != x.who) = true := by simp; omega
  have q2 : (s.owner == x.who) = false := by simp; omega
  have q3 : s.done = true := by assumption
  have HS := Lib.hid h
  rw [p2] at c_done
  clear h p0 p1 p2
  go_enter Tryd.func21, Tryd.ntmps21
  go_wp2_with (first
      | (go_at_call 33; refine (told_any _ _).mono ?_; rintro e wF ⟨rfl, hbF⟩; have hk := keepC hbF (Nat.le_refl _); have hf := keepF hbF (Nat.le_refl _))
      | (go_at_call 34; refine (fine_any _).mono ?_; rintro e wF ⟨rfl, hbF⟩; have hk := keepC hbF (Nat.le_refl _); have hf := keepF hbF (Nat.le_refl _))
      | (go_at_call 13; refine (not_any _).mono ?_; rintro e wF ⟨rfl, hbF⟩; have hk := keepC hbF (Nat.le_refl _); have hf := keepF hbF (Nat.le_refl _)))
  go_quiet (fail)
  go_wp2_with (first
      | (go_at_call 33; refine (told_any _ _).mono ?_; rintro e wF ⟨rfl, hbF⟩; have hk := keepC hbF (Nat.le_refl _); have hf := keepF hbF (Nat.le_refl _))
      | (go_at_call 34; refine (fine_any _).mono ?_; rintro e wF ⟨rfl, hbF⟩; have hk := keepC hbF (Nat.le_refl _); have hf := keepF hbF (Nat.le_refl _))
      | (go_at_call 13; refine (not_any _).mono ?_; rintro e wF ⟨rfl, hbF⟩; have hk := keepC hbF (Nat.le_refl _); have hf := keepF hbF (Nat.le_refl _)))
  have hZ := two_new (w) (.cells #[.int .i64 x.who, .int .i64 x.obj, .int .i64 x.call, .int .i64 x.part, .int .u32 x.arg, .int .u32 x.val] 32) (.cells #[.int .u32 0, .slice none 0 0] 50)
  have hsz : (w).heap.size = w.heap.size := by simp
  obtain ⟨bZ0, bB⟩ := hZ
  have bZ : (((w).alloc (.cells #[.int .i64 x.who, .int .i64 x.obj, .int .i64 x.call, .int .i64 x.part, .int .u32 x.arg, .int .u32 x.val] 32)).alloc (.cells #[.int .u32 0, .slice none 0 0] 50)).heap[w.heap.size + 1]? = some (.cells #[.int .u32 0, .slice none 0 0] 50) := by rw [hsz] at bZ0; exact bZ0
  have bZF : wF.heap[w.heap.size + 1]? = some (.cells #[.int .u32 0, .slice none 0 0] 50) := (hbF.block _ (Array.getElem?_eq_some_iff.1 bZ).1).trans bZ
  have bF : Below w.heap.size (w) wF := (bB.mono (Nat.le_of_eq hsz.symm)).trans ⟨hbF.os, hbF.tape, hbF.output, hbF.size, fun k hk => hbF.block k (Nat.lt_of_lt_of_le hk (Nat.le_trans (Nat.le_of_eq hsz.symm) bB.size))⟩
  refine bodyPost_ret (results_ans2 rfl _ _ (w.heap.size + 1) _ _ (set2_row bZF _ _) rfl) rfl ?_
  refine ⟨_, rfl, rd_nil _ _, ?_⟩
  have hb2 := set2_below bF (R := w.heap.size + 1) (by omega) (.int .u32 (ansR (some (0, [])))) (.slice none 0 0)
  exact Upd.same HS.out hb2

set_option maxHeartbeats 1000000 in
theorem once_9bus (w : World) (g f : Nat) (s : St) (x : Ask) (h : Seg w g f s) (p0 : x.call ≠ 10) (p1 : s.owner ≠ x.who) (p2 : s.done = false) (p3 : 0 ≤ s.owner) :
    Calls Tryd.prog 21 #[.pointer (some ⟨g, f, none⟩), .agg #[.int .i64 x.who, .int .i64 x.obj, .int .i64 x.call, .int .i64 x.part, .int .u32 x.arg, .int .u32 x.val]] w (MPost w g f (none) (s)) := by
  have hlt := h.lt
  have c_owner : w.cell? ⟨g, f + 4, none⟩ = some (.int .i64 s.owner) := (h.at 4 (by decide)).1.trans s.cells_at.2.2.2.2
  have z_owner : w.frozen? ⟨g, f + 4, none⟩ = false := (h.at 4 (by decide)).2
  have c_done : w.cell? ⟨g, f + 20, none⟩ = some (.bool s.done) := (h.at 20 (by decide)).1.trans h.1.mid.2.1
  have z_done : w.frozen? ⟨g, f + 20, none⟩ = false := (h.at 20 (by decide)).2
  have q0 : (x.call == 10) = false := by simp; omega
  have q1 : (s.owner != x.who) = true := by simp; omega
  have q2 : (s.owner == x.who) = false := by simp; omega
  have q3 : decide (0 ≤ s.owner) = true := by exact decide_eq_true (by omega)
  have HS := Lib.hid h
  rw [p2] at c_done
  clear h p0 p1 p2 p3
  go_enter Tryd.func21, Tryd.ntmps21
  go_wp2_with (first
      | (go_at_call 33; refine (told_any _ _).mono ?_; rintro e wF ⟨rfl, hbF⟩; have hk := keepC hbF (Nat.le_refl _); have hf := keepF hbF (Nat.le_refl _))
      | (go_at_call 34; refine (fine_any _).mono ?_; rintro e wF ⟨rfl, hbF⟩; have hk := keepC hbF (Nat.le_refl _); have hf := keepF hbF (Nat.le_refl _))
      | (go_at_call 13; refine (not_any _).mono ?_; rintro e wF ⟨rfl, hbF⟩; have hk := keepC hbF (Nat.le_refl _); have hf := keepF hbF (Nat.le_refl _)))
  go_quiet (fail)
  go_wp2_with (first
      | (go_at_call 33; refine (told_any _ _).mono ?_; rintro e wF ⟨rfl, hbF⟩; have hk := keepC hbF (Nat.le_refl _); have hf := keepF hbF (Nat.le_refl _))
      | (go_at_call 34; refine (fine_any _).mono ?_; rintro e wF ⟨rfl, hbF⟩; have hk := keepC hbF (Nat.le_refl _); have hf := keepF hbF (Nat.le_refl _))
      | (go_at_call 13; refine (not_any _).mono ?_; rintro e wF ⟨rfl, hbF⟩; have hk := keepC hbF (Nat.le_refl _); have hf := keepF hbF (Nat.le_refl _)))
  have hZ := two_new (w) (.cells #[.int .i64 x.who, .int .i64 x.obj, .int .i64 x.call, .int .i64 x.part, .int .u32 x.arg, .int .u32 x.val] 32) (.cells #[.int .u32 0, .slice none 0 0] 50)
  have hsz : (w).heap.size = w.heap.size := by simp
  obtain ⟨bZ0, bB⟩ := hZ
  have bZ : (((w).alloc (.cells #[.int .i64 x.who, .int .i64 x.obj, .int .i64 x.call, .int .i64 x.part, .int .u32 x.arg, .int .u32 x.val] 32)).alloc (.cells #[.int .u32 0, .slice none 0 0] 50)).heap[w.heap.size + 1]? = some (.cells #[.int .u32 0, .slice none 0 0] 50) := by rw [hsz] at bZ0; exact bZ0
  have bZF : wF.heap[w.heap.size + 1]? = some (.cells #[.int .u32 0, .slice none 0 0] 50) := (hbF.block _ (Array.getElem?_eq_some_iff.1 bZ).1).trans bZ
  have bF : Below w.heap.size (w) wF := (bB.mono (Nat.le_of_eq hsz.symm)).trans ⟨hbF.os, hbF.tape, hbF.output, hbF.size, fun k hk => hbF.block k (Nat.lt_of_lt_of_le hk (Nat.le_trans (Nat.le_of_eq hsz.symm) bB.size))⟩
  refine bodyPost_ret (results_ans2 rfl _ _ (w.heap.size + 1) _ _ (set2_row bZF _ _) rfl) rfl ?_
  refine ⟨_, rfl, rd_nil _ _, ?_⟩
  have hb2 := set2_below bF (R := w.heap.size + 1) (by omega) (.int .u32 (ansR (none))) (.slice none 0 0)
  exact Upd.same HS.out hb2

set_option maxHeartbeats 1000000 in
theorem once_9fre (w : World) (g f : Nat) (s : St) (x : Ask) (h : Seg w g f s) (p0 : x.call ≠ 10) (p1 : s.owner ≠ x.who) (p2 : s.done = false) (p3 : s.owner < 0) :
    Calls Tryd.prog 21 #[.pointer (some ⟨g, f, none⟩), .agg #[.int .i64 x.who, .int .i64 x.obj, .int .i64 x.call, .int .i64 x.part, .int .u32 x.arg, .int .u32 x.val]] w (MPost w g f (some (5, [])) ({ s with owner := x.who })) := by
  have hlt := h.lt
  have c_owner : w.cell? ⟨g, f + 4, none⟩ = some (.int .i64 s.owner) := (h.at 4 (by decide)).1.trans s.cells_at.2.2.2.2
  have z_owner : w.frozen? ⟨g, f + 4, none⟩ = false := (h.at 4 (by decide)).2
  have c_done : w.cell? ⟨g, f + 20, none⟩ = some (.bool s.done) := (h.at 20 (by decide)).1.trans h.1.mid.2.1
  have z_done : w.frozen? ⟨g, f + 20, none⟩ = false := (h.at 20 (by decide)).2
  have q0 : (x.call == 10) = false := by simp; omega
  have q1 : (s.owner != x.who) = true := by simp; omega
  have q2 : (s.owner == x.who) = false := by simp; omega
  have q3 : decide (0 ≤ s.owner) = false := by exact decide_eq_false (by omega)
  have HS := Lib.hid h
  rw [p2] at c_done
  clear h p0 p1 p2 p3
  go_enter Tryd.func21, Tryd.ntmps21
  go_wp2_with (first
      | (go_at_call 33; refine (told_any _ _).mono ?_; rintro e wF ⟨rfl, hbF⟩; have hk := keepC hbF (Nat.le_refl _); have hf := keepF hbF (Nat.le_refl _))
      | (go_at_call 34; refine (fine_any _).mono ?_; rintro e wF ⟨rfl, hbF⟩; have hk := keepC hbF (Nat.le_refl _); have hf := keepF hbF (Nat.le_refl _))
      | (go_at_call 13; refine (not_any _).mono ?_; rintro e wF ⟨rfl, hbF⟩; have hk := keepC hbF (Nat.le_refl _); have hf := keepF hbF (Nat.le_refl _)))
  go_quiet (fail)
  go_wp2_with (first
      | (go_at_call 33; refine (told_any _ _).mono ?_; rintro e wF ⟨rfl, hbF⟩; have hk := keepC hbF (Nat.le_refl _); have hf := keepF hbF (Nat.le_refl _))
      | (go_at_call 34; refine (fine_any _).mono ?_; rintro e wF ⟨rfl, hbF⟩; have hk := keepC hbF (Nat.le_refl _); have hf := keepF hbF (Nat.le_refl _))
      | (go_at_call 13; refine (not_any _).mono ?_; rintro e wF ⟨rfl, hbF⟩; have hk := keepC hbF (Nat.le_refl _); have hf := keepF hbF (Nat.le_refl _)))
  obtain ⟨bZ0, bB0⟩ := two_new w (.cells #[.int .i64 x.who, .int .i64 x.obj, .int .i64 x.call, .int .i64 x.part, .int .u32 x.arg, .int .u32 x.val] 32) (.cells #[.int .u32 0, .slice none 0 0] 50)
  have bB := Below.both (bl_drewN bB0 nq) ⟨g, f + 4, none⟩ (.int .i64 x.who)
  have bZF : wF.heap[w.heap.size + 1]? = some (.cells #[.int .u32 0, .slice none 0 0] 50) := (hbF.block _ (by have := (Array.getElem?_eq_some_iff.1 bZ0).1; simp at this ⊢)).trans ((Below.heap_setCell _ _ _ _ (show w.heap.size + 1 ≠ g by omega)).trans (bZ0))
  have bF : Below w.heap.size ((w.setCell ⟨g, f + 4, none⟩ (.int .i64 x.who))) wF := bB.trans ⟨hbF.os, hbF.tape, hbF.output, hbF.size, fun k hk => hbF.block k (Nat.lt_of_lt_of_le hk (by have := bB.size; simp at this ⊢; omega))⟩
  refine bodyPost_ret (results_ans2 rfl _ _ (w.heap.size + 1) _ _ (set2_row bZF _ _) rfl) rfl ?_
  refine ⟨_, rfl, rd_nil _ _, ?_⟩
  have hb2 := set2_below bF (R := w.heap.size + 1) (by omega) (.int .u32 (ansR (some (5, [])))) (.slice none 0 0)
  exact Upd.one HS.out (j := 4) (by decide) (cells_owner s _) (by have hw := HS.out.1; exact ⟨hw.l1, hw.l2, hw.l3, hw.l4, hw.l5⟩) hb2

set_option maxHeartbeats 1000000 in
theorem sem_2over (w : World) (g f : Nat) (s : St) (x : Ask) (h : Seg w g f s) (p0 : -1000000 ≤ s.count) (p1 : s.count ≤ 1000000) (p2 : x.call = 2) (p3 : s.count = s.o.a) :
    Calls Tryd.prog 17 #[.pointer (some ⟨g, f, none⟩), .agg #[.int .i64 x.who, .int .i64 x.obj, .int .i64 x.call, .int .i64 x.part, .int .u32 x.arg, .int .u32 x.val]] w (MPost w g f (some (3, [])) (s)) := by
  have hlt := h.lt
  have c_count : w.cell? ⟨g, f + 19, none⟩ = some (.int .i64 s.count) := (h.at 19 (by decide)).1.trans h.1.mid.1
  have z_count : w.frozen? ⟨g, f + 19, none⟩ = false := (h.at 19 (by decide)).2
  have c_a : w.cell? ⟨g, f + 2, none⟩ = some (.int .i64 s.o.a) := (h.at 2 (by decide)).1.trans s.cells_at.2.2.1
  have z_a : w.frozen? ⟨g, f + 2, none⟩ = false := (h.at 2 (by decide)).2
  have q0 : (x.call == 2) = true := by simp; omega
  have q1 : (s.count == s.o.a) = true := by simp; omega
  have wr1 : IntKind.i64.wrap (s.count + 1) = s.count + 1 := by rw [IntKind.wrap_i64]; omega
  have wr2 : IntKind.i64.wrap (s.count - 1) = s.count - 1 := by rw [IntKind.wrap_i64]; omega
  have HS := Lib.hid h
  clear h p0 p1 p2 p3
  go_enter Tryd.func17, Tryd.ntmps17
  go_wp2_with (first
      | (go_at_call 33; refine (told_any _ _).mono ?_; rintro e wF ⟨rfl, hbF⟩; have hk := keepC hbF (Nat.le_refl _); have hf := keepF hbF (Nat.le_refl _))
      | (go_at_call 34; refine (fine_any _).mono ?_; rintro e wF ⟨rfl, hbF⟩; have hk := keepC hbF (Nat.le_refl _); have hf := keepF hbF (Nat.le_refl _))
      | (go_at_call 13; refine (not_any _).mono ?_; rintro e wF ⟨rfl, hbF⟩; have hk := keepC hbF (Nat.le_refl _); have hf := keepF hbF (Nat.le_refl _)))
  go_quiet (fail)
  go_wp2_with (first
      | (go_at_call 33; refine (told_any _ _).mono ?_; rintro e wF ⟨rfl, hbF⟩; have hk := keepC hbF (Nat.le_refl _); have hf := keepF hbF (Nat.le_refl _))
      | (go_at_call 34; refine (fine_any _).mono ?_; rintro e wF ⟨rfl, hbF⟩; have hk := keepC hbF (Nat.le_refl _); have hf := keepF hbF (Nat.le_refl _))
      | (go_at_call 13; refine (not_any _).mono ?_; rintro e wF ⟨rfl, hbF⟩; have hk := keepC hbF (Nat.le_refl _); have hf := keepF hbF (Nat.le_refl _)))
  have hZ := two_new (w) (.cells #[.int .i64 x.who, .int .i64 x.obj, .int .i64 x.call, .int .i64 x.part, .int .u32 x.arg, .int .u32 x.val] 32) (.cells #[.int .u32 0, .slice none 0 0] 50)
  have hsz : (w).heap.size = w.heap.size := by simp
  obtain ⟨bZ0, bB⟩ := hZ
  have bZ : (((w).alloc (.cells #[.int .i64 x.who, .int .i64 x.obj, .int .i64 x.call, .int .i64 x.part, .int .u32 x.arg, .int .u32 x.val] 32)).alloc (.cells #[.int .u32 0, .slice none 0 0] 50)).heap[w.heap.size + 1]? = some (.cells #[.int .u32 0, .slice none 0 0] 50) := by rw [hsz] at bZ0; exact bZ0
  have bZF : wF.heap[w.heap.size + 1]? = some (.cells #[.int .u32 0, .slice none 0 0] 50) := (hbF.block _ (Array.getElem?_eq_some_iff.1 bZ).1).trans bZ
  have bF : Below w.heap.size (w) wF := (bB.mono (Nat.le_of_eq hsz.symm)).trans ⟨hbF.os, hbF.tape, hbF.output, hbF.size, fun k hk => hbF.block k (Nat.lt_of_lt_of_le hk (Nat.le_trans (Nat.le_of_eq hsz.symm) bB.size))⟩
  refine bodyPost_ret (results_ans2 rfl _ _ (w.heap.size + 1) _ _ (set2_row bZF _ _) rfl) rfl ?_
  refine ⟨_, rfl, rd_nil _ _, ?_⟩
  have hb2 := set2_below bF (R := w.heap.size + 1) (by omega) (.int .u32 (ansR (some (3, [])))) (.slice none 0 0)
  exact Upd.same HS.out hb2

set_option maxHeartbeats 1000000 in
theorem sem_2up (w : World) (g f : Nat) (s : St) (x : Ask) (h : Seg w g f s) (p0 : -1000000 ≤ s.count) (p1 : s.count ≤ 1000000) (p2 : x.call = 2) (p3 : s.count ≠ s.o.a) :
    Calls Tryd.prog 17 #[.pointer (some ⟨g, f, none⟩), .agg #[.int .i64 x.who, .int .i64 x.obj, .int .i64 x.call, .int .i64 x.part, .int .u32 x.arg, .int .u32 x.val]] w (MPost w g f (some (0, [])) ({ s with count := s.count + 1 })) := by
  have hlt := h.lt
  have c_count : w.cell? ⟨g, f + 19, none⟩ = some (.int .i64 s.count) := (h.at 19 (by decide)).1.trans h.1.mid.1
  have z_count : w.frozen? ⟨g, f + 19, none⟩ = false := (h.at 19 (by decide)).2
  have c_a : w.cell? ⟨g, f + 2, none⟩ = some (.int .i64 s.o.a) := (h.at 2 (by decide)).1.trans s.cells_at.2.2.1
  have z_a : w.frozen? ⟨g, f + 2, none⟩ = false := (h.at 2 (by decide)).2
  have q0 : (x.call == 2) = true := by simp; omega
  have q1 : (s.count == s.o.a) = false := by simp; omega
  have wr1 : IntKind.i64.wrap (s.count + 1) = s.count + 1 := by rw [IntKind.wrap_i64]; omega
  have wr2 : IntKind.i64.wrap (s.count - 1) = s.count - 1 := by rw [IntKind.wrap_i64]; omega
  have HS := Lib.hid h
  clear h p0 p1 p2 p3
  go_enter Tryd.func17, Tryd.ntmps17
  go_wp2_with (first
      | (go_at_call 33; refine (told_any _ _).mono ?_; rintro e wF ⟨rfl, hbF⟩; have hk := keepC hbF (Nat.le_refl _); have hf := keepF hbF (Nat.le_refl _))
      | (go_at_call 34; refine (fine_any _).mono ?_; rintro e wF ⟨rfl, hbF⟩; have hk := keepC hbF (Nat.le_refl _); have hf := keepF hbF (Nat.le_refl _))
      | (go_at_call 13; refine (not_any _).mono ?_; rintro e wF ⟨rfl, hbF⟩; have hk := keepC hbF (Nat.le_refl _); have hf := keepF hbF (Nat.le_refl _)))
  go_quiet (fail)
  go_wp2_with (first
      | (go_at_call 33; refine (told_any _ _).mono ?_; rintro e wF ⟨rfl, hbF⟩; have hk := keepC hbF (Nat.le_refl _); have hf := keepF hbF (Nat.le_refl _))
      | (go_at_call 34; refine (fine_any _).mono ?_; rintro e wF ⟨rfl, hbF⟩; have hk := keepC hbF (Nat.le_refl _); have hf := keepF hbF (Nat.le_refl _))
      | (go_at_call 13; refine (not_any _).mono ?_; rintro e wF ⟨rfl, hbF⟩; have hk := keepC hbF (Nat.le_refl _); have hf := keepF hbF (Nat.le_refl _)))
  obtain ⟨bZ0, bB0⟩ := two_new w (.cells #[.int .i64 x.who, .int .i64 x.obj, .int .i64 x.call, .int .i64 x.part, .int .u32 x.arg, .int .u32 x.val] 32) (.cells #[.int .u32 0, .slice none 0 0] 50)
  have bB := Below.both (bl_drewN bB0 nq) ⟨g, f + 19, none⟩ (.int .i64 (s.count + 1))
  have bZF : wF.heap[w.heap.size + 1]? = some (.cells #[.int .u32 0, .slice none 0 0] 50) := (hbF.block _ (by have := (Array.getElem?_eq_some_iff.1 bZ0).1; simp at this ⊢)).trans ((Below.heap_setCell _ _ _ _ (show w.heap.size + 1 ≠ g by omega)).trans (bZ0))
  have bF : Below w.heap.size ((w.setCell ⟨g, f + 19, none⟩ (.int .i64 (s.count + 1)))) wF := bB.trans ⟨hbF.os, hbF.tape, hbF.output, hbF.size, fun k hk => hbF.block k (Nat.lt_of_lt_of_le hk (by have := bB.size; simp at this ⊢; omega))⟩
  refine bodyPost_ret (results_ans2 rfl _ _ (w.heap.size + 1) _ _ (set2_row bZF _ _) rfl) rfl ?_
  refine ⟨_, rfl, rd_nil _ _, ?_⟩
  have hb2 := set2_below bF (R := w.heap.size + 1) (by omega) (.int .u32 (ansR (some (0, [])))) (.slice none 0 0)
  exact Upd.one HS.out (j := 19) (by decide) (cells_count HS.out.1 _) (by have hw := HS.out.1; exact ⟨hw.l1, hw.l2, hw.l3, hw.l4, hw.l5⟩) hb2

set_option maxHeartbeats 1000000 in
theorem sem_1no (w : World) (g f : Nat) (s : St) (x : Ask) (h : Seg w g f s) (p0 : -1000000 ≤ s.count) (p1 : s.count ≤ 1000000) (p2 : x.call ≠ 2) (p3 : s.count = 0) :
    Calls Tryd.prog 17 #[.pointer (some ⟨g, f, none⟩), .agg #[.int .i64 x.who, .int .i64 x.obj, .int .i64 x.call, .int .i64 x.part, .int .u32 x.arg, .int .u32 x.val]] w (MPost w g f (none) (s)) := by
  have hlt := h.lt
  have c_count : w.cell? ⟨g, f + 19, none⟩ = some (.int .i64 s.count) := (h.at 19 (by decide)).1.trans h.1.mid.1
  have z_count : w.frozen? ⟨g, f + 19, none⟩ = false := (h.at 19 (by decide)).2
  have c_a : w.cell? ⟨g, f + 2, none⟩ = some (.int .i64 s.o.a) := (h.at 2 (by decide)).1.trans s.cells_at.2.2.1
  have z_a : w.frozen? ⟨g, f + 2, none⟩ = false := (h.at 2 (by decide)).2
  have q0 : (x.call == 2) = false := by simp; omega
  have q1 : (s.count == 0) = true := by simp; omega
  have wr1 : IntKind.i64.wrap (s.count + 1) = s.count + 1 := by rw [IntKind.wrap_i64]; omega
  have wr2 : IntKind.i64.wrap (s.count - 1) = s.count - 1 := by rw [IntKind.wrap_i64]; omega
  have HS := Lib.hid h
  clear h p0 p1 p2 p3
  go_enter Tryd.func17, Tryd.ntmps17
  go_wp2_with (first
      | (go_at_call 33; refine (told_any _ _).mono ?_; rintro e wF ⟨rfl, hbF⟩; have hk := keepC hbF (Nat.le_refl _); have hf := keepF hbF (Nat.le_refl _))
      | (go_at_call 34; refine (fine_any _).mono ?_; rintro e wF ⟨rfl, hbF⟩; have hk := keepC hbF (Nat.le_refl _); have hf := keepF hbF (Nat.le_refl _))
      | (go_at_call 13; refine (not_any _).mono ?_; rintro e wF ⟨rfl, hbF⟩; have hk := keepC hbF (Nat.le_refl _); have hf := keepF hbF (Nat.le_refl _)))
  go_quiet (fail)
  go_wp2_with (first
      | (go_at_call 33; refine (told_any _ _).mono ?_; rintro e wF ⟨rfl, hbF⟩; have hk := keepC hbF (Nat.le_refl _); have hf := keepF hbF (Nat.le_refl _))
      | (go_at_call 34; refine (fine_any _).mono ?_; rintro e wF ⟨rfl, hbF⟩; have hk := keepC hbF (Nat.le_refl _); have hf := keepF hbF (Nat.le_refl _))
      | (go_at_call 13; refine (not_any _).mono ?_; rintro e wF ⟨rfl, hbF⟩; have hk := keepC hbF (Nat.le_refl _); have hf := keepF hbF (Nat.le_refl _)))
  have hZ := two_new (w) (.cells #[.int .i64 x.who, .int .i64 x.obj, .int .i64 x.call, .int .i64 x.part, .int .u32 x.arg, .int .u32 x.val] 32) (.cells #[.int .u32 0, .slice none 0 0] 50)
  have hsz : (w).heap.size = w.heap.size := by simp
  obtain ⟨bZ0, bB⟩ := hZ
  have bZ : (((w).alloc (.cells #[.int .i64 x.who, .int .i64 x.obj, .int .i64 x.call, .int .i64 x.part, .int .u32 x.arg, .int .u32 x.val] 32)).alloc (.cells #[.int .u32 0, .slice none 0 0] 50)).heap[w.heap.size + 1]? = some (.cells #[.int .u32 0, .slice none 0 0] 50) := by rw [hsz] at bZ0; exact bZ0
  have bZF : wF.heap[w.heap.size + 1]? = some (.cells #[.int .u32 0, .slice none 0 0] 50) := (hbF.block _ (Array.getElem?_eq_some_iff.1 bZ).1).trans bZ
  have bF : Below w.heap.size (w) wF := (bB.mono (Nat.le_of_eq hsz.symm)).trans ⟨hbF.os, hbF.tape, hbF.output, hbF.size, fun k hk => hbF.block k (Nat.lt_of_lt_of_le hk (Nat.le_trans (Nat.le_of_eq hsz.symm) bB.size))⟩
  refine bodyPost_ret (results_ans2 rfl _ _ (w.heap.size + 1) _ _ (set2_row bZF _ _) rfl) rfl ?_
  refine ⟨_, rfl, rd_nil _ _, ?_⟩
  have hb2 := set2_below bF (R := w.heap.size + 1) (by omega) (.int .u32 (ansR (none))) (.slice none 0 0)
  exact Upd.same HS.out hb2

set_option maxHeartbeats 1000000 in
theorem sem_1down (w : World) (g f : Nat) (s : St) (x : Ask) (h : Seg w g f s) (p0 : -1000000 ≤ s.count) (p1 : s.count ≤ 1000000) (p2 : x.call ≠ 2) (p3 : s.count ≠ 0) :
    Calls Tryd.prog 17 #[.pointer (some ⟨g, f, none⟩), .agg #[.int .i64 x.who, .int .i64 x.obj, .int .i64 x.call, .int .i64 x.part, .int .u32 x.arg, .int .u32 x.val]] w (MPost w g f (some (0, [])) ({ s with count := s.count - 1 })) := by
  have hlt := h.lt
  have c_count : w.cell? ⟨g, f + 19, none⟩ = some (.int .i64 s.count) := (h.at 19 (by decide)).1.trans h.1.mid.1
  have z_count : w.frozen? ⟨g, f + 19, none⟩ = false := (h.at 19 (by decide)).2
  have c_a : w.cell? ⟨g, f + 2, none⟩ = some (.int .i64 s.o.a) := (h.at 2 (by decide)).1.trans s.cells_at.2.2.1
  have z_a : w.frozen? ⟨g, f + 2, none⟩ = false := (h.at 2 (by decide)).2
  have q0 : (x.call == 2) = false := by simp; omega
  have q1 : (s.count == 0) = false := by simp; omega
  have wr1 : IntKind.i64.wrap (s.count + 1) = s.count + 1 := by rw [IntKind.wrap_i64]; omega
  have wr2 : IntKind.i64.wrap (s.count - 1) = s.count - 1 := by rw [IntKind.wrap_i64]; omega
  have HS := Lib.hid h
  clear h p0 p1 p2 p3
  go_enter Tryd.func17, Tryd.ntmps17
  go_wp2_with (first
      | (go_at_call 33; refine (told_any _ _).mono ?_; rintro e wF ⟨rfl, hbF⟩; have hk := keepC hbF (Nat.le_refl _); have hf := keepF hbF (Nat.le_refl _))
      | (go_at_call 34; refine (fine_any _).mono ?_; rintro e wF ⟨rfl, hbF⟩; have hk := keepC hbF (Nat.le_refl _); have hf := keepF hbF (Nat.le_refl _))
      | (go_at_call 13; refine (not_any _).mono ?_; rintro e wF ⟨rfl, hbF⟩; have hk := keepC hbF (Nat.le_refl _); have hf := keepF hbF (Nat.le_refl _)))
  go_quiet (fail)
  go_wp2_with (first
      | (go_at_call 33; refine (told_any _ _).mono ?_; rintro e wF ⟨rfl, hbF⟩; have hk := keepC hbF (Nat.le_refl _); have hf := keepF hbF (Nat.le_refl _))
      | (go_at_call 34; refine (fine_any _).mono ?_; rintro e wF ⟨rfl, hbF⟩; have hk := keepC hbF (Nat.le_refl _); have hf := keepF hbF (Nat.le_refl _))
      | (go_at_call 13; refine (not_any _).mono ?_; rintro e wF ⟨rfl, hbF⟩; have hk := keepC hbF (Nat.le_refl _); have hf := keepF hbF (Nat.le_refl _)))
  obtain ⟨bZ0, bB0⟩ := two_new w (.cells #[.int .i64 x.who, .int .i64 x.obj, .int .i64 x.call, .int .i64 x.part, .int .u32 x.arg, .int .u32 x.val] 32) (.cells #[.int .u32 0, .slice none 0 0] 50)
  have bB := Below.both (bl_drewN bB0 nq) ⟨g, f + 19, none⟩ (.int .i64 (s.count - 1))
  have bZF : wF.heap[w.heap.size + 1]? = some (.cells #[.int .u32 0, .slice none 0 0] 50) := (hbF.block _ (by have := (Array.getElem?_eq_some_iff.1 bZ0).1; simp at this ⊢)).trans ((Below.heap_setCell _ _ _ _ (show w.heap.size + 1 ≠ g by omega)).trans (bZ0))
  have bF : Below w.heap.size ((w.setCell ⟨g, f + 19, none⟩ (.int .i64 (s.count - 1)))) wF := bB.trans ⟨hbF.os, hbF.tape, hbF.output, hbF.size, fun k hk => hbF.block k (Nat.lt_of_lt_of_le hk (by have := bB.size; simp at this ⊢; omega))⟩
  refine bodyPost_ret (results_ans2 rfl _ _ (w.heap.size + 1) _ _ (set2_row bZF _ _) rfl) rfl ?_
  refine ⟨_, rfl, rd_nil _ _, ?_⟩
  have hb2 := set2_below bF (R := w.heap.size + 1) (by omega) (.int .u32 (ansR (some (0, [])))) (.slice none 0 0)
  exact Upd.one HS.out (j := 19) (by decide) (cells_count HS.out.1 _) (by have hw := HS.out.1; exact ⟨hw.l1, hw.l2, hw.l3, hw.l4, hw.l5⟩) hb2

set_option maxHeartbeats 1000000 in
theorem cond_any (w : World) (g f : Nat) (s : St) (x : Ask) (h : Seg w g f s)  :
    Calls Tryd.prog 18 #[.pointer (some ⟨g, f, none⟩), .agg #[.int .i64 x.who, .int .i64 x.obj, .int .i64 x.call, .int .i64 x.part, .int .u32 x.arg, .int .u32 x.val]] w (MPost w g f (some (0, [])) (s)) := by
  have hlt := h.lt
  have HS := Lib.hid h
  clear h
  go_enter Tryd.func18, Tryd.ntmps18
  go_wp2_with (first
      | (go_at_call 33; refine (told_any _ _).mono ?_; rintro e wF ⟨rfl, hbF⟩; have hk := keepC hbF (Nat.le_refl _); have hf := keepF hbF (Nat.le_refl _))
      | (go_at_call 34; refine (fine_any _).mono ?_; rintro e wF ⟨rfl, hbF⟩; have hk := keepC hbF (Nat.le_refl _); have hf := keepF hbF (Nat.le_refl _))
      | (go_at_call 13; refine (not_any _).mono ?_; rintro e wF ⟨rfl, hbF⟩; have hk := keepC hbF (Nat.le_refl _); have hf := keepF hbF (Nat.le_refl _)))
  have hZ := two_new (w) (.cells #[.int .i64 x.who, .int .i64 x.obj, .int .i64 x.call, .int .i64 x.part, .int .u32 x.arg, .int .u32 x.val] 32) (.cells #[.int .u32 0, .slice none 0 0] 50)
  have hsz : (w).heap.size = w.heap.size := by simp
  obtain ⟨bZ0, bB⟩ := hZ
  have bZ : (((w).alloc (.cells #[.int .i64 x.who, .int .i64 x.obj, .int .i64 x.call, .int .i64 x.part, .int .u32 x.arg, .int .u32 x.val] 32)).alloc (.cells #[.int .u32 0, .slice none 0 0] 50)).heap[w.heap.size + 1]? = some (.cells #[.int .u32 0, .slice none 0 0] 50) := by rw [hsz] at bZ0; exact bZ0
  have bZF : wF.heap[w.heap.size + 1]? = some (.cells #[.int .u32 0, .slice none 0 0] 50) := (hbF.block _ (Array.getElem?_eq_some_iff.1 bZ).1).trans bZ
  have bF : Below w.heap.size (w) wF := (bB.mono (Nat.le_of_eq hsz.symm)).trans ⟨hbF.os, hbF.tape, hbF.output, hbF.size, fun k hk => hbF.block k (Nat.lt_of_lt_of_le hk (Nat.le_trans (Nat.le_of_eq hsz.symm) bB.size))⟩
  refine bodyPost_ret (results_ans2 rfl _ _ (w.heap.size + 1) _ _ (set2_row bZF _ _) rfl) rfl ?_
  refine ⟨_, rfl, rd_nil _ _, ?_⟩
  have hb2 := set2_below bF (R := w.heap.size + 1) (by omega) (.int .u32 (ansR (some (0, [])))) (.slice none 0 0)
  exact Upd.same HS.out hb2

end Go.Proofs.YtfemeiopfpblaaaDoor.As
