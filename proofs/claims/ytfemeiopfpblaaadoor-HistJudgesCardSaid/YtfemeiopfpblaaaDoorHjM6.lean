/- The walks of the package abs: a barrier. -/
import Derived.Test.YtfemeiopfpblaaaDoorHjM5
set_option linter.unusedVariables false
set_option linter.unusedSimpArgs false
set_option maxRecDepth 20000
namespace Go.Proofs.YtfemeiopfpblaaaDoor.As
open Go.RowKit

theorem cells_come {s : St} (h : s.Wf) (t : Nat) (ht : t < 8) (v : Int) : ({ s with come := s.come.set t v } : St).cells = s.cells.set (21 + t) (.int .i64 v) := by
  obtain ⟨h1, h2, h3, h4, h5⟩ := h
  unfold St.cells St.head
  rw [List.set_append_right _ _ (by simp; omega), List.set_append_right _ _ (by simp [h1]; omega), List.set_append_right _ _ (by simp [h1, h2]; omega), List.set_append_right _ _ (by simp [h1, h2, h3]; omega), List.set_append_right _ _ (by simp [h1, h2, h3]; omega), List.set_append_left _ _ (by simp [h1, h2, h3, h4]; omega)]
  simp [List.map_set, h1, h2, h3]
  congr 1
  omega
theorem cells_left {s : St} (h : s.Wf) (t : Nat) (ht : t < 8) (v : Int) : ({ s with left := s.left.set t v } : St).cells = s.cells.set (30 + t) (.int .i64 v) := by
  obtain ⟨h1, h2, h3, h4, h5⟩ := h
  unfold St.cells St.head
  rw [List.set_append_right _ _ (by simp; omega), List.set_append_right _ _ (by simp [h1]; omega), List.set_append_right _ _ (by simp [h1, h2]; omega), List.set_append_right _ _ (by simp [h1, h2, h3]; omega), List.set_append_right _ _ (by simp [h1, h2, h3]; omega), List.set_append_right _ _ (by simp [h1, h2, h3, h4]; omega), List.set_append_right _ _ (by simp [h1, h2, h3, h4]; omega)]
  simp [List.map_set, h1, h2, h3, h4]
  congr 1
  omega
theorem cells_opened {s : St} (h : s.Wf) (v : Int) : ({ s with opened := v } : St).cells = s.cells.set 29 (.int .i64 v) := by
  obtain ⟨_, _, _, _, _, _, _, _, _, _, _, _, _, _, _, _, _, _, _, _, _, _, _, _, _, _, _, _, _, _, h1, h2, h3, h4, h5⟩ := h.lists
  unfold St.cells St.head
  rw [h1, h2, h3, h4, h5]; rfl

set_option maxHeartbeats 1000000 in
theorem bar_4 (w : World) (g f : Nat) (s : St) (t : Nat) (obj call part arg val : Int) (h : Seg w g f s) (p0 : t < 8) (p1 : 0 ≤ arg) (p2 : arg ≤ 4294967295) (p3 : 1 ≤ s.o.n) (p4 : s.o.n ≤ 8) (p5 : 0 ≤ s.come.getD t 0) (p6 : s.come.getD t 0 ≤ 1000000) (p7 : 0 ≤ s.left.getD t 0) (p8 : s.left.getD t 0 ≤ 1000000) (p9 : 0 ≤ s.opened) (p10 : s.opened ≤ 1000000) (p11 : s.o.n ≤ ((t : Nat) : Int)) :
    Calls Tryd.prog 19 #[.pointer (some ⟨g, f, none⟩), .agg #[.int .i64 ((t : Nat) : Int), .int .i64 obj, .int .i64 call, .int .i64 part, .int .u32 arg, .int .u32 val]] w (MPost w g f (some (4, [])) (s)) := by
  have hlt := h.lt
  have c_n : w.cell? ⟨g, f + 1, none⟩ = some (.int .i64 s.o.n) := (h.at 1 (by decide)).1.trans s.cells_at.2.1
  have z_n : w.frozen? ⟨g, f + 1, none⟩ = false := (h.at 1 (by decide)).2
  have c_opened : w.cell? ⟨g, f + 29, none⟩ = some (.int .i64 s.opened) := (h.at 29 (by decide)).1.trans h.1.mid.2.2
  have z_opened : w.frozen? ⟨g, f + 29, none⟩ = false := (h.at 29 (by decide)).2
  have q0 : decide (s.o.n ≤ ((t : Nat) : Int)) = true := by exact decide_eq_true (by omega)
  have c_co : w.cell? ⟨g, f + 21 + t, none⟩ = some (.int .i64 (s.come.getD t 0)) := by
    rw [Nat.add_assoc]
    exact (h.at (21 + t) (by omega)).1.trans (h.1.cntAt t p0).1
  have z_co : w.frozen? ⟨g, f + 21 + t, none⟩ = false := by
    rw [Nat.add_assoc]
    exact (h.at (21 + t) (by omega)).2
  have c_le : w.cell? ⟨g, f + 30 + t, none⟩ = some (.int .i64 (s.left.getD t 0)) := by
    rw [Nat.add_assoc]
    exact (h.at (30 + t) (by omega)).1.trans (h.1.cntAt t p0).2
  have z_le : w.frozen? ⟨g, f + 30 + t, none⟩ = false := by
    rw [Nat.add_assoc]
    exact (h.at (30 + t) (by omega)).2
  have wr0 : IntKind.u64.wrap arg = arg := by rw [IntKind.wrap_u64]; omega
  have wr1 : IntKind.u64.wrap s.o.n = s.o.n := by rw [IntKind.wrap_u64]; omega
  have wr2 : IntKind.i64.wrap (s.come.getD t 0 + 1) = s.come.getD t 0 + 1 := by rw [IntKind.wrap_i64]; omega
  have wr3 : IntKind.i64.wrap (s.left.getD t 0 + 1) = s.left.getD t 0 + 1 := by rw [IntKind.wrap_i64]; omega
  have wr4 : IntKind.i64.wrap (s.opened + 1) = s.opened + 1 := by rw [IntKind.wrap_i64]; omega
  generalize hC : s.come.getD t 0 = C at *
  generalize hL : s.left.getD t 0 = Lf at *
  clear hC hL
  have HS := Lib.hid h
  have ht8 : ((t : Nat) : Int) < 8 := by omega
  have ht0 : (0 : Int) ≤ ((t : Nat) : Int) := by omega
  clear h p1 p2 p3 p4 p5 p6 p7 p8 p9 p10 p11
  go_enter Tryd.func19, Tryd.ntmps19
  go_wp2_with (first
      | (go_at_call 33; refine (told_any _ _).mono ?_; rintro e wF ⟨rfl, hbF⟩; have hk := keepC hbF (Nat.le_refl _); have hf := keepF hbF (Nat.le_refl _))
      | (go_at_call 34; refine (fine_any _).mono ?_; rintro e wF ⟨rfl, hbF⟩; have hk := keepC hbF (Nat.le_refl _); have hf := keepF hbF (Nat.le_refl _))
      | (go_at_call 13; refine (not_any _).mono ?_; rintro e wF ⟨rfl, hbF⟩; have hk := keepC hbF (Nat.le_refl _); have hf := keepF hbF (Nat.le_refl _)))
  go_quiet (fail)
  go_wp2_with (first
      | (go_at_call 33; refine (told_any _ _).mono ?_; rintro e wF ⟨rfl, hbF⟩; have hk := keepC hbF (Nat.le_refl _); have hf := keepF hbF (Nat.le_refl _))
      | (go_at_call 34; refine (fine_any _).mono ?_; rintro e wF ⟨rfl, hbF⟩; have hk := keepC hbF (Nat.le_refl _); have hf := keepF hbF (Nat.le_refl _))
      | (go_at_call 13; refine (not_any _).mono ?_; rintro e wF ⟨rfl, hbF⟩; have hk := keepC hbF (Nat.le_refl _); have hf := keepF hbF (Nat.le_refl _)))
  have hZ := two_new (w) (.cells #[.int .i64 ((t : Nat) : Int), .int .i64 obj, .int .i64 call, .int .i64 part, .int .u32 arg, .int .u32 val] 32) (.cells #[.int .u32 0, .slice none 0 0] 50)
  have hsz : (w).heap.size = w.heap.size := by simp
  obtain ⟨bZ0, bB⟩ := hZ
  have bZ : (((w).alloc (.cells #[.int .i64 ((t : Nat) : Int), .int .i64 obj, .int .i64 call, .int .i64 part, .int .u32 arg, .int .u32 val] 32)).alloc (.cells #[.int .u32 0, .slice none 0 0] 50)).heap[w.heap.size + 1]? = some (.cells #[.int .u32 0, .slice none 0 0] 50) := by rw [hsz] at bZ0; exact bZ0
  have bZF : wF.heap[w.heap.size + 1]? = some (.cells #[.int .u32 0, .slice none 0 0] 50) := (hbF.block _ (Array.getElem?_eq_some_iff.1 bZ).1).trans bZ
  have bF : Below w.heap.size (w) wF := (bB.mono (Nat.le_of_eq hsz.symm)).trans ⟨hbF.os, hbF.tape, hbF.output, hbF.size, fun k hk => hbF.block k (Nat.lt_of_lt_of_le hk (Nat.le_trans (Nat.le_of_eq hsz.symm) bB.size))⟩
  refine bodyPost_ret (results_ans2 rfl _ _ (w.heap.size + 1) _ _ (set2_row bZF _ _) rfl) rfl ?_
  refine ⟨_, rfl, rd_nil _ _, ?_⟩
  have hb2 := set2_below bF (R := w.heap.size + 1) (by omega) (.int .u32 (ansR (some (4, [])))) (.slice none 0 0)
  exact Upd.same HS.out hb2

set_option maxHeartbeats 1000000 in
theorem bar_3 (w : World) (g f : Nat) (s : St) (t : Nat) (obj call part arg val : Int) (h : Seg w g f s) (p0 : t < 8) (p1 : 0 ≤ arg) (p2 : arg ≤ 4294967295) (p3 : 1 ≤ s.o.n) (p4 : s.o.n ≤ 8) (p5 : 0 ≤ s.come.getD t 0) (p6 : s.come.getD t 0 ≤ 1000000) (p7 : 0 ≤ s.left.getD t 0) (p8 : s.left.getD t 0 ≤ 1000000) (p9 : 0 ≤ s.opened) (p10 : s.opened ≤ 1000000) (p11 : ((t : Nat) : Int) < s.o.n) (p12 : arg ≠ s.o.n) :
    Calls Tryd.prog 19 #[.pointer (some ⟨g, f, none⟩), .agg #[.int .i64 ((t : Nat) : Int), .int .i64 obj, .int .i64 call, .int .i64 part, .int .u32 arg, .int .u32 val]] w (MPost w g f (some (3, [])) (s)) := by
  have hlt := h.lt
  have c_n : w.cell? ⟨g, f + 1, none⟩ = some (.int .i64 s.o.n) := (h.at 1 (by decide)).1.trans s.cells_at.2.1
  have z_n : w.frozen? ⟨g, f + 1, none⟩ = false := (h.at 1 (by decide)).2
  have c_opened : w.cell? ⟨g, f + 29, none⟩ = some (.int .i64 s.opened) := (h.at 29 (by decide)).1.trans h.1.mid.2.2
  have z_opened : w.frozen? ⟨g, f + 29, none⟩ = false := (h.at 29 (by decide)).2
  have q0 : decide (s.o.n ≤ ((t : Nat) : Int)) = false := by exact decide_eq_false (by omega)
  have q1 : (arg != s.o.n) = true := by simp; omega
  have c_co : w.cell? ⟨g, f + 21 + t, none⟩ = some (.int .i64 (s.come.getD t 0)) := by
    rw [Nat.add_assoc]
    exact (h.at (21 + t) (by omega)).1.trans (h.1.cntAt t p0).1
  have z_co : w.frozen? ⟨g, f + 21 + t, none⟩ = false := by
    rw [Nat.add_assoc]
    exact (h.at (21 + t) (by omega)).2
  have c_le : w.cell? ⟨g, f + 30 + t, none⟩ = some (.int .i64 (s.left.getD t 0)) := by
    rw [Nat.add_assoc]
    exact (h.at (30 + t) (by omega)).1.trans (h.1.cntAt t p0).2
  have z_le : w.frozen? ⟨g, f + 30 + t, none⟩ = false := by
    rw [Nat.add_assoc]
    exact (h.at (30 + t) (by omega)).2
  have wr0 : IntKind.u64.wrap arg = arg := by rw [IntKind.wrap_u64]; omega
  have wr1 : IntKind.u64.wrap s.o.n = s.o.n := by rw [IntKind.wrap_u64]; omega
  have wr2 : IntKind.i64.wrap (s.come.getD t 0 + 1) = s.come.getD t 0 + 1 := by rw [IntKind.wrap_i64]; omega
  have wr3 : IntKind.i64.wrap (s.left.getD t 0 + 1) = s.left.getD t 0 + 1 := by rw [IntKind.wrap_i64]; omega
  have wr4 : IntKind.i64.wrap (s.opened + 1) = s.opened + 1 := by rw [IntKind.wrap_i64]; omega
  generalize hC : s.come.getD t 0 = C at *
  generalize hL : s.left.getD t 0 = Lf at *
  clear hC hL
  have HS := Lib.hid h
  have ht8 : ((t : Nat) : Int) < 8 := by omega
  have ht0 : (0 : Int) ≤ ((t : Nat) : Int) := by omega
  clear h p1 p2 p3 p4 p5 p6 p7 p8 p9 p10 p11 p12
  go_enter Tryd.func19, Tryd.ntmps19
  go_wp2_with (first
      | (go_at_call 33; refine (told_any _ _).mono ?_; rintro e wF ⟨rfl, hbF⟩; have hk := keepC hbF (Nat.le_refl _); have hf := keepF hbF (Nat.le_refl _))
      | (go_at_call 34; refine (fine_any _).mono ?_; rintro e wF ⟨rfl, hbF⟩; have hk := keepC hbF (Nat.le_refl _); have hf := keepF hbF (Nat.le_refl _))
      | (go_at_call 13; refine (not_any _).mono ?_; rintro e wF ⟨rfl, hbF⟩; have hk := keepC hbF (Nat.le_refl _); have hf := keepF hbF (Nat.le_refl _)))
  go_quiet (fail)
  go_wp2_with (first
      | (go_at_call 33; refine (told_any _ _).mono ?_; rintro e wF ⟨rfl, hbF⟩; have hk := keepC hbF (Nat.le_refl _); have hf := keepF hbF (Nat.le_refl _))
      | (go_at_call 34; refine (fine_any _).mono ?_; rintro e wF ⟨rfl, hbF⟩; have hk := keepC hbF (Nat.le_refl _); have hf := keepF hbF (Nat.le_refl _))
      | (go_at_call 13; refine (not_any _).mono ?_; rintro e wF ⟨rfl, hbF⟩; have hk := keepC hbF (Nat.le_refl _); have hf := keepF hbF (Nat.le_refl _)))
  go_quiet (fail)
  go_wp2_with (first
      | (go_at_call 33; refine (told_any _ _).mono ?_; rintro e wF ⟨rfl, hbF⟩; have hk := keepC hbF (Nat.le_refl _); have hf := keepF hbF (Nat.le_refl _))
      | (go_at_call 34; refine (fine_any _).mono ?_; rintro e wF ⟨rfl, hbF⟩; have hk := keepC hbF (Nat.le_refl _); have hf := keepF hbF (Nat.le_refl _))
      | (go_at_call 13; refine (not_any _).mono ?_; rintro e wF ⟨rfl, hbF⟩; have hk := keepC hbF (Nat.le_refl _); have hf := keepF hbF (Nat.le_refl _)))
  have hZ := two_new (w) (.cells #[.int .i64 ((t : Nat) : Int), .int .i64 obj, .int .i64 call, .int .i64 part, .int .u32 arg, .int .u32 val] 32) (.cells #[.int .u32 0, .slice none 0 0] 50)
  have hsz : (w).heap.size = w.heap.size := by simp
  obtain ⟨bZ0, bB⟩ := hZ
  have bZ : (((w).alloc (.cells #[.int .i64 ((t : Nat) : Int), .int .i64 obj, .int .i64 call, .int .i64 part, .int .u32 arg, .int .u32 val] 32)).alloc (.cells #[.int .u32 0, .slice none 0 0] 50)).heap[w.heap.size + 1]? = some (.cells #[.int .u32 0, .slice none 0 0] 50) := by rw [hsz] at bZ0; exact bZ0
  have bZF : wF.heap[w.heap.size + 1]? = some (.cells #[.int .u32 0, .slice none 0 0] 50) := (hbF.block _ (Array.getElem?_eq_some_iff.1 bZ).1).trans bZ
  have bF : Below w.heap.size (w) wF := (bB.mono (Nat.le_of_eq hsz.symm)).trans ⟨hbF.os, hbF.tape, hbF.output, hbF.size, fun k hk => hbF.block k (Nat.lt_of_lt_of_le hk (Nat.le_trans (Nat.le_of_eq hsz.symm) bB.size))⟩
  refine bodyPost_ret (results_ans2 rfl _ _ (w.heap.size + 1) _ _ (set2_row bZF _ _) rfl) rfl ?_
  refine ⟨_, rfl, rd_nil _ _, ?_⟩
  have hb2 := set2_below bF (R := w.heap.size + 1) (by omega) (.int .u32 (ansR (some (3, [])))) (.slice none 0 0)
  exact Upd.same HS.out hb2

set_option maxHeartbeats 1000000 in
theorem bar_1no (w : World) (g f : Nat) (s : St) (t : Nat) (obj call part arg val : Int) (h : Seg w g f s) (p0 : t < 8) (p1 : 0 ≤ arg) (p2 : arg ≤ 4294967295) (p3 : 1 ≤ s.o.n) (p4 : s.o.n ≤ 8) (p5 : 0 ≤ s.come.getD t 0) (p6 : s.come.getD t 0 ≤ 1000000) (p7 : 0 ≤ s.left.getD t 0) (p8 : s.left.getD t 0 ≤ 1000000) (p9 : 0 ≤ s.opened) (p10 : s.opened ≤ 1000000) (p11 : ((t : Nat) : Int) < s.o.n) (p12 : arg = s.o.n) (p13 : part = 1) (p14 : s.left.getD t 0 < s.come.getD t 0) :
    Calls Tryd.prog 19 #[.pointer (some ⟨g, f, none⟩), .agg #[.int .i64 ((t : Nat) : Int), .int .i64 obj, .int .i64 call, .int .i64 part, .int .u32 arg, .int .u32 val]] w (MPost w g f (none) (s)) := by
  have hlt := h.lt
  have c_n : w.cell? ⟨g, f + 1, none⟩ = some (.int .i64 s.o.n) := (h.at 1 (by decide)).1.trans s.cells_at.2.1
  have z_n : w.frozen? ⟨g, f + 1, none⟩ = false := (h.at 1 (by decide)).2
  have c_opened : w.cell? ⟨g, f + 29, none⟩ = some (.int .i64 s.opened) := (h.at 29 (by decide)).1.trans h.1.mid.2.2
  have z_opened : w.frozen? ⟨g, f + 29, none⟩ = false := (h.at 29 (by decide)).2
  have q0 : decide (s.o.n ≤ ((t : Nat) : Int)) = false := by exact decide_eq_false (by omega)
  have q1 : (arg != s.o.n) = false := by simp; omega
  have q2 : (part == 1) = true := by simp; omega
  have q3 : decide (s.left.getD t 0 < s.come.getD t 0) = true := by exact decide_eq_true (by omega)
  have c_co : w.cell? ⟨g, f + 21 + t, none⟩ = some (.int .i64 (s.come.getD t 0)) := by
    rw [Nat.add_assoc]
    exact (h.at (21 + t) (by omega)).1.trans (h.1.cntAt t p0).1
  have z_co : w.frozen? ⟨g, f + 21 + t, none⟩ = false := by
    rw [Nat.add_assoc]
    exact (h.at (21 + t) (by omega)).2
  have c_le : w.cell? ⟨g, f + 30 + t, none⟩ = some (.int .i64 (s.left.getD t 0)) := by
    rw [Nat.add_assoc]
    exact (h.at (30 + t) (by omega)).1.trans (h.1.cntAt t p0).2
  have z_le : w.frozen? ⟨g, f + 30 + t, none⟩ = false := by
    rw [Nat.add_assoc]
    exact (h.at (30 + t) (by omega)).2
  have wr0 : IntKind.u64.wrap arg = arg := by rw [IntKind.wrap_u64]; omega
  have wr1 : IntKind.u64.wrap s.o.n = s.o.n := by rw [IntKind.wrap_u64]; omega
  have wr2 : IntKind.i64.wrap (s.come.getD t 0 + 1) = s.come.getD t 0 + 1 := by rw [IntKind.wrap_i64]; omega
  have wr3 : IntKind.i64.wrap (s.left.getD t 0 + 1) = s.left.getD t 0 + 1 := by rw [IntKind.wrap_i64]; omega
  have wr4 : IntKind.i64.wrap (s.opened + 1) = s.opened + 1 := by rw [IntKind.wrap_i64]; omega
  generalize hC : s.come.getD t 0 = C at *
  generalize hL : s.left.getD t 0 = Lf at *
  clear hC hL
  have HS := Lib.hid h
  have ht8 : ((t : Nat) : Int) < 8 := by omega
  have ht0 : (0 : Int) ≤ ((t : Nat) : Int) := by omega
  clear h p1 p2 p3 p4 p5 p6 p7 p8 p9 p10 p11 p12 p13 p14
  go_enter Tryd.func19, Tryd.ntmps19
  go_wp2_with (first
      | (go_at_call 33; refine (told_any _ _).mono ?_; rintro e wF ⟨rfl, hbF⟩; have hk := keepC hbF (Nat.le_refl _); have hf := keepF hbF (Nat.le_refl _))
      | (go_at_call 34; refine (fine_any _).mono ?_; rintro e wF ⟨rfl, hbF⟩; have hk := keepC hbF (Nat.le_refl _); have hf := keepF hbF (Nat.le_refl _))
      | (go_at_call 13; refine (not_any _).mono ?_; rintro e wF ⟨rfl, hbF⟩; have hk := keepC hbF (Nat.le_refl _); have hf := keepF hbF (Nat.le_refl _)))
  go_quiet (fail)
  go_wp2_with (first
      | (go_at_call 33; refine (told_any _ _).mono ?_; rintro e wF ⟨rfl, hbF⟩; have hk := keepC hbF (Nat.le_refl _); have hf := keepF hbF (Nat.le_refl _))
      | (go_at_call 34; refine (fine_any _).mono ?_; rintro e wF ⟨rfl, hbF⟩; have hk := keepC hbF (Nat.le_refl _); have hf := keepF hbF (Nat.le_refl _))
      | (go_at_call 13; refine (not_any _).mono ?_; rintro e wF ⟨rfl, hbF⟩; have hk := keepC hbF (Nat.le_refl _); have hf := keepF hbF (Nat.le_refl _)))
  go_quiet (fail)
  go_wp2_with (first
      | (go_at_call 33; refine (told_any _ _).mono ?_; rintro e wF ⟨rfl, hbF⟩; have hk := keepC hbF (Nat.le_refl _); have hf := keepF hbF (Nat.le_refl _))
      | (go_at_call 34; refine (fine_any _).mono ?_; rintro e wF ⟨rfl, hbF⟩; have hk := keepC hbF (Nat.le_refl _); have hf := keepF hbF (Nat.le_refl _))
      | (go_at_call 13; refine (not_any _).mono ?_; rintro e wF ⟨rfl, hbF⟩; have hk := keepC hbF (Nat.le_refl _); have hf := keepF hbF (Nat.le_refl _)))
  go_quiet (fail)
  go_wp2_with (first
      | (go_at_call 33; refine (told_any _ _).mono ?_; rintro e wF ⟨rfl, hbF⟩; have hk := keepC hbF (Nat.le_refl _); have hf := keepF hbF (Nat.le_refl _))
      | (go_at_call 34; refine (fine_any _).mono ?_; rintro e wF ⟨rfl, hbF⟩; have hk := keepC hbF (Nat.le_refl _); have hf := keepF hbF (Nat.le_refl _))
      | (go_at_call 13; refine (not_any _).mono ?_; rintro e wF ⟨rfl, hbF⟩; have hk := keepC hbF (Nat.le_refl _); have hf := keepF hbF (Nat.le_refl _)))
  have hZ := two_new (w) (.cells #[.int .i64 ((t : Nat) : Int), .int .i64 obj, .int .i64 call, .int .i64 part, .int .u32 arg, .int .u32 val] 32) (.cells #[.int .u32 0, .slice none 0 0] 50)
  have hsz : (w).heap.size = w.heap.size := by simp
  obtain ⟨bZ0, bB⟩ := hZ
  have bZ : (((w).alloc (.cells #[.int .i64 ((t : Nat) : Int), .int .i64 obj, .int .i64 call, .int .i64 part, .int .u32 arg, .int .u32 val] 32)).alloc (.cells #[.int .u32 0, .slice none 0 0] 50)).heap[w.heap.size + 1]? = some (.cells #[.int .u32 0, .slice none 0 0] 50) := by rw [hsz] at bZ0; exact bZ0
  have bZF : wF.heap[w.heap.size + 1]? = some (.cells #[.int .u32 0, .slice none 0 0] 50) := (hbF.block _ (Array.getElem?_eq_some_iff.1 bZ).1).trans bZ
  have bF : Below w.heap.size (w) wF := (bB.mono (Nat.le_of_eq hsz.symm)).trans ⟨hbF.os, hbF.tape, hbF.output, hbF.size, fun k hk => hbF.block k (Nat.lt_of_lt_of_le hk (Nat.le_trans (Nat.le_of_eq hsz.symm) bB.size))⟩
  refine bodyPost_ret (results_ans2 rfl _ _ (w.heap.size + 1) _ _ (set2_row bZF _ _) rfl) rfl ?_
  refine ⟨_, rfl, rd_nil _ _, ?_⟩
  have hb2 := set2_below bF (R := w.heap.size + 1) (by omega) (.int .u32 (ansR (none))) (.slice none 0 0)
  exact Upd.same HS.out hb2

set_option maxHeartbeats 1000000 in
theorem bar_1ok (w : World) (g f : Nat) (s : St) (t : Nat) (obj call part arg val : Int) (h : Seg w g f s) (p0 : t < 8) (p1 : 0 ≤ arg) (p2 : arg ≤ 4294967295) (p3 : 1 ≤ s.o.n) (p4 : s.o.n ≤ 8) (p5 : 0 ≤ s.come.getD t 0) (p6 : s.come.getD t 0 ≤ 1000000) (p7 : 0 ≤ s.left.getD t 0) (p8 : s.left.getD t 0 ≤ 1000000) (p9 : 0 ≤ s.opened) (p10 : s.opened ≤ 1000000) (p11 : ((t : Nat) : Int) < s.o.n) (p12 : arg = s.o.n) (p13 : part = 1) (p14 : s.come.getD t 0 ≤ s.left.getD t 0) :
    Calls Tryd.prog 19 #[.pointer (some ⟨g, f, none⟩), .agg #[.int .i64 ((t : Nat) : Int), .int .i64 obj, .int .i64 call, .int .i64 part, .int .u32 arg, .int .u32 val]] w (MPost w g f (some (0, [])) ({ s with come := s.come.set t (s.come.getD t 0 + 1) })) := by
  have hlt := h.lt
  have c_n : w.cell? ⟨g, f + 1, none⟩ = some (.int .i64 s.o.n) := (h.at 1 (by decide)).1.trans s.cells_at.2.1
  have z_n : w.frozen? ⟨g, f + 1, none⟩ = false := (h.at 1 (by decide)).2
  have c_opened : w.cell? ⟨g, f + 29, none⟩ = some (.int .i64 s.opened) := (h.at 29 (by decide)).1.trans h.1.mid.2.2
  have z_opened : w.frozen? ⟨g, f + 29, none⟩ = false := (h.at 29 (by decide)).2
  have q0 : decide (s.o.n ≤ ((t : Nat) : Int)) = false := by exact decide_eq_false (by omega)
  have q1 : (arg != s.o.n) = false := by simp; omega
  have q2 : (part == 1) = true := by simp; omega
  have q3 : decide (s.left.getD t 0 < s.come.getD t 0) = false := by exact decide_eq_false (by omega)
  have c_co : w.cell? ⟨g, f + 21 + t, none⟩ = some (.int .i64 (s.come.getD t 0)) := by
    rw [Nat.add_assoc]
    exact (h.at (21 + t) (by omega)).1.trans (h.1.cntAt t p0).1
  have z_co : w.frozen? ⟨g, f + 21 + t, none⟩ = false := by
    rw [Nat.add_assoc]
    exact (h.at (21 + t) (by omega)).2
  have c_le : w.cell? ⟨g, f + 30 + t, none⟩ = some (.int .i64 (s.left.getD t 0)) := by
    rw [Nat.add_assoc]
    exact (h.at (30 + t) (by omega)).1.trans (h.1.cntAt t p0).2
  have z_le : w.frozen? ⟨g, f + 30 + t, none⟩ = false := by
    rw [Nat.add_assoc]
    exact (h.at (30 + t) (by omega)).2
  have wr0 : IntKind.u64.wrap arg = arg := by rw [IntKind.wrap_u64]; omega
  have wr1 : IntKind.u64.wrap s.o.n = s.o.n := by rw [IntKind.wrap_u64]; omega
  have wr2 : IntKind.i64.wrap (s.come.getD t 0 + 1) = s.come.getD t 0 + 1 := by rw [IntKind.wrap_i64]; omega
  have wr3 : IntKind.i64.wrap (s.left.getD t 0 + 1) = s.left.getD t 0 + 1 := by rw [IntKind.wrap_i64]; omega
  have wr4 : IntKind.i64.wrap (s.opened + 1) = s.opened + 1 := by rw [IntKind.wrap_i64]; omega
  generalize hC : s.come.getD t 0 = C at *
  generalize hL : s.left.getD t 0 = Lf at *
  clear hC hL
  have HS := Lib.hid h
  have ht8 : ((t : Nat) : Int) < 8 := by omega
  have ht0 : (0 : Int) ≤ ((t : Nat) : Int) := by omega
  clear h p1 p2 p3 p4 p5 p6 p7 p8 p9 p10 p11 p12 p13 p14
  go_enter Tryd.func19, Tryd.ntmps19
  go_wp2_with (first
      | (go_at_call 33; refine (told_any _ _).mono ?_; rintro e wF ⟨rfl, hbF⟩; have hk := keepC hbF (Nat.le_refl _); have hf := keepF hbF (Nat.le_refl _))
      | (go_at_call 34; refine (fine_any _).mono ?_; rintro e wF ⟨rfl, hbF⟩; have hk := keepC hbF (Nat.le_refl _); have hf := keepF hbF (Nat.le_refl _))
      | (go_at_call 13; refine (not_any _).mono ?_; rintro e wF ⟨rfl, hbF⟩; have hk := keepC hbF (Nat.le_refl _); have hf := keepF hbF (Nat.le_refl _)))
  go_quiet (fail)
  go_wp2_with (first
      | (go_at_call 33; refine (told_any _ _).mono ?_; rintro e wF ⟨rfl, hbF⟩; have hk := keepC hbF (Nat.le_refl _); have hf := keepF hbF (Nat.le_refl _))
      | (go_at_call 34; refine (fine_any _).mono ?_; rintro e wF ⟨rfl, hbF⟩; have hk := keepC hbF (Nat.le_refl _); have hf := keepF hbF (Nat.le_refl _))
      | (go_at_call 13; refine (not_any _).mono ?_; rintro e wF ⟨rfl, hbF⟩; have hk := keepC hbF (Nat.le_refl _); have hf := keepF hbF (Nat.le_refl _)))
  go_quiet (fail)
  go_wp2_with (first
      | (go_at_call 33; refine (told_any _ _).mono ?_; rintro e wF ⟨rfl, hbF⟩; have hk := keepC hbF (Nat.le_refl _); have hf := keepF hbF (Nat.le_refl _))
      | (go_at_call 34; refine (fine_any _).mono ?_; rintro e wF ⟨rfl, hbF⟩; have hk := keepC hbF (Nat.le_refl _); have hf := keepF hbF (Nat.le_refl _))
      | (go_at_call 13; refine (not_any _).mono ?_; rintro e wF ⟨rfl, hbF⟩; have hk := keepC hbF (Nat.le_refl _); have hf := keepF hbF (Nat.le_refl _)))
  go_quiet (fail)
  go_wp2_with (first
      | (go_at_call 33; refine (told_any _ _).mono ?_; rintro e wF ⟨rfl, hbF⟩; have hk := keepC hbF (Nat.le_refl _); have hf := keepF hbF (Nat.le_refl _))
      | (go_at_call 34; refine (fine_any _).mono ?_; rintro e wF ⟨rfl, hbF⟩; have hk := keepC hbF (Nat.le_refl _); have hf := keepF hbF (Nat.le_refl _))
      | (go_at_call 13; refine (not_any _).mono ?_; rintro e wF ⟨rfl, hbF⟩; have hk := keepC hbF (Nat.le_refl _); have hf := keepF hbF (Nat.le_refl _)))
  go_region_with (fail)
  go_wp2_with (first
      | (go_at_call 33; refine (told_any _ _).mono ?_; rintro e wF ⟨rfl, hbF⟩; have hk := keepC hbF (Nat.le_refl _); have hf := keepF hbF (Nat.le_refl _))
      | (go_at_call 34; refine (fine_any _).mono ?_; rintro e wF ⟨rfl, hbF⟩; have hk := keepC hbF (Nat.le_refl _); have hf := keepF hbF (Nat.le_refl _))
      | (go_at_call 13; refine (not_any _).mono ?_; rintro e wF ⟨rfl, hbF⟩; have hk := keepC hbF (Nat.le_refl _); have hf := keepF hbF (Nat.le_refl _)))
  obtain ⟨bZ0, bB0⟩ := two_new w (.cells #[.int .i64 ((t : Nat) : Int), .int .i64 obj, .int .i64 call, .int .i64 part, .int .u32 arg, .int .u32 val] 32) (.cells #[.int .u32 0, .slice none 0 0] 50)
  have bB := Below.both (bB0) ⟨g, f + 21 + t, none⟩ (.int .i64 (C + 1))
  have hrow : (((w.alloc (.cells #[.int .i64 ((t : Nat) : Int), .int .i64 obj, .int .i64 call, .int .i64 part, .int .u32 arg, .int .u32 val] 32)).alloc (.cells #[.int .u32 0, .slice none 0 0] 50)).setCell ⟨g, f + 21 + t, none⟩ (.int .i64 (C + 1))).heap[w.heap.size + 1]? = some (.cells #[.int .u32 0, .slice none 0 0] 50) := (Below.heap_setCell _ _ _ _ (show w.heap.size + 1 ≠ g by omega)).trans (bZ0)
  have bZF : wF.heap[w.heap.size + 1]? = some (.cells #[.int .u32 0, .slice none 0 0] 50) := (hbF.block _ (by have := (Array.getElem?_eq_some_iff.1 bZ0).1; simp at this ⊢)).trans hrow
  have bF : Below w.heap.size ((w.setCell ⟨g, f + 21 + t, none⟩ (.int .i64 (C + 1)))) wF := bB.trans ⟨hbF.os, hbF.tape, hbF.output, hbF.size, fun k hk => hbF.block k (Nat.lt_of_lt_of_le hk (by have := bB.size; simp at this ⊢; omega))⟩
  refine bodyPost_ret (results_ans2 rfl _ _ (w.heap.size + 1) _ _ (set2_row bZF _ _) rfl) rfl ?_
  refine ⟨_, rfl, rd_nil _ _, ?_⟩
  have hb2 := set2_below bF (R := w.heap.size + 1) (by omega) (.int .u32 (ansR (some (0, [])))) (.slice none 0 0)
  have hA : f + (21 + t) = f + 21 + t := by omega
  exact Upd.one HS.out (j := 21 + t) (by omega) (cells_come HS.out.1 t (by omega) (C + 1)) (by have hw := HS.out.1; exact ⟨hw.l1, hw.l2, hw.l3, by simpa using hw.l4, hw.l5⟩) (by rw [hA]; exact hb2)

set_option maxHeartbeats 1000000 in
theorem bar_3eq (w : World) (g f : Nat) (s : St) (t : Nat) (obj call part arg val : Int) (h : Seg w g f s) (p0 : t < 8) (p1 : 0 ≤ arg) (p2 : arg ≤ 4294967295) (p3 : 1 ≤ s.o.n) (p4 : s.o.n ≤ 8) (p5 : 0 ≤ s.come.getD t 0) (p6 : s.come.getD t 0 ≤ 1000000) (p7 : 0 ≤ s.left.getD t 0) (p8 : s.left.getD t 0 ≤ 1000000) (p9 : 0 ≤ s.opened) (p10 : s.opened ≤ 1000000) (p11 : ((t : Nat) : Int) < s.o.n) (p12 : arg = s.o.n) (p13 : part = 3) (p14 : s.come.getD t 0 = s.left.getD t 0) :
    Calls Tryd.prog 19 #[.pointer (some ⟨g, f, none⟩), .agg #[.int .i64 ((t : Nat) : Int), .int .i64 obj, .int .i64 call, .int .i64 part, .int .u32 arg, .int .u32 val]] w (MPost w g f (none) (s)) := by
  have hlt := h.lt
  have c_n : w.cell? ⟨g, f + 1, none⟩ = some (.int .i64 s.o.n) := (h.at 1 (by decide)).1.trans s.cells_at.2.1
  have z_n : w.frozen? ⟨g, f + 1, none⟩ = false := (h.at 1 (by decide)).2
  have c_opened : w.cell? ⟨g, f + 29, none⟩ = some (.int .i64 s.opened) := (h.at 29 (by decide)).1.trans h.1.mid.2.2
  have z_opened : w.frozen? ⟨g, f + 29, none⟩ = false := (h.at 29 (by decide)).2
  have q0 : decide (s.o.n ≤ ((t : Nat) : Int)) = false := by exact decide_eq_false (by omega)
  have q1 : (arg != s.o.n) = false := by simp; omega
  have q2 : (part == 1) = false := by simp; omega
  have q3 : (part == 2) = false := by simp; omega
  have q4 : (part == 3) = true := by simp; omega
  have q5 : (s.come.getD t 0 == s.left.getD t 0) = true := by rw [beq_iff_eq]; omega
  have c_co : w.cell? ⟨g, f + 21 + t, none⟩ = some (.int .i64 (s.come.getD t 0)) := by
    rw [Nat.add_assoc]
    exact (h.at (21 + t) (by omega)).1.trans (h.1.cntAt t p0).1
  have z_co : w.frozen? ⟨g, f + 21 + t, none⟩ = false := by
    rw [Nat.add_assoc]
    exact (h.at (21 + t) (by omega)).2
  have c_le : w.cell? ⟨g, f + 30 + t, none⟩ = some (.int .i64 (s.left.getD t 0)) := by
    rw [Nat.add_assoc]
    exact (h.at (30 + t) (by omega)).1.trans (h.1.cntAt t p0).2
  have z_le : w.frozen? ⟨g, f + 30 + t, none⟩ = false := by
    rw [Nat.add_assoc]
    exact (h.at (30 + t) (by omega)).2
  have wr0 : IntKind.u64.wrap arg = arg := by rw [IntKind.wrap_u64]; omega
  have wr1 : IntKind.u64.wrap s.o.n = s.o.n := by rw [IntKind.wrap_u64]; omega
  have wr2 : IntKind.i64.wrap (s.come.getD t 0 + 1) = s.come.getD t 0 + 1 := by rw [IntKind.wrap_i64]; omega
  have wr3 : IntKind.i64.wrap (s.left.getD t 0 + 1) = s.left.getD t 0 + 1 := by rw [IntKind.wrap_i64]; omega
  have wr4 : IntKind.i64.wrap (s.opened + 1) = s.opened + 1 := by rw [IntKind.wrap_i64]; omega
  generalize hC : s.come.getD t 0 = C at *
  generalize hL : s.left.getD t 0 = Lf at *
  clear hC hL
  have HS := Lib.hid h
  have ht8 : ((t : Nat) : Int) < 8 := by omega
  have ht0 : (0 : Int) ≤ ((t : Nat) : Int) := by omega
  clear h p1 p2 p3 p4 p5 p6 p7 p8 p9 p10 p11 p12 p13 p14
  go_enter Tryd.func19, Tryd.ntmps19
  go_wp2_with (first
      | (go_at_call 33; refine (told_any _ _).mono ?_; rintro e wF ⟨rfl, hbF⟩; have hk := keepC hbF (Nat.le_refl _); have hf := keepF hbF (Nat.le_refl _))
      | (go_at_call 34; refine (fine_any _).mono ?_; rintro e wF ⟨rfl, hbF⟩; have hk := keepC hbF (Nat.le_refl _); have hf := keepF hbF (Nat.le_refl _))
      | (go_at_call 13; refine (not_any _).mono ?_; rintro e wF ⟨rfl, hbF⟩; have hk := keepC hbF (Nat.le_refl _); have hf := keepF hbF (Nat.le_refl _)))
  go_quiet (fail)
  go_wp2_with (first
      | (go_at_call 33; refine (told_any _ _).mono ?_; rintro e wF ⟨rfl, hbF⟩; have hk := keepC hbF (Nat.le_refl _); have hf := keepF hbF (Nat.le_refl _))
      | (go_at_call 34; refine (fine_any _).mono ?_; rintro e wF ⟨rfl, hbF⟩; have hk := keepC hbF (Nat.le_refl _); have hf := keepF hbF (Nat.le_refl _))
      | (go_at_call 13; refine (not_any _).mono ?_; rintro e wF ⟨rfl, hbF⟩; have hk := keepC hbF (Nat.le_refl _); have hf := keepF hbF (Nat.le_refl _)))
  go_quiet (fail)
  go_wp2_with (first
      | (go_at_call 33; refine (told_any _ _).mono ?_; rintro e wF ⟨rfl, hbF⟩; have hk := keepC hbF (Nat.le_refl _); have hf := keepF hbF (Nat.le_refl _))
      | (go_at_call 34; refine (fine_any _).mono ?_; rintro e wF ⟨rfl, hbF⟩; have hk := keepC hbF (Nat.le_refl _); have hf := keepF hbF (Nat.le_refl _))
      | (go_at_call 13; refine (not_any _).mono ?_; rintro e wF ⟨rfl, hbF⟩; have hk := keepC hbF (Nat.le_refl _); have hf := keepF hbF (Nat.le_refl _)))
  go_quiet (fail)
  go_wp2_with (first
      | (go_at_call 33; refine (told_any _ _).mono ?_; rintro e wF ⟨rfl, hbF⟩; have hk := keepC hbF (Nat.le_refl _); have hf := keepF hbF (Nat.le_refl _))
      | (go_at_call 34; refine (fine_any _).mono ?_; rintro e wF ⟨rfl, hbF⟩; have hk := keepC hbF (Nat.le_refl _); have hf := keepF hbF (Nat.le_refl _))
      | (go_at_call 13; refine (not_any _).mono ?_; rintro e wF ⟨rfl, hbF⟩; have hk := keepC hbF (Nat.le_refl _); have hf := keepF hbF (Nat.le_refl _)))
  have hZ := two_new (w) (.cells #[.int .i64 ((t : Nat) : Int), .int .i64 obj, .int .i64 call, .int .i64 part, .int .u32 arg, .int .u32 val] 32) (.cells #[.int .u32 0, .slice none 0 0] 50)
  have hsz : (w).heap.size = w.heap.size := by simp
  obtain ⟨bZ0, bB⟩ := hZ
  have bZ : (((w).alloc (.cells #[.int .i64 ((t : Nat) : Int), .int .i64 obj, .int .i64 call, .int .i64 part, .int .u32 arg, .int .u32 val] 32)).alloc (.cells #[.int .u32 0, .slice none 0 0] 50)).heap[w.heap.size + 1]? = some (.cells #[.int .u32 0, .slice none 0 0] 50) := by rw [hsz] at bZ0; exact bZ0
  have bZF : wF.heap[w.heap.size + 1]? = some (.cells #[.int .u32 0, .slice none 0 0] 50) := (hbF.block _ (Array.getElem?_eq_some_iff.1 bZ).1).trans bZ
  have bF : Below w.heap.size (w) wF := (bB.mono (Nat.le_of_eq hsz.symm)).trans ⟨hbF.os, hbF.tape, hbF.output, hbF.size, fun k hk => hbF.block k (Nat.lt_of_lt_of_le hk (Nat.le_trans (Nat.le_of_eq hsz.symm) bB.size))⟩
  refine bodyPost_ret (results_ans2 rfl _ _ (w.heap.size + 1) _ _ (set2_row bZF _ _) rfl) rfl ?_
  refine ⟨_, rfl, rd_nil _ _, ?_⟩
  have hb2 := set2_below bF (R := w.heap.size + 1) (by omega) (.int .u32 (ansR (none))) (.slice none 0 0)
  exact Upd.same HS.out hb2

set_option maxHeartbeats 1000000 in
theorem bar_3lt (w : World) (g f : Nat) (s : St) (t : Nat) (obj call part arg val : Int) (h : Seg w g f s) (p0 : t < 8) (p1 : 0 ≤ arg) (p2 : arg ≤ 4294967295) (p3 : 1 ≤ s.o.n) (p4 : s.o.n ≤ 8) (p5 : 0 ≤ s.come.getD t 0) (p6 : s.come.getD t 0 ≤ 1000000) (p7 : 0 ≤ s.left.getD t 0) (p8 : s.left.getD t 0 ≤ 1000000) (p9 : 0 ≤ s.opened) (p10 : s.opened ≤ 1000000) (p11 : ((t : Nat) : Int) < s.o.n) (p12 : arg = s.o.n) (p13 : part = 3) (p14 : s.come.getD t 0 ≠ s.left.getD t 0) (p15 : s.opened < s.come.getD t 0) :
    Calls Tryd.prog 19 #[.pointer (some ⟨g, f, none⟩), .agg #[.int .i64 ((t : Nat) : Int), .int .i64 obj, .int .i64 call, .int .i64 part, .int .u32 arg, .int .u32 val]] w (MPost w g f (none) (s)) := by
  have hlt := h.lt
  have c_n : w.cell? ⟨g, f + 1, none⟩ = some (.int .i64 s.o.n) := (h.at 1 (by decide)).1.trans s.cells_at.2.1
  have z_n : w.frozen? ⟨g, f + 1, none⟩ = false := (h.at 1 (by decide)).2
  have c_opened : w.cell? ⟨g, f + 29, none⟩ = some (.int .i64 s.opened) := (h.at 29 (by decide)).1.trans h.1.mid.2.2
  have z_opened : w.frozen? ⟨g, f + 29, none⟩ = false := (h.at 29 (by decide)).2
  have q0 : decide (s.o.n ≤ ((t : Nat) : Int)) = false := by exact decide_eq_false (by omega)
  have q1 : (arg != s.o.n) = false := by simp; omega
  have q2 : (part == 1) = false := by simp; omega
  have q3 : (part == 2) = false := by simp; omega
  have q4 : (part == 3) = true := by simp; omega
  have q5 : (s.come.getD t 0 == s.left.getD t 0) = false := by rw [beq_eq_false_iff_ne]; omega
  have q6 : decide (s.opened < s.come.getD t 0) = true := by exact decide_eq_true (by omega)
  have c_co : w.cell? ⟨g, f + 21 + t, none⟩ = some (.int .i64 (s.come.getD t 0)) := by
    rw [Nat.add_assoc]
    exact (h.at (21 + t) (by omega)).1.trans (h.1.cntAt t p0).1
  have z_co : w.frozen? ⟨g, f + 21 + t, none⟩ = false := by
    rw [Nat.add_assoc]
    exact (h.at (21 + t) (by omega)).2
  have c_le : w.cell? ⟨g, f + 30 + t, none⟩ = some (.int .i64 (s.left.getD t 0)) := by
    rw [Nat.add_assoc]
    exact (h.at (30 + t) (by omega)).1.trans (h.1.cntAt t p0).2
  have z_le : w.frozen? ⟨g, f + 30 + t, none⟩ = false := by
    rw [Nat.add_assoc]
    exact (h.at (30 + t) (by omega)).2
  have wr0 : IntKind.u64.wrap arg = arg := by rw [IntKind.wrap_u64]; omega
  have wr1 : IntKind.u64.wrap s.o.n = s.o.n := by rw [IntKind.wrap_u64]; omega
  have wr2 : IntKind.i64.wrap (s.come.getD t 0 + 1) = s.come.getD t 0 + 1 := by rw [IntKind.wrap_i64]; omega
  have wr3 : IntKind.i64.wrap (s.left.getD t 0 + 1) = s.left.getD t 0 + 1 := by rw [IntKind.wrap_i64]; omega
  have wr4 : IntKind.i64.wrap (s.opened + 1) = s.opened + 1 := by rw [IntKind.wrap_i64]; omega
  generalize hC : s.come.getD t 0 = C at *
  generalize hL : s.left.getD t 0 = Lf at *
  clear hC hL
  have HS := Lib.hid h
  have ht8 : ((t : Nat) : Int) < 8 := by omega
  have ht0 : (0 : Int) ≤ ((t : Nat) : Int) := by omega
  clear h p1 p2 p3 p4 p5 p6 p7 p8 p9 p10 p11 p12 p13 p14 p15
  go_enter Tryd.func19, Tryd.ntmps19
  go_wp2_with (first
      | (go_at_call 33; refine (told_any _ _).mono ?_; rintro e wF ⟨rfl, hbF⟩; have hk := keepC hbF (Nat.le_refl _); have hf := keepF hbF (Nat.le_refl _))
      | (go_at_call 34; refine (fine_any _).mono ?_; rintro e wF ⟨rfl, hbF⟩; have hk := keepC hbF (Nat.le_refl _); have hf := keepF hbF (Nat.le_refl _))
      | (go_at_call 13; refine (not_any _).mono ?_; rintro e wF ⟨rfl, hbF⟩; have hk := keepC hbF (Nat.le_refl _); have hf := keepF hbF (Nat.le_refl _)))
  go_quiet (fail)
  go_wp2_with (first
      | (go_at_call 33; refine (told_any _ _).mono ?_; rintro e wF ⟨rfl, hbF⟩; have hk := keepC hbF (Nat.le_refl _); have hf := keepF hbF (Nat.le_refl _))
      | (go_at_call 34; refine (fine_any _).mono ?_; rintro e wF ⟨rfl, hbF⟩; have hk := keepC hbF (Nat.le_refl _); have hf := keepF hbF (Nat.le_refl _))
      | (go_at_call 13; refine (not_any _).mono ?_; rintro e wF ⟨rfl, hbF⟩; have hk := keepC hbF (Nat.le_refl _); have hf := keepF hbF (Nat.le_refl _)))
  go_quiet (fail)
  go_wp2_with (first
      | (go_at_call 33; refine (told_any _ _).mono ?_; rintro e wF ⟨rfl, hbF⟩; have hk := keepC hbF (Nat.le_refl _); have hf := keepF hbF (Nat.le_refl _))
      | (go_at_call 34; refine (fine_any _).mono ?_; rintro e wF ⟨rfl, hbF⟩; have hk := keepC hbF (Nat.le_refl _); have hf := keepF hbF (Nat.le_refl _))
      | (go_at_call 13; refine (not_any _).mono ?_; rintro e wF ⟨rfl, hbF⟩; have hk := keepC hbF (Nat.le_refl _); have hf := keepF hbF (Nat.le_refl _)))
  go_quiet (fail)
  go_wp2_with (first
      | (go_at_call 33; refine (told_any _ _).mono ?_; rintro e wF ⟨rfl, hbF⟩; have hk := keepC hbF (Nat.le_refl _); have hf := keepF hbF (Nat.le_refl _))
      | (go_at_call 34; refine (fine_any _).mono ?_; rintro e wF ⟨rfl, hbF⟩; have hk := keepC hbF (Nat.le_refl _); have hf := keepF hbF (Nat.le_refl _))
      | (go_at_call 13; refine (not_any _).mono ?_; rintro e wF ⟨rfl, hbF⟩; have hk := keepC hbF (Nat.le_refl _); have hf := keepF hbF (Nat.le_refl _)))
  have hZ := two_new (w) (.cells #[.int .i64 ((t : Nat) : Int), .int .i64 obj, .int .i64 call, .int .i64 part, .int .u32 arg, .int .u32 val] 32) (.cells #[.int .u32 0, .slice none 0 0] 50)
  have hsz : (w).heap.size = w.heap.size := by simp
  obtain ⟨bZ0, bB⟩ := hZ
  have bZ : (((w).alloc (.cells #[.int .i64 ((t : Nat) : Int), .int .i64 obj, .int .i64 call, .int .i64 part, .int .u32 arg, .int .u32 val] 32)).alloc (.cells #[.int .u32 0, .slice none 0 0] 50)).heap[w.heap.size + 1]? = some (.cells #[.int .u32 0, .slice none 0 0] 50) := by rw [hsz] at bZ0; exact bZ0
  have bZF : wF.heap[w.heap.size + 1]? = some (.cells #[.int .u32 0, .slice none 0 0] 50) := (hbF.block _ (Array.getElem?_eq_some_iff.1 bZ).1).trans bZ
  have bF : Below w.heap.size (w) wF := (bB.mono (Nat.le_of_eq hsz.symm)).trans ⟨hbF.os, hbF.tape, hbF.output, hbF.size, fun k hk => hbF.block k (Nat.lt_of_lt_of_le hk (Nat.le_trans (Nat.le_of_eq hsz.symm) bB.size))⟩
  refine bodyPost_ret (results_ans2 rfl _ _ (w.heap.size + 1) _ _ (set2_row bZF _ _) rfl) rfl ?_
  refine ⟨_, rfl, rd_nil _ _, ?_⟩
  have hb2 := set2_below bF (R := w.heap.size + 1) (by omega) (.int .u32 (ansR (none))) (.slice none 0 0)
  exact Upd.same HS.out hb2

set_option maxHeartbeats 1000000 in
theorem bar_3ok (w : World) (g f : Nat) (s : St) (t : Nat) (obj call part arg val : Int) (h : Seg w g f s) (p0 : t < 8) (p1 : 0 ≤ arg) (p2 : arg ≤ 4294967295) (p3 : 1 ≤ s.o.n) (p4 : s.o.n ≤ 8) (p5 : 0 ≤ s.come.getD t 0) (p6 : s.come.getD t 0 ≤ 1000000) (p7 : 0 ≤ s.left.getD t 0) (p8 : s.left.getD t 0 ≤ 1000000) (p9 : 0 ≤ s.opened) (p10 : s.opened ≤ 1000000) (p11 : ((t : Nat) : Int) < s.o.n) (p12 : arg = s.o.n) (p13 : part = 3) (p14 : s.come.getD t 0 ≠ s.left.getD t 0) (p15 : s.come.getD t 0 ≤ s.opened) :
    Calls Tryd.prog 19 #[.pointer (some ⟨g, f, none⟩), .agg #[.int .i64 ((t : Nat) : Int), .int .i64 obj, .int .i64 call, .int .i64 part, .int .u32 arg, .int .u32 val]] w (MPost w g f (some (0, [])) ({ s with left := s.left.set t (s.left.getD t 0 + 1) })) := by
  have hlt := h.lt
  have c_n : w.cell? ⟨g, f + 1, none⟩ = some (.int .i64 s.o.n) := (h.at 1 (by decide)).1.trans s.cells_at.2.1
  have z_n : w.frozen? ⟨g, f + 1, none⟩ = false := (h.at 1 (by decide)).2
  have c_opened : w.cell? ⟨g, f + 29, none⟩ = some (.int .i64 s.opened) := (h.at 29 (by decide)).1.trans h.1.mid.2.2
  have z_opened : w.frozen? ⟨g, f + 29, none⟩ = false := (h.at 29 (by decide)).2
  have q0 : decide (s.o.n ≤ ((t : Nat) : Int)) = false := by exact decide_eq_false (by omega)
  have q1 : (arg != s.o.n) = false := by simp; omega
  have q2 : (part == 1) = false := by simp; omega
  have q3 : (part == 2) = false := by simp; omega
  have q4 : (part == 3) = true := by simp; omega
  have q5 : (s.come.getD t 0 == s.left.getD t 0) = false := by rw [beq_eq_false_iff_ne]; omega
  have q6 : decide (s.opened < s.come.getD t 0) = false := by exact decide_eq_false (by omega)
  have c_co : w.cell? ⟨g, f + 21 + t, none⟩ = some (.int .i64 (s.come.getD t 0)) := by
    rw [Nat.add_assoc]
    exact (h.at (21 + t) (by omega)).1.trans (h.1.cntAt t p0).1
  have z_co : w.frozen? ⟨g, f + 21 + t, none⟩ = false := by
    rw [Nat.add_assoc]
    exact (h.at (21 + t) (by omega)).2
  have c_le : w.cell? ⟨g, f + 30 + t, none⟩ = some (.int .i64 (s.left.getD t 0)) := by
    rw [Nat.add_assoc]
    exact (h.at (30 + t) (by omega)).1.trans (h.1.cntAt t p0).2
  have z_le : w.frozen? ⟨g, f + 30 + t, none⟩ = false := by
    rw [Nat.add_assoc]
    exact (h.at (30 + t) (by omega)).2
  have wr0 : IntKind.u64.wrap arg = arg := by rw [IntKind.wrap_u64]; omega
  have wr1 : IntKind.u64.wrap s.o.n = s.o.n := by rw [IntKind.wrap_u64]; omega
  have wr2 : IntKind.i64.wrap (s.come.getD t 0 + 1) = s.come.getD t 0 + 1 := by rw [IntKind.wrap_i64]; omega
  have wr3 : IntKind.i64.wrap (s.left.getD t 0 + 1) = s.left.getD t 0 + 1 := by rw [IntKind.wrap_i64]; omega
  have wr4 : IntKind.i64.wrap (s.opened + 1) = s.opened + 1 := by rw [IntKind.wrap_i64]; omega
  generalize hC : s.come.getD t 0 = C at *
  generalize hL : s.left.getD t 0 = Lf at *
  clear hC hL
  have HS := Lib.hid h
  have ht8 : ((t : Nat) : Int) < 8 := by omega
  have ht0 : (0 : Int) ≤ ((t : Nat) : Int) := by omega
  clear h p1 p2 p3 p4 p5 p6 p7 p8 p9 p10 p11 p12 p13 p14 p15
  go_enter Tryd.func19, Tryd.ntmps19
  go_wp2_with (first
      | (go_at_call 33; refine (told_any _ _).mono ?_; rintro e wF ⟨rfl, hbF⟩; have hk := keepC hbF (Nat.le_refl _); have hf := keepF hbF (Nat.le_refl _))
      | (go_at_call 34; refine (fine_any _).mono ?_; rintro e wF ⟨rfl, hbF⟩; have hk := keepC hbF (Nat.le_refl _); have hf := keepF hbF (Nat.le_refl _))
      | (go_at_call 13; refine (not_any _).mono ?_; rintro e wF ⟨rfl, hbF⟩; have hk := keepC hbF (Nat.le_refl _); have hf := keepF hbF (Nat.le_refl _)))
  go_quiet (fail)
  go_wp2_with (first
      | (go_at_call 33; refine (told_any _ _).mono ?_; rintro e wF ⟨rfl, hbF⟩; have hk := keepC hbF (Nat.le_refl _); have hf := keepF hbF (Nat.le_refl _))
      | (go_at_call 34; refine (fine_any _).mono ?_; rintro e wF ⟨rfl, hbF⟩; have hk := keepC hbF (Nat.le_refl _); have hf := keepF hbF (Nat.le_refl _))
      | (go_at_call 13; refine (not_any _).mono ?_; rintro e wF ⟨rfl, hbF⟩; have hk := keepC hbF (Nat.le_refl _); have hf := keepF hbF (Nat.le_refl _)))
  go_quiet (fail)
  go_wp2_with (first
      | (go_at_call 33; refine (told_any _ _).mono ?_; rintro e wF ⟨rfl, hbF⟩; have hk := keepC hbF (Nat.le_refl _); have hf := keepF hbF (Nat.le_refl _))
      | (go_at_call 34; refine (fine_any _).mono ?_; rintro e wF ⟨rfl, hbF⟩; have hk := keepC hbF (Nat.le_refl _); have hf := keepF hbF (Nat.le_refl _))
      | (go_at_call 13; refine (not_any _).mono ?_; rintro e wF ⟨rfl, hbF⟩; have hk := keepC hbF (Nat.le_refl _); have hf := keepF hbF (Nat.le_refl _)))
  go_quiet (fail)
  go_wp2_with (first
      | (go_at_call 33; refine (told_any _ _).mono ?_; rintro e wF ⟨rfl, hbF⟩; have hk := keepC hbF (Nat.le_refl _); have hf := keepF hbF (Nat.le_refl _))
      | (go_at_call 34; refine (fine_any _).mono ?_; rintro e wF ⟨rfl, hbF⟩; have hk := keepC hbF (Nat.le_refl _); have hf := keepF hbF (Nat.le_refl _))
      | (go_at_call 13; refine (not_any _).mono ?_; rintro e wF ⟨rfl, hbF⟩; have hk := keepC hbF (Nat.le_refl _); have hf := keepF hbF (Nat.le_refl _)))
  go_region_with (fail)
  go_wp2_with (first
      | (go_at_call 33; refine (told_any _ _).mono ?_; rintro e wF ⟨rfl, hbF⟩; have hk := keepC hbF (Nat.le_refl _); have hf := keepF hbF (Nat.le_refl _))
      | (go_at_call 34; refine (fine_any _).mono ?_; rintro e wF ⟨rfl, hbF⟩; have hk := keepC hbF (Nat.le_refl _); have hf := keepF hbF (Nat.le_refl _))
      | (go_at_call 13; refine (not_any _).mono ?_; rintro e wF ⟨rfl, hbF⟩; have hk := keepC hbF (Nat.le_refl _); have hf := keepF hbF (Nat.le_refl _)))
  obtain ⟨bZ0, bB0⟩ := two_new w (.cells #[.int .i64 ((t : Nat) : Int), .int .i64 obj, .int .i64 call, .int .i64 part, .int .u32 arg, .int .u32 val] 32) (.cells #[.int .u32 0, .slice none 0 0] 50)
  have bB := Below.both (bB0) ⟨g, f + 30 + t, none⟩ (.int .i64 (Lf + 1))
  have hrow : (((w.alloc (.cells #[.int .i64 ((t : Nat) : Int), .int .i64 obj, .int .i64 call, .int .i64 part, .int .u32 arg, .int .u32 val] 32)).alloc (.cells #[.int .u32 0, .slice none 0 0] 50)).setCell ⟨g, f + 30 + t, none⟩ (.int .i64 (Lf + 1))).heap[w.heap.size + 1]? = some (.cells #[.int .u32 0, .slice none 0 0] 50) := (Below.heap_setCell _ _ _ _ (show w.heap.size + 1 ≠ g by omega)).trans (bZ0)
  have bZF : wF.heap[w.heap.size + 1]? = some (.cells #[.int .u32 0, .slice none 0 0] 50) := (hbF.block _ (by have := (Array.getElem?_eq_some_iff.1 bZ0).1; simp at this ⊢)).trans hrow
  have bF : Below w.heap.size ((w.setCell ⟨g, f + 30 + t, none⟩ (.int .i64 (Lf + 1)))) wF := bB.trans ⟨hbF.os, hbF.tape, hbF.output, hbF.size, fun k hk => hbF.block k (Nat.lt_of_lt_of_le hk (by have := bB.size; simp at this ⊢; omega))⟩
  refine bodyPost_ret (results_ans2 rfl _ _ (w.heap.size + 1) _ _ (set2_row bZF _ _) rfl) rfl ?_
  refine ⟨_, rfl, rd_nil _ _, ?_⟩
  have hb2 := set2_below bF (R := w.heap.size + 1) (by omega) (.int .u32 (ansR (some (0, [])))) (.slice none 0 0)
  have hA : f + (30 + t) = f + 30 + t := by omega
  exact Upd.one HS.out (j := 30 + t) (by omega) (cells_left HS.out.1 t (by omega) (Lf + 1)) (by have hw := HS.out.1; exact ⟨hw.l1, hw.l2, hw.l3, hw.l4, by simpa using hw.l5⟩) (by rw [hA]; exact hb2)

set_option maxHeartbeats 1000000 in
theorem bar_0 (w : World) (g f : Nat) (s : St) (t : Nat) (obj call part arg val : Int) (h : Seg w g f s) (p0 : t < 8) (p1 : 0 ≤ arg) (p2 : arg ≤ 4294967295) (p3 : 1 ≤ s.o.n) (p4 : s.o.n ≤ 8) (p5 : 0 ≤ s.come.getD t 0) (p6 : s.come.getD t 0 ≤ 1000000) (p7 : 0 ≤ s.left.getD t 0) (p8 : s.left.getD t 0 ≤ 1000000) (p9 : 0 ≤ s.opened) (p10 : s.opened ≤ 1000000) (p11 : ((t : Nat) : Int) < s.o.n) (p12 : arg = s.o.n) (p13 : part ≠ 1) (p14 : part ≠ 2) (p15 : part ≠ 3) :
    Calls Tryd.prog 19 #[.pointer (some ⟨g, f, none⟩), .agg #[.int .i64 ((t : Nat) : Int), .int .i64 obj, .int .i64 call, .int .i64 part, .int .u32 arg, .int .u32 val]] w (MPost w g f (none) (s)) := by
  have hlt := h.lt
  have c_n : w.cell? ⟨g, f + 1, none⟩ = some (.int .i64 s.o.n) := (h.at 1 (by decide)).1.trans s.cells_at.2.1
  have z_n : w.frozen? ⟨g, f + 1, none⟩ = false := (h.at 1 (by decide)).2
  have c_opened : w.cell? ⟨g, f + 29, none⟩ = some (.int .i64 s.opened) := (h.at 29 (by decide)).1.trans h.1.mid.2.2
  have z_opened : w.frozen? ⟨g, f + 29, none⟩ = false := (h.at 29 (by decide)).2
  have q0 : decide (s.o.n ≤ ((t : Nat) : Int)) = false := by exact decide_eq_false (by omega)
  have q1 : (arg != s.o.n) = false := by simp; omega
  have q2 : (part == 1) = false := by simp; omega
  have q3 : (part == 2) = false := by simp; omega
  have q4 : (part == 3) = false := by simp; omega
  have c_co : w.cell? ⟨g, f + 21 + t, none⟩ = some (.int .i64 (s.come.getD t 0)) := by
    rw [Nat.add_assoc]
    exact (h.at (21 + t) (by omega)).1.trans (h.1.cntAt t p0).1
  have z_co : w.frozen? ⟨g, f + 21 + t, none⟩ = false := by
    rw [Nat.add_assoc]
    exact (h.at (21 + t) (by omega)).2
  have c_le : w.cell? ⟨g, f + 30 + t, none⟩ = some (.int .i64 (s.left.getD t 0)) := by
    rw [Nat.add_assoc]
    exact (h.at (30 + t) (by omega)).1.trans (h.1.cntAt t p0).2
  have z_le : w.frozen? ⟨g, f + 30 + t, none⟩ = false := by
    rw [Nat.add_assoc]
    exact (h.at (30 + t) (by omega)).2
  have wr0 : IntKind.u64.wrap arg = arg := by rw [IntKind.wrap_u64]; omega
  have wr1 : IntKind.u64.wrap s.o.n = s.o.n := by rw [IntKind.wrap_u64]; omega
  have wr2 : IntKind.i64.wrap (s.come.getD t 0 + 1) = s.come.getD t 0 + 1 := by rw [IntKind.wrap_i64]; omega
  have wr3 : IntKind.i64.wrap (s.left.getD t 0 + 1) = s.left.getD t 0 + 1 := by rw [IntKind.wrap_i64]; omega
  have wr4 : IntKind.i64.wrap (s.opened + 1) = s.opened + 1 := by rw [IntKind.wrap_i64]; omega
  generalize hC : s.come.getD t 0 = C at *
  generalize hL : s.left.getD t 0 = Lf at *
  clear hC hL
  have HS := Lib.hid h
  have ht8 : ((t : Nat) : Int) < 8 := by omega
  have ht0 : (0 : Int) ≤ ((t : Nat) : Int) := by omega
  clear h p1 p2 p3 p4 p5 p6 p7 p8 p9 p10 p11 p12 p13 p14 p15
  go_enter Tryd.func19, Tryd.ntmps19
  go_wp2_with (first
      | (go_at_call 33; refine (told_any _ _).mono ?_; rintro e wF ⟨rfl, hbF⟩; have hk := keepC hbF (Nat.le_refl _); have hf := keepF hbF (Nat.le_refl _))
      | (go_at_call 34; refine (fine_any _).mono ?_; rintro e wF ⟨rfl, hbF⟩; have hk := keepC hbF (Nat.le_refl _); have hf := keepF hbF (Nat.le_refl _))
      | (go_at_call 13; refine (not_any _).mono ?_; rintro e wF ⟨rfl, hbF⟩; have hk := keepC hbF (Nat.le_refl _); have hf := keepF hbF (Nat.le_refl _)))
  go_quiet (fail)
  go_wp2_with (first
      | (go_at_call 33; refine (told_any _ _).mono ?_; rintro e wF ⟨rfl, hbF⟩; have hk := keepC hbF (Nat.le_refl _); have hf := keepF hbF (Nat.le_refl _))
      | (go_at_call 34; refine (fine_any _).mono ?_; rintro e wF ⟨rfl, hbF⟩; have hk := keepC hbF (Nat.le_refl _); have hf := keepF hbF (Nat.le_refl _))
      | (go_at_call 13; refine (not_any _).mono ?_; rintro e wF ⟨rfl, hbF⟩; have hk := keepC hbF (Nat.le_refl _); have hf := keepF hbF (Nat.le_refl _)))
  go_quiet (fail)
  go_wp2_with (first
      | (go_at_call 33; refine (told_any _ _).mono ?_; rintro e wF ⟨rfl, hbF⟩; have hk := keepC hbF (Nat.le_refl _); have hf := keepF hbF (Nat.le_refl _))
      | (go_at_call 34; refine (fine_any _).mono ?_; rintro e wF ⟨rfl, hbF⟩; have hk := keepC hbF (Nat.le_refl _); have hf := keepF hbF (Nat.le_refl _))
      | (go_at_call 13; refine (not_any _).mono ?_; rintro e wF ⟨rfl, hbF⟩; have hk := keepC hbF (Nat.le_refl _); have hf := keepF hbF (Nat.le_refl _)))
  have hZ := two_new (w) (.cells #[.int .i64 ((t : Nat) : Int), .int .i64 obj, .int .i64 call, .int .i64 part, .int .u32 arg, .int .u32 val] 32) (.cells #[.int .u32 0, .slice none 0 0] 50)
  have hsz : (w).heap.size = w.heap.size := by simp
  obtain ⟨bZ0, bB⟩ := hZ
  have bZ : (((w).alloc (.cells #[.int .i64 ((t : Nat) : Int), .int .i64 obj, .int .i64 call, .int .i64 part, .int .u32 arg, .int .u32 val] 32)).alloc (.cells #[.int .u32 0, .slice none 0 0] 50)).heap[w.heap.size + 1]? = some (.cells #[.int .u32 0, .slice none 0 0] 50) := by rw [hsz] at bZ0; exact bZ0
  have bZF : wF.heap[w.heap.size + 1]? = some (.cells #[.int .u32 0, .slice none 0 0] 50) := (hbF.block _ (Array.getElem?_eq_some_iff.1 bZ).1).trans bZ
  have bF : Below w.heap.size (w) wF := (bB.mono (Nat.le_of_eq hsz.symm)).trans ⟨hbF.os, hbF.tape, hbF.output, hbF.size, fun k hk => hbF.block k (Nat.lt_of_lt_of_le hk (Nat.le_trans (Nat.le_of_eq hsz.symm) bB.size))⟩
  refine bodyPost_ret (results_ans2 rfl _ _ (w.heap.size + 1) _ _ (set2_row bZF _ _) rfl) rfl ?_
  refine ⟨_, rfl, rd_nil _ _, ?_⟩
  have hb2 := set2_below bF (R := w.heap.size + 1) (by omega) (.int .u32 (ansR (none))) (.slice none 0 0)
  exact Upd.same HS.out hb2

set_option maxHeartbeats 2000000 in
theorem bar_2 (w : World) (g f : Nat) (s : St) (t : Nat) (obj call part arg val : Int) (h : Seg w g f s) (p0 : t < 8) (p1 : 0 ≤ arg) (p2 : arg ≤ 4294967295) (p3 : 1 ≤ s.o.n) (p4 : s.o.n ≤ 8) (p5 : 0 ≤ s.opened) (p6 : s.opened ≤ 1000000) (p7 : ((t : Nat) : Int) < s.o.n) (p8 : arg = s.o.n) (p9 : part = 2) (r : Ans × St) (hr : r = if (List.range s.o.n.toNat).any (fun t => decide (s.come.getD t 0 ≤ s.opened)) = true then (none, s) else (some (0, []), { s with opened := s.opened + 1 })) :
    Calls Tryd.prog 19 #[.pointer (some ⟨g, f, none⟩), .agg #[.int .i64 ((t : Nat) : Int), .int .i64 obj, .int .i64 call, .int .i64 part, .int .u32 arg, .int .u32 val]] w (MPost w g f r.1 r.2) := by
  have hlt := h.lt
  have c_n : w.cell? ⟨g, f + 1, none⟩ = some (.int .i64 s.o.n) := (h.at 1 (by decide)).1.trans s.cells_at.2.1
  have wr0 : IntKind.u64.wrap arg = arg := by rw [IntKind.wrap_u64]; omega
  have wr1 : IntKind.u64.wrap s.o.n = s.o.n := by rw [IntKind.wrap_u64]; omega
  have wr4 : IntKind.i64.wrap (s.opened + 1) = s.opened + 1 := by rw [IntKind.wrap_i64]; omega
  have q0 : decide (s.o.n ≤ ((t : Nat) : Int)) = false := decide_eq_false (by omega)
  have q1 : (arg != s.o.n) = false := by simp; omega
  have q2 : (part == 1) = false := by simp; omega
  have q3 : (part == 2) = true := by simp; omega
  have HS := Lib.hid h
  have HR := Lib.hid hr
  have ht8 : ((t : Nat) : Int) < 8 := by omega
  have ht0 : (0 : Int) ≤ ((t : Nat) : Int) := by omega
  clear h hr p1 p2 p8 p9
  obtain ⟨bZ, bB⟩ := two_new w (.cells #[.int .i64 ((t : Nat) : Int), .int .i64 obj, .int .i64 call, .int .i64 part, .int .u32 arg, .int .u32 val] 32) (.cells #[.int .u32 0, .slice none 0 0] 50)
  have HBB := Lib.hid bB
  have HBZ := Lib.hid bZ
  clear bB bZ
  go_enter Tryd.func19, Tryd.ntmps19
  go_wp2_with fail
  go_quiet (fail)
  go_wp2_with fail
  go_quiet (fail)
  go_wp2_with fail
  clear c_n wr0 wr1 q0 q1 q2 q3
  go_loopw [76] (fun iv wr => ∃ i : Nat, (i : Int) ≤ max s.o.n 0 ∧ iv = .int .i64 i ∧ Hid (∀ t', t' < i → s.opened < s.come.getD t' 0) ∧ Hid (Below ((w.alloc (.cells #[.int .i64 ((t : Nat) : Int), .int .i64 obj, .int .i64 call, .int .i64 part, .int .u32 arg, .int .u32 val] 32)).alloc (.cells #[.int .u32 0, .slice none 0 0] 50)).heap.size ((w.alloc (.cells #[.int .i64 ((t : Nat) : Int), .int .i64 obj, .int .i64 call, .int .i64 part, .int .u32 arg, .int .u32 val] 32)).alloc (.cells #[.int .u32 0, .slice none 0 0] 50)) wr)) (fun i _ => s.o.n.toNat - (intOf i).toNat)
  case atStart => exact ⟨0, by omega, rfl, fun t ht => by omega, ⟨rfl, rfl, rfl, Nat.le_refl _, fun _ _ => rfl⟩⟩
  case round =>
    obtain ⟨i, hiN, rfl, HA, HB⟩ := hrel
    have hbw : Below w.heap.size w wr := HBB.out.trans (HB.out.mono HBB.out.size)
    have hSr := Seg.below HS.out hbw
    have bZr := obj_keep HBZ.out HB.out
    have hRr : w.heap.size + 1 < wr.heap.size := (Array.getElem?_eq_some_iff.1 bZr).1
    have hgr : g < wr.heap.size := hSr.lt
    have c_opened : wr.cell? ⟨g, f + 29, none⟩ = some (.int .i64 s.opened) := (hSr.at 29 (by decide)).1.trans hSr.1.mid.2.2
    have z_opened : wr.frozen? ⟨g, f + 29, none⟩ = false := (hSr.at 29 (by decide)).2
    have rc0 : wr.cell? ⟨w.heap.size + 1, 0, none⟩ = some (.int .u32 0) := cell_of_row wr (w.heap.size + 1) 0 _ _ _ bZr
    have rc1 : wr.cell? ⟨w.heap.size + 1, 1, none⟩ = some (.slice none 0 0) := cell_of_row wr (w.heap.size + 1) 1 _ _ _ bZr
    have rf0 : wr.frozen? ⟨w.heap.size + 1, 0, none⟩ = false := frozen_of_row _ _ _ _ _ bZr
    have rf1 : wr.frozen? ⟨w.heap.size + 1, 1, none⟩ = false := frozen_of_row _ _ _ _ _ bZr
    have HBZr := Lib.hid bZr
    have HBW := Lib.hid hbw
    clear bZr hbw
    by_cases hlt2 : (i : Int) < s.o.n
    · have dlt : decide ((i : Int) < s.o.n) = true := decide_eq_true hlt2
      have i8 : (i : Int) < 8 := by omega
      have i0 : (0 : Int) ≤ (i : Int) := by omega
      have c_ci : wr.cell? ⟨g, f + 21 + i, none⟩ = some (.int .i64 (s.come.getD i 0)) := by
        rw [Nat.add_assoc]
        exact (hSr.at (21 + i) (by omega)).1.trans (hSr.1.cntAt i (by omega)).1
      have HSr := Lib.hid hSr
      clear hSr
      by_cases c : s.come.getD i 0 ≤ s.opened
      · have dc : decide (s.come.getD i 0 ≤ s.opened) = true := decide_eq_true c
        obtain rfl : r = (none, s) := by
          rw [HR.out, if_pos (List.any_eq_true.2 ⟨i, List.mem_range.2 (by omega), by simpa using c⟩)]
        clear c HR
        generalize s.come.getD i 0 = C at c_ci dc
        go_wp2_with fail
        go_quiet (fail)
        go_wp2_with (go_at_call 13; refine (not_any _).mono ?_; rintro e wF ⟨rfl, hbF⟩; have e0 : wF.cell? ⟨w.heap.size + 1, 0, none⟩ = some (.int .u32 0) := (keepC hbF (Nat.le_refl _) _ _ hRr).trans rc0; have e1 : wF.cell? ⟨w.heap.size + 1, 1, none⟩ = some (.slice none 0 0) := (keepC hbF (Nat.le_refl _) _ _ hRr).trans rc1; have e2 : wF.frozen? ⟨w.heap.size + 1, 0, none⟩ = false := (keepF hbF (Nat.le_refl _) _ _ hRr).trans rf0; have e3 : wF.frozen? ⟨w.heap.size + 1, 1, none⟩ = false := (keepF hbF (Nat.le_refl _) _ _ hRr).trans rf1)
        have bR : wF.heap[w.heap.size + 1]? = some (.cells #[.int .u32 0, .slice none 0 0] 50) := (hbF.block _ hRr).trans HBZr.out
        refine bodyPost_ret (results_ans2 rfl _ _ (w.heap.size + 1) _ _ (set2_row bR _ _) rfl) rfl ?_
        exact ⟨_, rfl, rd_nil _ _, Upd.same HS.out (set2_below (HBW.out.trans ⟨hbF.os, hbF.tape, hbF.output, hbF.size, fun k hk => hbF.block k (Nat.lt_of_lt_of_le hk HBW.out.size)⟩) (by omega) _ _)⟩
      · have dc : decide (s.come.getD i 0 ≤ s.opened) = false := decide_eq_false c
        have HA1 : Hid (∀ t', t' < i + 1 → s.opened < s.come.getD t' 0) := by
          intro t' ht'
          by_cases e : t' = i
          · subst e; omega
          · exact HA.out t' (by omega)
        clear c
        generalize s.come.getD i 0 = C at c_ci dc
        go_wp2_with fail
        go_quiet (fail)
        go_wp2_with fail
        refine ⟨⟨i + 1, by omega, by simp, HA1, ?_⟩, by simp [intOf]; omega⟩
        have hb := HB.out
        exact ⟨hb.os, hb.tape, hb.output, hb.size, hb.block⟩
    · have dlt : decide ((i : Int) < s.o.n) = false := decide_eq_false hlt2
      obtain rfl : r = (some (0, []), { s with opened := s.opened + 1 }) := by
        rw [HR.out, if_neg]
        intro e
        obtain ⟨t', ht', hp⟩ := List.any_eq_true.1 e
        have h1 := HA.out t' (by have := List.mem_range.1 ht'; omega)
        have h2 : s.come.getD t' 0 ≤ s.opened := by simpa using hp
        omega
      have HSr := Lib.hid hSr
      clear HR hSr
      go_wp2_with (go_at_call 34; refine (fine_any _).mono ?_; rintro e wF ⟨rfl, hbF⟩; have hk := keepC hbF (Nat.le_refl _); have hf := keepF hbF (Nat.le_refl _))
      have hRg : w.heap.size + 1 ≠ g := by omega
      have bR : wF.heap[w.heap.size + 1]? = some (.cells #[.int .u32 0, .slice none 0 0] 50) := (hbF.block _ (by simp; exact hRr)).trans ((Below.heap_setCell _ _ _ _ hRg).trans HBZr.out)
      refine bodyPost_ret (results_ans2 rfl _ _ (w.heap.size + 1) _ _ (set2_row bR _ _) rfl) rfl ?_
      have hbb := Below.both HBW.out ⟨g, f + 29, none⟩ (.int .i64 (s.opened + 1))
      exact ⟨_, rfl, rd_nil _ _, Upd.one HS.out (j := 29) (by decide) (cells_opened HS.out.1 _) (by have hw := HS.out.1; exact ⟨hw.l1, hw.l2, hw.l3, hw.l4, hw.l5⟩) (set2_below (hbb.trans ⟨hbF.os, hbF.tape, hbF.output, hbF.size, fun k hk => hbF.block k (Nat.lt_of_lt_of_le hk (by have := hbb.size; simp at this ⊢; omega))⟩) (by omega) _ _)⟩

/-- A barrier's counts are small. -/
def BarOk (s : St) : Prop := (∀ t, t < 8 → 0 ≤ s.come.getD t 0 ∧ s.come.getD t 0 ≤ 1000000 ∧ 0 ≤ s.left.getD t 0 ∧ s.left.getD t 0 ≤ 1000000) ∧ 0 ≤ s.opened ∧ s.opened ≤ 1000000
theorem bar_any (w : World) (g f : Nat) (s : St) (x : Ask) (t : Nat) (hx : x.who = (t : Int)) (ht : t < 8) (h : Seg w g f s) (a0 : 0 ≤ x.arg) (a1 : x.arg ≤ 4294967295) (n0 : 1 ≤ s.o.n) (n1 : s.o.n ≤ 8) (hB : BarOk s) :
    Calls Tryd.prog 19 #[.pointer (some ⟨g, f, none⟩), .agg #[.int .i64 x.who, .int .i64 x.obj, .int .i64 x.call, .int .i64 x.part, .int .u32 x.arg, .int .u32 x.val]] w (MPF w g f (doBar s x).1 (doBar s x).2) := by
  obtain ⟨hB, o0, o1⟩ := hB
  obtain ⟨b0, b1, b2, b3⟩ := hB t ht
  obtain ⟨who, obj, call, part, arg, val⟩ := x
  dsimp only at hx a0 a1
  subst hx
  have hnil : ansD (doBar s ⟨((t : Nat) : Int), obj, call, part, arg, val⟩).1 = [] := by
    unfold doBar
    repeat' split
    all_goals rfl
  refine Calls.mono (R := MPost w g f (doBar s ⟨((t : Nat) : Int), obj, call, part, arg, val⟩).1 (doBar s ⟨((t : Nat) : Int), obj, call, part, arg, val⟩).2) ?_ (fun e w' q => MPost.fresh q hnil)
  unfold doBar
  dsimp only
  simp only [Int.toNat_natCast]
  by_cases c1 : s.o.n ≤ ((t : Nat) : Int)
  · rw [if_pos c1]
    exact bar_4 w g f s t obj call part arg val h ht a0 a1 n0 n1 b0 b1 b2 b3 o0 o1 c1
  · rw [if_neg c1]
    have c1' : ((t : Nat) : Int) < s.o.n := by omega
    by_cases c2 : arg ≠ s.o.n
    · rw [if_pos c2]
      exact bar_3 w g f s t obj call part arg val h ht a0 a1 n0 n1 b0 b1 b2 b3 o0 o1 c1' c2
    · rw [if_neg c2]
      have c2' : arg = s.o.n := by omega
      by_cases k1 : part = 1
      · rw [if_pos k1]
        by_cases c3 : s.left.getD t 0 < s.come.getD t 0
        · rw [if_pos c3]
          exact bar_1no w g f s t obj call part arg val h ht a0 a1 n0 n1 b0 b1 b2 b3 o0 o1 c1' c2' k1 c3
        · rw [if_neg c3]
          exact bar_1ok w g f s t obj call part arg val h ht a0 a1 n0 n1 b0 b1 b2 b3 o0 o1 c1' c2' k1 (by omega)
      · rw [if_neg k1]
        by_cases k2 : part = 2
        · rw [if_pos k2]
          exact bar_2 w g f s t obj call part arg val h ht a0 a1 n0 n1 o0 o1 c1' c2' k2 _ rfl
        · rw [if_neg k2]
          by_cases k3 : part = 3
          · rw [if_pos k3]
            by_cases c3 : s.come.getD t 0 = s.left.getD t 0
            · rw [if_pos (.inl c3)]
              exact bar_3eq w g f s t obj call part arg val h ht a0 a1 n0 n1 b0 b1 b2 b3 o0 o1 c1' c2' k3 c3
            · by_cases c4 : s.opened < s.come.getD t 0
              · rw [if_pos (.inr c4)]
                exact bar_3lt w g f s t obj call part arg val h ht a0 a1 n0 n1 b0 b1 b2 b3 o0 o1 c1' c2' k3 c3 c4
              · rw [if_neg (fun e => e.elim c3 c4)]
                exact bar_3ok w g f s t obj call part arg val h ht a0 a1 n0 n1 b0 b1 b2 b3 o0 o1 c1' c2' k3 c3 (by omega)
          · rw [if_neg k3]
            exact bar_0 w g f s t obj call part arg val h ht a0 a1 n0 n1 b0 b1 b2 b3 o0 o1 c1' c2' k1 k2 k3

end Go.Proofs.YtfemeiopfpblaaaDoor.As
