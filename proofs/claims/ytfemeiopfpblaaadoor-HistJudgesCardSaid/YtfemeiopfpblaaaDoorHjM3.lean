/- The walks of the package abs: what an object's calls do: a lock that many may read. -/
import Derived.Test.YtfemeiopfpblaaaDoorHjM2
set_option linter.unusedVariables false
set_option linter.unusedSimpArgs false
set_option maxRecDepth 20000
namespace Go.Proofs.YtfemeiopfpblaaaDoor.As
open Go.RowKit

theorem cells_rd {s : St} (h : s.Wf) (t : Nat) (ht : t < 8) (v : Bool) : ({ s with rd := s.rd.set t v } : St).cells = s.cells.set (5 + t) (.bool v) := by
  obtain ⟨h1, h2, h3, h4, h5⟩ := h
  unfold St.cells St.head
  rw [List.set_append_right _ _ (by simp), List.set_append_left _ _ (by simp [h1]; omega)]
  simp [List.map_set]

set_option maxHeartbeats 1000000 in
theorem run_eq8 (w : World) (a0 a1 a2 a3 a4 a5 a6 a7 : Bool) : (Op.equalIn 10000 58 (.agg #[.bool a0, .bool a1, .bool a2, .bool a3, .bool a4, .bool a5, .bool a6, .bool a7]) (.agg #[.bool false, .bool false, .bool false, .bool false, .bool false, .bool false, .bool false, .bool false])).run Tryd.prog w = .ok (decide ([a0, a1, a2, a3, a4, a5, a6, a7] = List.replicate 8 false)) w := by
  have hu : Tryd.prog.underlying 58 = some (.array 8 4) := by kernel_rfl
  show (Op.equalIn (9998 + 1 + 1) _ _ _).run _ w = _
  rw [Op.equalIn]
  have hb : Tryd.prog.underlying 4 = some .bool := by kernel_rfl
  obtain ⟨i, hi, hsz⟩ : ∃ i, Tryd.prog.info? 4 = some i ∧ i.size = 1 := Option.map_eq_some_iff.1 (show (Tryd.prog.info? 4).map (·.size) = some 1 by kernel_rfl)
  have hS : (sizeOf 4).run Tryd.prog w = .ok 1 w := by simp [sizeOf, typeInfo, hi, hsz]
  have hA : ∀ w', (isAgg 4).run Tryd.prog w' = .ok false w' := fun w' => by simp [isAgg, run_underlying hb]
  have hE : ∀ (a b : Bool) (w' : World), (Op.equalIn 9999 4 (.bool a) (.bool b)).run Tryd.prog w' = .ok (a == b) w' := fun a b w' => run_equalIn_bool' w' 9998 _ a b hb
  have hP : ∀ (xs : Array Value) (i : Nat) (h : i < xs.size) (w' : World), (part 4 xs i).run Tryd.prog w' = .ok xs[i] w' := fun xs i h w' => by
    simp [part, hA, h]
  simp only [Sem.run_bind, run_underlying hu, Result.andThen_ok, hS]
  rw [Std.Legacy.Range.forIn_eq_forIn_range']
  simp only [Std.Legacy.Range.size, show (8 - 0 + 1 - 1) / 1 = 8 from rfl, List.range', List.forIn_cons, List.forIn_nil, Nat.mul_one, Nat.zero_add, Nat.reduceAdd]
  rcases a0 with _ | _; rotate_left; · simp [hP, hE]
  rcases a1 with _ | _; rotate_left; · simp [hP, hE]
  rcases a2 with _ | _; rotate_left; · simp [hP, hE]
  rcases a3 with _ | _; rotate_left; · simp [hP, hE]
  rcases a4 with _ | _; rotate_left; · simp [hP, hE]
  rcases a5 with _ | _; rotate_left; · simp [hP, hE]
  rcases a6 with _ | _; rotate_left; · simp [hP, hE]
  cases a7 <;> simp [hP, hE]

set_option maxHeartbeats 1000000 in
theorem rw_2not (w : World) (g f : Nat) (s : St) (t : Nat) (obj call part arg val : Int) (h : Seg w g f s) (p0 : t < 8) (pR : s.rd.getD t false = false) (p1 : call = 2) (p2 : s.owner ≠ ((t : Nat) : Int)) :
    Calls Tryd.prog 20 #[.pointer (some ⟨g, f, none⟩), .agg #[.int .i64 ((t : Nat) : Int), .int .i64 obj, .int .i64 call, .int .i64 part, .int .u32 arg, .int .u32 val]] w (MPost w g f (some (2, [])) (s)) := by
  have hlt := h.lt
  have c_owner : w.cell? ⟨g, f + 4, none⟩ = some (.int .i64 s.owner) := (h.at 4 (by decide)).1.trans s.cells_at.2.2.2.2
  have z_owner : w.frozen? ⟨g, f + 4, none⟩ = false := (h.at 4 (by decide)).2
  have q0 : (call == 2) = true := by simp; omega
  have q1 : (s.owner == ((t : Nat) : Int)) = false := by simp; omega
  have c_rd : w.cell? ⟨g, f + 5 + t, none⟩ = some (.bool (s.rd.getD t false)) := by
    rw [Nat.add_assoc]
    exact (h.at (5 + t) (by omega)).1.trans (h.1.rdAt t p0)
  have z_rd : w.frozen? ⟨g, f + 5 + t, none⟩ = false := by
    rw [Nat.add_assoc]
    exact (h.at (5 + t) (by omega)).2
  rw [show s.rd.getD t false = false from pR] at c_rd
  have HS := Lib.hid h
  have ht8 : ((t : Nat) : Int) < 8 := by omega
  have ht0 : (0 : Int) ≤ ((t : Nat) : Int) := by omega
  clear pR h p1 p2
  go_enter Tryd.func20, Tryd.ntmps20
  go_wp2_with (first
      | (go_at_call 33; refine (told_any _ _).mono ?_; rintro e wF ⟨rfl, hbF⟩; have hk := keepC hbF (Nat.le_refl _); have hf := keepF hbF (Nat.le_refl _))
      | (go_at_call 34; refine (fine_any _).mono ?_; rintro e wF ⟨rfl, hbF⟩; have hk := keepC hbF (Nat.le_refl _); have hf := keepF hbF (Nat.le_refl _))
      | (go_at_call 13; refine (not_any _).mono ?_; rintro e wF ⟨rfl, hbF⟩; have hk := keepC hbF (Nat.le_refl _); have hf := keepF hbF (Nat.le_refl _)))
  go_quiet (fail)
  go_wp2_with (first
      | (go_at_call 33; refine (told_any _ _).mono ?_; rintro e wF ⟨rfl, hbF⟩; have hk := keepC hbF (Nat.le_refl _); have hf := keepF hbF (Nat.le_refl _))
      | (go_at_call 34; refine (fine_any _).mono ?_; rintro e wF ⟨rfl, hbF⟩; have hk := keepC hbF (Nat.le_refl _); have hf := keepF hbF (Nat.le_refl _))
      | (go_at_call 13; refine (not_any _).mono ?_; rintro e wF ⟨rfl, hbF⟩; have hk := keepC hbF (Nat.le_refl _); have hf := keepF hbF (Nat.le_refl _)))
  have hZ := two_new (w) (.cells #[.int .i64 ((t : Nat) : Int), .int .i64 obj, .int .i64 call, .int .i64 part, .int .u32 arg, .int .u32 val] 32) (.cells #[.int .u32 0, .slice none 0 0] 50)
  have hsz : (w).heap.size = w.heap.size := by simp
  obtain ⟨bZ0, bB⟩ := hZ
  have bZ : (((w).alloc (.cells #[.int .i64 ((t : Nat) : Int), .int .i64 obj, .int .i64 call, .int .i64 part, .int .u32 arg, .int .u32 val] 32)).alloc (.cells #[.int .u32 0, .slice none 0 0] 50)).heap[w.heap.size + 1]? = some (.cells #[.int .u32 0, .slice none 0 0] 50) := by rw [hsz] at bZ0; exact bZ0
  have bZF : wF.heap[w.heap.size + 1]? = some (.cells #[.int .u32 0, .slice none 0 0] 50) := (hbF.block _ (Array.getElem?_eq_some_iff.1 bZ).1).trans bZ
  have bF : Below w.heap.size (w) wF := (bB.mono (Nat.le_of_eq hsz.symm)).trans ⟨hbF.os, hbF.tape, hbF.output, hbF.size, fun k hk => hbF.block k (Nat.lt_of_lt_of_le hk (Nat.le_trans (Nat.le_of_eq hsz.symm) bB.size))⟩
  refine bodyPost_ret (results_ans2 rfl _ _ (w.heap.size + 1) _ _ (set2_row bZF _ _) rfl) rfl ?_
  refine ⟨_, rfl, rd_nil _ _, ?_⟩
  have hb2 := set2_below bF (R := w.heap.size + 1) (by omega) (.int .u32 (ansR (some (2, [])))) (.slice none 0 0)
  exact Upd.same HS.out hb2

set_option maxHeartbeats 1000000 in
theorem rw_1own (w : World) (g f : Nat) (s : St) (t : Nat) (obj call part arg val : Int) (h : Seg w g f s) (p0 : t < 8) (p1 : call ≠ 2) (p2 : s.owner = ((t : Nat) : Int)) :
    Calls Tryd.prog 20 #[.pointer (some ⟨g, f, none⟩), .agg #[.int .i64 ((t : Nat) : Int), .int .i64 obj, .int .i64 call, .int .i64 part, .int .u32 arg, .int .u32 val]] w (MPost w g f (some (1, [])) (s)) := by
  have hlt := h.lt
  have c_owner : w.cell? ⟨g, f + 4, none⟩ = some (.int .i64 s.owner) := (h.at 4 (by decide)).1.trans s.cells_at.2.2.2.2
  have z_owner : w.frozen? ⟨g, f + 4, none⟩ = false := (h.at 4 (by decide)).2
  have q0 : (call == 2) = false := by simp; omega
  have q1 : (s.owner == ((t : Nat) : Int)) = true := by simp; omega
  have c_rd : w.cell? ⟨g, f + 5 + t, none⟩ = some (.bool (s.rd.getD t false)) := by
    rw [Nat.add_assoc]
    exact (h.at (5 + t) (by omega)).1.trans (h.1.rdAt t p0)
  have z_rd : w.frozen? ⟨g, f + 5 + t, none⟩ = false := by
    rw [Nat.add_assoc]
    exact (h.at (5 + t) (by omega)).2
  have HS := Lib.hid h
  have ht8 : ((t : Nat) : Int) < 8 := by omega
  have ht0 : (0 : Int) ≤ ((t : Nat) : Int) := by omega
  clear h p1 p2
  go_enter Tryd.func20, Tryd.ntmps20
  go_wp2_with (first
      | (go_at_call 33; refine (told_any _ _).mono ?_; rintro e wF ⟨rfl, hbF⟩; have hk := keepC hbF (Nat.le_refl _); have hf := keepF hbF (Nat.le_refl _))
      | (go_at_call 34; refine (fine_any _).mono ?_; rintro e wF ⟨rfl, hbF⟩; have hk := keepC hbF (Nat.le_refl _); have hf := keepF hbF (Nat.le_refl _))
      | (go_at_call 13; refine (not_any _).mono ?_; rintro e wF ⟨rfl, hbF⟩; have hk := keepC hbF (Nat.le_refl _); have hf := keepF hbF (Nat.le_refl _)))
  go_quiet (fail)
  go_wp2_with (first
      | (go_at_call 33; refine (told_any _ _).mono ?_; rintro e wF ⟨rfl, hbF⟩; have hk := keepC hbF (Nat.le_refl _); have hf := keepF hbF (Nat.le_refl _))
      | (go_at_call 34; refine (fine_any _).mono ?_; rintro e wF ⟨rfl, hbF⟩; have hk := keepC hbF (Nat.le_refl _); have hf := keepF hbF (Nat.le_refl _))
      | (go_at_call 13; refine (not_any _).mono ?_; rintro e wF ⟨rfl, hbF⟩; have hk := keepC hbF (Nat.le_refl _); have hf := keepF hbF (Nat.le_refl _)))
  have hZ := two_new (w) (.cells #[.int .i64 ((t : Nat) : Int), .int .i64 obj, .int .i64 call, .int .i64 part, .int .u32 arg, .int .u32 val] 32) (.cells #[.int .u32 0, .slice none 0 0] 50)
  have hsz : (w).heap.size = w.heap.size := by simp
  obtain ⟨bZ0, bB⟩ := hZ
  have bZ : (((w).alloc (.cells #[.int .i64 ((t : Nat) : Int), .int .i64 obj, .int .i64 call, .int .i64 part, .int .u32 arg, .int .u32 val] 32)).alloc (.cells #[.int .u32 0, .slice none 0 0] 50)).heap[w.heap.size + 1]? = some (.cells #[.int .u32 0, .slice none 0 0] 50) := by rw [hsz] at bZ0; exact bZ0
  have bZF : wF.heap[w.heap.size + 1]? = some (.cells #[.int .u32 0, .slice none 0 0] 50) := (hbF.block _ (Array.getElem?_eq_some_iff.1 bZ).1).trans bZ
  have bF : Below w.heap.size (w) wF := (bB.mono (Nat.le_of_eq hsz.symm)).trans ⟨hbF.os, hbF.tape, hbF.output, hbF.size, fun k hk => hbF.block k (Nat.lt_of_lt_of_le hk (Nat.le_trans (Nat.le_of_eq hsz.symm) bB.size))⟩
  refine bodyPost_ret (results_ans2 rfl _ _ (w.heap.size + 1) _ _ (set2_row bZF _ _) rfl) rfl ?_
  refine ⟨_, rfl, rd_nil _ _, ?_⟩
  have hb2 := set2_below bF (R := w.heap.size + 1) (by omega) (.int .u32 (ansR (some (1, [])))) (.slice none 0 0)
  exact Upd.same HS.out hb2

set_option maxHeartbeats 1000000 in
theorem rw_1rd (w : World) (g f : Nat) (s : St) (t : Nat) (obj call part arg val : Int) (h : Seg w g f s) (p0 : t < 8) (pR : s.rd.getD t false = true) (p1 : call ≠ 2) (p2 : s.owner ≠ ((t : Nat) : Int)) :
    Calls Tryd.prog 20 #[.pointer (some ⟨g, f, none⟩), .agg #[.int .i64 ((t : Nat) : Int), .int .i64 obj, .int .i64 call, .int .i64 part, .int .u32 arg, .int .u32 val]] w (MPost w g f (some (1, [])) (s)) := by
  have hlt := h.lt
  have c_owner : w.cell? ⟨g, f + 4, none⟩ = some (.int .i64 s.owner) := (h.at 4 (by decide)).1.trans s.cells_at.2.2.2.2
  have z_owner : w.frozen? ⟨g, f + 4, none⟩ = false := (h.at 4 (by decide)).2
  have q0 : (call == 2) = false := by simp; omega
  have q1 : (s.owner == ((t : Nat) : Int)) = false := by simp; omega
  have c_rd : w.cell? ⟨g, f + 5 + t, none⟩ = some (.bool (s.rd.getD t false)) := by
    rw [Nat.add_assoc]
    exact (h.at (5 + t) (by omega)).1.trans (h.1.rdAt t p0)
  have z_rd : w.frozen? ⟨g, f + 5 + t, none⟩ = false := by
    rw [Nat.add_assoc]
    exact (h.at (5 + t) (by omega)).2
  rw [show s.rd.getD t false = true from pR] at c_rd
  have HS := Lib.hid h
  have ht8 : ((t : Nat) : Int) < 8 := by omega
  have ht0 : (0 : Int) ≤ ((t : Nat) : Int) := by omega
  clear pR h p1 p2
  go_enter Tryd.func20, Tryd.ntmps20
  go_wp2_with (first
      | (go_at_call 33; refine (told_any _ _).mono ?_; rintro e wF ⟨rfl, hbF⟩; have hk := keepC hbF (Nat.le_refl _); have hf := keepF hbF (Nat.le_refl _))
      | (go_at_call 34; refine (fine_any _).mono ?_; rintro e wF ⟨rfl, hbF⟩; have hk := keepC hbF (Nat.le_refl _); have hf := keepF hbF (Nat.le_refl _))
      | (go_at_call 13; refine (not_any _).mono ?_; rintro e wF ⟨rfl, hbF⟩; have hk := keepC hbF (Nat.le_refl _); have hf := keepF hbF (Nat.le_refl _)))
  go_quiet (fail)
  go_wp2_with (first
      | (go_at_call 33; refine (told_any _ _).mono ?_; rintro e wF ⟨rfl, hbF⟩; have hk := keepC hbF (Nat.le_refl _); have hf := keepF hbF (Nat.le_refl _))
      | (go_at_call 34; refine (fine_any _).mono ?_; rintro e wF ⟨rfl, hbF⟩; have hk := keepC hbF (Nat.le_refl _); have hf := keepF hbF (Nat.le_refl _))
      | (go_at_call 13; refine (not_any _).mono ?_; rintro e wF ⟨rfl, hbF⟩; have hk := keepC hbF (Nat.le_refl _); have hf := keepF hbF (Nat.le_refl _)))
  have hZ := two_new (w) (.cells #[.int .i64 ((t : Nat) : Int), .int .i64 obj, .int .i64 call, .int .i64 part, .int .u32 arg, .int .u32 val] 32) (.cells #[.int .u32 0, .slice none 0 0] 50)
  have hsz : (w).heap.size = w.heap.size := by simp
  obtain ⟨bZ0, bB⟩ := hZ
  have bZ : (((w).alloc (.cells #[.int .i64 ((t : Nat) : Int), .int .i64 obj, .int .i64 call, .int .i64 part, .int .u32 arg, .int .u32 val] 32)).alloc (.cells #[.int .u32 0, .slice none 0 0] 50)).heap[w.heap.size + 1]? = some (.cells #[.int .u32 0, .slice none 0 0] 50) := by rw [hsz] at bZ0; exact bZ0
  have bZF : wF.heap[w.heap.size + 1]? = some (.cells #[.int .u32 0, .slice none 0 0] 50) := (hbF.block _ (Array.getElem?_eq_some_iff.1 bZ).1).trans bZ
  have bF : Below w.heap.size (w) wF := (bB.mono (Nat.le_of_eq hsz.symm)).trans ⟨hbF.os, hbF.tape, hbF.output, hbF.size, fun k hk => hbF.block k (Nat.lt_of_lt_of_le hk (Nat.le_trans (Nat.le_of_eq hsz.symm) bB.size))⟩
  refine bodyPost_ret (results_ans2 rfl _ _ (w.heap.size + 1) _ _ (set2_row bZF _ _) rfl) rfl ?_
  refine ⟨_, rfl, rd_nil _ _, ?_⟩
  have hb2 := set2_below bF (R := w.heap.size + 1) (by omega) (.int .u32 (ansR (some (1, [])))) (.slice none 0 0)
  exact Upd.same HS.out hb2

set_option maxHeartbeats 1000000 in
theorem rw_bus (w : World) (g f : Nat) (s : St) (t : Nat) (obj call part arg val : Int) (h : Seg w g f s) (p0 : t < 8) (pR : s.rd.getD t false = false) (p1 : call ≠ 2) (p2 : s.owner ≠ ((t : Nat) : Int)) (p3 : 0 ≤ s.owner) :
    Calls Tryd.prog 20 #[.pointer (some ⟨g, f, none⟩), .agg #[.int .i64 ((t : Nat) : Int), .int .i64 obj, .int .i64 call, .int .i64 part, .int .u32 arg, .int .u32 val]] w (MPost w g f (none) (s)) := by
  have hlt := h.lt
  have c_owner : w.cell? ⟨g, f + 4, none⟩ = some (.int .i64 s.owner) := (h.at 4 (by decide)).1.trans s.cells_at.2.2.2.2
  have z_owner : w.frozen? ⟨g, f + 4, none⟩ = false := (h.at 4 (by decide)).2
  have q0 : (call == 2) = false := by simp; omega
  have q1 : (s.owner == ((t : Nat) : Int)) = false := by simp; omega
  have q2 : decide (0 ≤ s.owner) = true := by exact decide_eq_true (by omega)
  have c_rd : w.cell? ⟨g, f + 5 + t, none⟩ = some (.bool (s.rd.getD t false)) := by
    rw [Nat.add_assoc]
    exact (h.at (5 + t) (by omega)).1.trans (h.1.rdAt t p0)
  have z_rd : w.frozen? ⟨g, f + 5 + t, none⟩ = false := by
    rw [Nat.add_assoc]
    exact (h.at (5 + t) (by omega)).2
  rw [show s.rd.getD t false = false from pR] at c_rd
  have HS := Lib.hid h
  have ht8 : ((t : Nat) : Int) < 8 := by omega
  have ht0 : (0 : Int) ≤ ((t : Nat) : Int) := by omega
  clear pR h p1 p2 p3
  go_enter Tryd.func20, Tryd.ntmps20
  go_wp2_with (first
      | (go_at_call 33; refine (told_any _ _).mono ?_; rintro e wF ⟨rfl, hbF⟩; have hk := keepC hbF (Nat.le_refl _); have hf := keepF hbF (Nat.le_refl _))
      | (go_at_call 34; refine (fine_any _).mono ?_; rintro e wF ⟨rfl, hbF⟩; have hk := keepC hbF (Nat.le_refl _); have hf := keepF hbF (Nat.le_refl _))
      | (go_at_call 13; refine (not_any _).mono ?_; rintro e wF ⟨rfl, hbF⟩; have hk := keepC hbF (Nat.le_refl _); have hf := keepF hbF (Nat.le_refl _)))
  go_quiet (fail)
  go_wp2_with (first
      | (go_at_call 33; refine (told_any _ _).mono ?_; rintro e wF ⟨rfl, hbF⟩; have hk := keepC hbF (Nat.le_refl _); have hf := keepF hbF (Nat.le_refl _))
      | (go_at_call 34; refine (fine_any _).mono ?_; rintro e wF ⟨rfl, hbF⟩; have hk := keepC hbF (Nat.le_refl _); have hf := keepF hbF (Nat.le_refl _))
      | (go_at_call 13; refine (not_any _).mono ?_; rintro e wF ⟨rfl, hbF⟩; have hk := keepC hbF (Nat.le_refl _); have hf := keepF hbF (Nat.le_refl _)))
  have hZ := two_new (w) (.cells #[.int .i64 ((t : Nat) : Int), .int .i64 obj, .int .i64 call, .int .i64 part, .int .u32 arg, .int .u32 val] 32) (.cells #[.int .u32 0, .slice none 0 0] 50)
  have hsz : (w).heap.size = w.heap.size := by simp
  obtain ⟨bZ0, bB⟩ := hZ
  have bZ : (((w).alloc (.cells #[.int .i64 ((t : Nat) : Int), .int .i64 obj, .int .i64 call, .int .i64 part, .int .u32 arg, .int .u32 val] 32)).alloc (.cells #[.int .u32 0, .slice none 0 0] 50)).heap[w.heap.size + 1]? = some (.cells #[.int .u32 0, .slice none 0 0] 50) := by rw [hsz] at bZ0; exact bZ0
  have bZF : wF.heap[w.heap.size + 1]? = some (.cells #[.int .u32 0, .slice none 0 0] 50) := (hbF.block _ (Array.getElem?_eq_some_iff.1 bZ).1).trans bZ
  have bF : Below w.heap.size (w) wF := (bB.mono (Nat.le_of_eq hsz.symm)).trans ⟨hbF.os, hbF.tape, hbF.output, hbF.size, fun k hk => hbF.block k (Nat.lt_of_lt_of_le hk (Nat.le_trans (Nat.le_of_eq hsz.symm) bB.size))⟩
  refine bodyPost_ret (results_ans2 rfl _ _ (w.heap.size + 1) _ _ (set2_row bZF _ _) rfl) rfl ?_
  refine ⟨_, rfl, rd_nil _ _, ?_⟩
  have hb2 := set2_below bF (R := w.heap.size + 1) (by omega) (.int .u32 (ansR (none))) (.slice none 0 0)
  exact Upd.same HS.out hb2

set_option maxHeartbeats 1000000 in
theorem rw_2rd (w : World) (g f : Nat) (s : St) (t : Nat) (obj call part arg val : Int) (h : Seg w g f s) (p0 : t < 8) (pR : s.rd.getD t false = true) (p1 : call = 2) (p2 : s.owner ≠ ((t : Nat) : Int)) :
    Calls Tryd.prog 20 #[.pointer (some ⟨g, f, none⟩), .agg #[.int .i64 ((t : Nat) : Int), .int .i64 obj, .int .i64 call, .int .i64 part, .int .u32 arg, .int .u32 val]] w (MPost w g f (some (0, [])) ({ s with rd := s.rd.set t false })) := by
  have hlt := h.lt
  have c_owner : w.cell? ⟨g, f + 4, none⟩ = some (.int .i64 s.owner) := (h.at 4 (by decide)).1.trans s.cells_at.2.2.2.2
  have z_owner : w.frozen? ⟨g, f + 4, none⟩ = false := (h.at 4 (by decide)).2
  have q0 : (call == 2) = true := by simp; omega
  have q1 : (s.owner == ((t : Nat) : Int)) = false := by simp; omega
  have c_rd : w.cell? ⟨g, f + 5 + t, none⟩ = some (.bool (s.rd.getD t false)) := by
    rw [Nat.add_assoc]
    exact (h.at (5 + t) (by omega)).1.trans (h.1.rdAt t p0)
  have z_rd : w.frozen? ⟨g, f + 5 + t, none⟩ = false := by
    rw [Nat.add_assoc]
    exact (h.at (5 + t) (by omega)).2
  rw [show s.rd.getD t false = true from pR] at c_rd
  have HS := Lib.hid h
  have ht8 : ((t : Nat) : Int) < 8 := by omega
  have ht0 : (0 : Int) ≤ ((t : Nat) : Int) := by omega
  clear pR h p1 p2
  go_enter Tryd.func20, Tryd.ntmps20
  go_wp2_with (first
      | (go_at_call 33; refine (told_any _ _).mono ?_; rintro e wF ⟨rfl, hbF⟩; have hk := keepC hbF (Nat.le_refl _); have hf := keepF hbF (Nat.le_refl _))
      | (go_at_call 34; refine (fine_any _).mono ?_; rintro e wF ⟨rfl, hbF⟩; have hk := keepC hbF (Nat.le_refl _); have hf := keepF hbF (Nat.le_refl _))
      | (go_at_call 13; refine (not_any _).mono ?_; rintro e wF ⟨rfl, hbF⟩; have hk := keepC hbF (Nat.le_refl _); have hf := keepF hbF (Nat.le_refl _)))
  go_quiet (fail)
  go_wp2_with (first
      | (go_at_call 33; refine (told_any _ _).mono ?_; rintro e wF ⟨rfl, hbF⟩; have hk := keepC hbF (Nat.le_refl _); have hf := keepF hbF (Nat.le_refl _))
      | (go_at_call 34; refine (fine_any _).mono ?_; rintro e wF ⟨rfl, hbF⟩; have hk := keepC hbF (Nat.le_refl _); have hf := keepF hbF (Nat.le_refl _))
      | (go_at_call 13; refine (not_any _).mono ?_; rintro e wF ⟨rfl, hbF⟩; have hk := keepC hbF (Nat.le_refl _); have hf := keepF hbF (Nat.le_refl _)))
  go_region_with (fail)
  go_wp2_with (first
      | (go_at_call 33; refine (told_any _ _).mono ?_; rintro e wF ⟨rfl, hbF⟩; have hk := keepC hbF (Nat.le_refl _); have hf := keepF hbF (Nat.le_refl _))
      | (go_at_call 34; refine (fine_any _).mono ?_; rintro e wF ⟨rfl, hbF⟩; have hk := keepC hbF (Nat.le_refl _); have hf := keepF hbF (Nat.le_refl _))
      | (go_at_call 13; refine (not_any _).mono ?_; rintro e wF ⟨rfl, hbF⟩; have hk := keepC hbF (Nat.le_refl _); have hf := keepF hbF (Nat.le_refl _)))
  go_quiet (fail)
  go_wp2_with (first
      | (go_at_call 33; refine (told_any _ _).mono ?_; rintro e wF ⟨rfl, hbF⟩; have hk := keepC hbF (Nat.le_refl _); have hf := keepF hbF (Nat.le_refl _))
      | (go_at_call 34; refine (fine_any _).mono ?_; rintro e wF ⟨rfl, hbF⟩; have hk := keepC hbF (Nat.le_refl _); have hf := keepF hbF (Nat.le_refl _))
      | (go_at_call 13; refine (not_any _).mono ?_; rintro e wF ⟨rfl, hbF⟩; have hk := keepC hbF (Nat.le_refl _); have hf := keepF hbF (Nat.le_refl _)))
  obtain ⟨bZ0, bB0⟩ := two_new w (.cells #[.int .i64 ((t : Nat) : Int), .int .i64 obj, .int .i64 call, .int .i64 part, .int .u32 arg, .int .u32 val] 32) (.cells #[.int .u32 0, .slice none 0 0] 50)
  have bB := Below.both (bB0) ⟨g, f + 5 + t, none⟩ (.bool false)
  have hrow : (((w.alloc (.cells #[.int .i64 ((t : Nat) : Int), .int .i64 obj, .int .i64 call, .int .i64 part, .int .u32 arg, .int .u32 val] 32)).alloc (.cells #[.int .u32 0, .slice none 0 0] 50)).setCell ⟨g, f + 5 + t, none⟩ (.bool false)).heap[w.heap.size + 1]? = some (.cells #[.int .u32 0, .slice none 0 0] 50) := (Below.heap_setCell _ _ _ _ (show w.heap.size + 1 ≠ g by omega)).trans (bZ0)
  have bZF : wF.heap[w.heap.size + 1]? = some (.cells #[.int .u32 0, .slice none 0 0] 50) := (hbF.block _ (by have := (Array.getElem?_eq_some_iff.1 bZ0).1; simp at this ⊢)).trans hrow
  have bF : Below w.heap.size ((w.setCell ⟨g, f + 5 + t, none⟩ (.bool false))) wF := bB.trans ⟨hbF.os, hbF.tape, hbF.output, hbF.size, fun k hk => hbF.block k (Nat.lt_of_lt_of_le hk (by have := bB.size; simp at this ⊢; omega))⟩
  refine bodyPost_ret (results_ans2 rfl _ _ (w.heap.size + 1) _ _ (set2_row bZF _ _) rfl) rfl ?_
  refine ⟨_, rfl, rd_nil _ _, ?_⟩
  have hb2 := set2_below bF (R := w.heap.size + 1) (by omega) (.int .u32 (ansR (some (0, [])))) (.slice none 0 0)
  have hA : f + (5 + t) = f + 5 + t := by omega
  exact Upd.one HS.out (j := 5 + t) (by omega) (cells_rd HS.out.1 t (by omega) false) (by have hw := HS.out.1; exact ⟨by simpa using hw.l1, hw.l2, hw.l3, hw.l4, hw.l5⟩) (by rw [hA]; exact hb2)

set_option maxHeartbeats 1000000 in
theorem rw_3fre (w : World) (g f : Nat) (s : St) (t : Nat) (obj call part arg val : Int) (h : Seg w g f s) (p0 : t < 8) (pR : s.rd.getD t false = false) (p1 : call ≠ 2) (p2 : call ≠ 1) (p3 : s.owner ≠ ((t : Nat) : Int)) (p4 : s.owner < 0) :
    Calls Tryd.prog 20 #[.pointer (some ⟨g, f, none⟩), .agg #[.int .i64 ((t : Nat) : Int), .int .i64 obj, .int .i64 call, .int .i64 part, .int .u32 arg, .int .u32 val]] w (MPost w g f (some (0, [])) ({ s with rd := s.rd.set t true })) := by
  have hlt := h.lt
  have c_owner : w.cell? ⟨g, f + 4, none⟩ = some (.int .i64 s.owner) := (h.at 4 (by decide)).1.trans s.cells_at.2.2.2.2
  have z_owner : w.frozen? ⟨g, f + 4, none⟩ = false := (h.at 4 (by decide)).2
  have q0 : (call == 2) = false := by simp; omega
  have q1 : (call == 1) = false := by simp; omega
  have q2 : (s.owner == ((t : Nat) : Int)) = false := by simp; omega
  have q3 : decide (0 ≤ s.owner) = false := by exact decide_eq_false (by omega)
  have c_rd : w.cell? ⟨g, f + 5 + t, none⟩ = some (.bool (s.rd.getD t false)) := by
    rw [Nat.add_assoc]
    exact (h.at (5 + t) (by omega)).1.trans (h.1.rdAt t p0)
  have z_rd : w.frozen? ⟨g, f + 5 + t, none⟩ = false := by
    rw [Nat.add_assoc]
    exact (h.at (5 + t) (by omega)).2
  rw [show s.rd.getD t false = false from pR] at c_rd
  have HS := Lib.hid h
  have ht8 : ((t : Nat) : Int) < 8 := by omega
  have ht0 : (0 : Int) ≤ ((t : Nat) : Int) := by omega
  clear pR h p1 p2 p3 p4
  go_enter Tryd.func20, Tryd.ntmps20
  go_wp2_with (first
      | (go_at_call 33; refine (told_any _ _).mono ?_; rintro e wF ⟨rfl, hbF⟩; have hk := keepC hbF (Nat.le_refl _); have hf := keepF hbF (Nat.le_refl _))
      | (go_at_call 34; refine (fine_any _).mono ?_; rintro e wF ⟨rfl, hbF⟩; have hk := keepC hbF (Nat.le_refl _); have hf := keepF hbF (Nat.le_refl _))
      | (go_at_call 13; refine (not_any _).mono ?_; rintro e wF ⟨rfl, hbF⟩; have hk := keepC hbF (Nat.le_refl _); have hf := keepF hbF (Nat.le_refl _)))
  go_quiet (fail)
  go_wp2_with (first
      | (go_at_call 33; refine (told_any _ _).mono ?_; rintro e wF ⟨rfl, hbF⟩; have hk := keepC hbF (Nat.le_refl _); have hf := keepF hbF (Nat.le_refl _))
      | (go_at_call 34; refine (fine_any _).mono ?_; rintro e wF ⟨rfl, hbF⟩; have hk := keepC hbF (Nat.le_refl _); have hf := keepF hbF (Nat.le_refl _))
      | (go_at_call 13; refine (not_any _).mono ?_; rintro e wF ⟨rfl, hbF⟩; have hk := keepC hbF (Nat.le_refl _); have hf := keepF hbF (Nat.le_refl _)))
  go_region_with (fail)
  go_wp2_with (first
      | (go_at_call 33; refine (told_any _ _).mono ?_; rintro e wF ⟨rfl, hbF⟩; have hk := keepC hbF (Nat.le_refl _); have hf := keepF hbF (Nat.le_refl _))
      | (go_at_call 34; refine (fine_any _).mono ?_; rintro e wF ⟨rfl, hbF⟩; have hk := keepC hbF (Nat.le_refl _); have hf := keepF hbF (Nat.le_refl _))
      | (go_at_call 13; refine (not_any _).mono ?_; rintro e wF ⟨rfl, hbF⟩; have hk := keepC hbF (Nat.le_refl _); have hf := keepF hbF (Nat.le_refl _)))
  obtain ⟨bZ0, bB0⟩ := two_new w (.cells #[.int .i64 ((t : Nat) : Int), .int .i64 obj, .int .i64 call, .int .i64 part, .int .u32 arg, .int .u32 val] 32) (.cells #[.int .u32 0, .slice none 0 0] 50)
  have bB := Below.both (bB0) ⟨g, f + 5 + t, none⟩ (.bool true)
  have hrow : (((w.alloc (.cells #[.int .i64 ((t : Nat) : Int), .int .i64 obj, .int .i64 call, .int .i64 part, .int .u32 arg, .int .u32 val] 32)).alloc (.cells #[.int .u32 0, .slice none 0 0] 50)).setCell ⟨g, f + 5 + t, none⟩ (.bool true)).heap[w.heap.size + 1]? = some (.cells #[.int .u32 0, .slice none 0 0] 50) := (Below.heap_setCell _ _ _ _ (show w.heap.size + 1 ≠ g by omega)).trans (bZ0)
  have bZF : wF.heap[w.heap.size + 1]? = some (.cells #[.int .u32 0, .slice none 0 0] 50) := (hbF.block _ (by have := (Array.getElem?_eq_some_iff.1 bZ0).1; simp at this ⊢)).trans hrow
  have bF : Below w.heap.size ((w.setCell ⟨g, f + 5 + t, none⟩ (.bool true))) wF := bB.trans ⟨hbF.os, hbF.tape, hbF.output, hbF.size, fun k hk => hbF.block k (Nat.lt_of_lt_of_le hk (by have := bB.size; simp at this ⊢; omega))⟩
  refine bodyPost_ret (results_ans2 rfl _ _ (w.heap.size + 1) _ _ (set2_row bZF _ _) rfl) rfl ?_
  refine ⟨_, rfl, rd_nil _ _, ?_⟩
  have hb2 := set2_below bF (R := w.heap.size + 1) (by omega) (.int .u32 (ansR (some (0, [])))) (.slice none 0 0)
  have hA : f + (5 + t) = f + 5 + t := by omega
  exact Upd.one HS.out (j := 5 + t) (by omega) (cells_rd HS.out.1 t (by omega) true) (by have hw := HS.out.1; exact ⟨by simpa using hw.l1, hw.l2, hw.l3, hw.l4, hw.l5⟩) (by rw [hA]; exact hb2)

set_option maxHeartbeats 1000000 in
theorem rw_2own (w : World) (g f : Nat) (s : St) (t : Nat) (obj call part arg val : Int) (h : Seg w g f s) (p0 : t < 8) (p1 : call = 2) (p2 : s.owner = ((t : Nat) : Int)) :
    Calls Tryd.prog 20 #[.pointer (some ⟨g, f, none⟩), .agg #[.int .i64 ((t : Nat) : Int), .int .i64 obj, .int .i64 call, .int .i64 part, .int .u32 arg, .int .u32 val]] w (MPost w g f (some (0, [])) ({ s with rd := s.rd.set t false, owner := -1 })) := by
  have hlt := h.lt
  have c_owner : w.cell? ⟨g, f + 4, none⟩ = some (.int .i64 s.owner) := (h.at 4 (by decide)).1.trans s.cells_at.2.2.2.2
  have z_owner : w.frozen? ⟨g, f + 4, none⟩ = false := (h.at 4 (by decide)).2
  have q0 : (call == 2) = true := by simp; omega
  have q1 : (s.owner == ((t : Nat) : Int)) = true := by simp; omega
  have c_rd : w.cell? ⟨g, f + 5 + t, none⟩ = some (.bool (s.rd.getD t false)) := by
    rw [Nat.add_assoc]
    exact (h.at (5 + t) (by omega)).1.trans (h.1.rdAt t p0)
  have z_rd : w.frozen? ⟨g, f + 5 + t, none⟩ = false := by
    rw [Nat.add_assoc]
    exact (h.at (5 + t) (by omega)).2
  have HS := Lib.hid h
  have ht8 : ((t : Nat) : Int) < 8 := by omega
  have ht0 : (0 : Int) ≤ ((t : Nat) : Int) := by omega
  clear h p1 p2
  go_enter Tryd.func20, Tryd.ntmps20
  go_wp2_with (first
      | (go_at_call 33; refine (told_any _ _).mono ?_; rintro e wF ⟨rfl, hbF⟩; have hk := keepC hbF (Nat.le_refl _); have hf := keepF hbF (Nat.le_refl _))
      | (go_at_call 34; refine (fine_any _).mono ?_; rintro e wF ⟨rfl, hbF⟩; have hk := keepC hbF (Nat.le_refl _); have hf := keepF hbF (Nat.le_refl _))
      | (go_at_call 13; refine (not_any _).mono ?_; rintro e wF ⟨rfl, hbF⟩; have hk := keepC hbF (Nat.le_refl _); have hf := keepF hbF (Nat.le_refl _)))
  go_quiet (fail)
  go_wp2_with (first
      | (go_at_call 33; refine (told_any _ _).mono ?_; rintro e wF ⟨rfl, hbF⟩; have hk := keepC hbF (Nat.le_refl _); have hf := keepF hbF (Nat.le_refl _))
      | (go_at_call 34; refine (fine_any _).mono ?_; rintro e wF ⟨rfl, hbF⟩; have hk := keepC hbF (Nat.le_refl _); have hf := keepF hbF (Nat.le_refl _))
      | (go_at_call 13; refine (not_any _).mono ?_; rintro e wF ⟨rfl, hbF⟩; have hk := keepC hbF (Nat.le_refl _); have hf := keepF hbF (Nat.le_refl _)))
  go_region_with (fail)
  go_wp2_with (first
      | (go_at_call 33; refine (told_any _ _).mono ?_; rintro e wF ⟨rfl, hbF⟩; have hk := keepC hbF (Nat.le_refl _); have hf := keepF hbF (Nat.le_refl _))
      | (go_at_call 34; refine (fine_any _).mono ?_; rintro e wF ⟨rfl, hbF⟩; have hk := keepC hbF (Nat.le_refl _); have hf := keepF hbF (Nat.le_refl _))
      | (go_at_call 13; refine (not_any _).mono ?_; rintro e wF ⟨rfl, hbF⟩; have hk := keepC hbF (Nat.le_refl _); have hf := keepF hbF (Nat.le_refl _)))
  go_quiet (fail)
  go_wp2_with (first
      | (go_at_call 33; refine (told_any _ _).mono ?_; rintro e wF ⟨rfl, hbF⟩; have hk := keepC hbF (Nat.le_refl _); have hf := keepF hbF (Nat.le_refl _))
      | (go_at_call 34; refine (fine_any _).mono ?_; rintro e wF ⟨rfl, hbF⟩; have hk := keepC hbF (Nat.le_refl _); have hf := keepF hbF (Nat.le_refl _))
      | (go_at_call 13; refine (not_any _).mono ?_; rintro e wF ⟨rfl, hbF⟩; have hk := keepC hbF (Nat.le_refl _); have hf := keepF hbF (Nat.le_refl _)))
  obtain ⟨bZ0, bB0⟩ := two_new w (.cells #[.int .i64 ((t : Nat) : Int), .int .i64 obj, .int .i64 call, .int .i64 part, .int .u32 arg, .int .u32 val] 32) (.cells #[.int .u32 0, .slice none 0 0] 50)
  have bB := Below.both (Below.both (bB0) ⟨g, f + 5 + t, none⟩ (.bool false)) ⟨g, f + 4, none⟩ (.int .i64 (-1))
  have hrow : ((((w.alloc (.cells #[.int .i64 ((t : Nat) : Int), .int .i64 obj, .int .i64 call, .int .i64 part, .int .u32 arg, .int .u32 val] 32)).alloc (.cells #[.int .u32 0, .slice none 0 0] 50)).setCell ⟨g, f + 5 + t, none⟩ (.bool false)).setCell ⟨g, f + 4, none⟩ (.int .i64 (-1))).heap[w.heap.size + 1]? = some (.cells #[.int .u32 0, .slice none 0 0] 50) := (Below.heap_setCell _ _ _ _ (show w.heap.size + 1 ≠ g by omega)).trans ((Below.heap_setCell _ _ _ _ (show w.heap.size + 1 ≠ g by omega)).trans (bZ0))
  have bZF : wF.heap[w.heap.size + 1]? = some (.cells #[.int .u32 0, .slice none 0 0] 50) := (hbF.block _ (by have := (Array.getElem?_eq_some_iff.1 bZ0).1; simp at this ⊢)).trans hrow
  have bF : Below w.heap.size (((w.setCell ⟨g, f + 5 + t, none⟩ (.bool false)).setCell ⟨g, f + 4, none⟩ (.int .i64 (-1)))) wF := bB.trans ⟨hbF.os, hbF.tape, hbF.output, hbF.size, fun k hk => hbF.block k (Nat.lt_of_lt_of_le hk (by have := bB.size; simp at this ⊢; omega))⟩
  refine bodyPost_ret (results_ans2 rfl _ _ (w.heap.size + 1) _ _ (set2_row bZF _ _) rfl) rfl ?_
  refine ⟨_, rfl, rd_nil _ _, ?_⟩
  have hb2 := set2_below bF (R := w.heap.size + 1) (by omega) (.int .u32 (ansR (some (0, [])))) (.slice none 0 0)
  have hA : f + (5 + t) = f + 5 + t := by omega
  have hU1 : Upd w g f { s with rd := s.rd.set t false } (w.setCell ⟨g, f + 5 + t, none⟩ (.bool false)) := Upd.one HS.out (j := 5 + t) (by omega) (cells_rd HS.out.1 t (by omega) false) (by have hw := HS.out.1; exact ⟨by simpa using hw.l1, hw.l2, hw.l3, hw.l4, hw.l5⟩) (by rw [hA]; exact Below.refl _ _)
  exact hU1.trans (Upd.one hU1.seg (j := 4) (by decide) (cells_owner { s with rd := s.rd.set t false } (-1)) (by have hw := hU1.seg.1; exact ⟨hw.l1, hw.l2, hw.l3, hw.l4, hw.l5⟩) (hb2.mono (Nat.le_of_eq (by simp))))

set_option maxHeartbeats 1000000 in
theorem rw_1fre (w : World) (g f : Nat) (s : St) (t : Nat) (obj call part arg val : Int) (h : Seg w g f s) (p0 : t < 8) (pR : s.rd.getD t false = false) (pE : s.rd = List.replicate 8 false) (p1 : call ≠ 2) (p2 : call = 1) (p3 : s.owner ≠ ((t : Nat) : Int)) (p4 : s.owner < 0) :
    Calls Tryd.prog 20 #[.pointer (some ⟨g, f, none⟩), .agg #[.int .i64 ((t : Nat) : Int), .int .i64 obj, .int .i64 call, .int .i64 part, .int .u32 arg, .int .u32 val]] w (MPost w g f (some (0, [])) ({ s with owner := ((t : Nat) : Int) })) := by
  have hlt := h.lt
  have c_owner : w.cell? ⟨g, f + 4, none⟩ = some (.int .i64 s.owner) := (h.at 4 (by decide)).1.trans s.cells_at.2.2.2.2
  have z_owner : w.frozen? ⟨g, f + 4, none⟩ = false := (h.at 4 (by decide)).2
  have q0 : (call == 2) = false := by simp; omega
  have q1 : (call == 1) = true := by simp; omega
  have q2 : (s.owner == ((t : Nat) : Int)) = false := by simp; omega
  have q3 : decide (0 ≤ s.owner) = false := by exact decide_eq_false (by omega)
  have c_rd : w.cell? ⟨g, f + 5 + t, none⟩ = some (.bool (s.rd.getD t false)) := by
    rw [Nat.add_assoc]
    exact (h.at (5 + t) (by omega)).1.trans (h.1.rdAt t p0)
  have z_rd : w.frozen? ⟨g, f + 5 + t, none⟩ = false := by
    rw [Nat.add_assoc]
    exact (h.at (5 + t) (by omega)).2
  rw [show s.rd.getD t false = false from pR] at c_rd
  have b0 : w.cell? ⟨g, f + 5, none⟩ = some (.bool (s.rd.getD 0 false)) := (h.at 5 (by decide)).1.trans (h.1.rdAt 0 (by decide))
  have b1 : w.cell? ⟨g, f + 5 + 1, none⟩ = some (.bool (s.rd.getD 1 false)) := (h.at 6 (by decide)).1.trans (h.1.rdAt 1 (by decide))
  have b2 : w.cell? ⟨g, f + 5 + 2, none⟩ = some (.bool (s.rd.getD 2 false)) := (h.at 7 (by decide)).1.trans (h.1.rdAt 2 (by decide))
  have b3 : w.cell? ⟨g, f + 5 + 3, none⟩ = some (.bool (s.rd.getD 3 false)) := (h.at 8 (by decide)).1.trans (h.1.rdAt 3 (by decide))
  have b4 : w.cell? ⟨g, f + 5 + 4, none⟩ = some (.bool (s.rd.getD 4 false)) := (h.at 9 (by decide)).1.trans (h.1.rdAt 4 (by decide))
  have b5 : w.cell? ⟨g, f + 5 + 5, none⟩ = some (.bool (s.rd.getD 5 false)) := (h.at 10 (by decide)).1.trans (h.1.rdAt 5 (by decide))
  have b6 : w.cell? ⟨g, f + 5 + 6, none⟩ = some (.bool (s.rd.getD 6 false)) := (h.at 11 (by decide)).1.trans (h.1.rdAt 6 (by decide))
  have b7 : w.cell? ⟨g, f + 5 + 7, none⟩ = some (.bool (s.rd.getD 7 false)) := (h.at 12 (by decide)).1.trans (h.1.rdAt 7 (by decide))
  have hEq : ∀ w', (Op.equalIn 10000 58 (.agg #[.bool (s.rd.getD 0 false), .bool (s.rd.getD 1 false), .bool (s.rd.getD 2 false), .bool (s.rd.getD 3 false), .bool (s.rd.getD 4 false), .bool (s.rd.getD 5 false), .bool (s.rd.getD 6 false), .bool (s.rd.getD 7 false)]) (.agg #[.bool false, .bool false, .bool false, .bool false, .bool false, .bool false, .bool false, .bool false])).run Tryd.prog w' = .ok true w' := by
    intro w'
    refine (run_eq8 w' _ _ _ _ _ _ _ _).trans ?_
    obtain ⟨r0, r1, r2, r3, r4, r5, r6, r7, _, _, _, _, _, _, _, _, _, _, _, _, _, _, _, _, _, _, _, _, _, _, h1, _⟩ := h.1.lists
    rw [h1] at pE ⊢
    simp only [List.getD_cons_zero, List.getD_cons_succ]
    congr 1
    exact decide_eq_true pE
  generalize s.rd.getD 0 false = r0 at b0 hEq
  generalize s.rd.getD 1 false = r1 at b1 hEq
  generalize s.rd.getD 2 false = r2 at b2 hEq
  generalize s.rd.getD 3 false = r3 at b3 hEq
  generalize s.rd.getD 4 false = r4 at b4 hEq
  generalize s.rd.getD 5 false = r5 at b5 hEq
  generalize s.rd.getD 6 false = r6 at b6 hEq
  generalize s.rd.getD 7 false = r7 at b7 hEq
  have HS := Lib.hid h
  have ht8 : ((t : Nat) : Int) < 8 := by omega
  have ht0 : (0 : Int) ≤ ((t : Nat) : Int) := by omega
  clear pR pE h p1 p2 p3 p4
  go_enter Tryd.func20, Tryd.ntmps20
  go_wp2_with (first
      | (go_at_call 33; refine (told_any _ _).mono ?_; rintro e wF ⟨rfl, hbF⟩; have hk := keepC hbF (Nat.le_refl _); have hf := keepF hbF (Nat.le_refl _))
      | (go_at_call 34; refine (fine_any _).mono ?_; rintro e wF ⟨rfl, hbF⟩; have hk := keepC hbF (Nat.le_refl _); have hf := keepF hbF (Nat.le_refl _))
      | (go_at_call 13; refine (not_any _).mono ?_; rintro e wF ⟨rfl, hbF⟩; have hk := keepC hbF (Nat.le_refl _); have hf := keepF hbF (Nat.le_refl _)))
  go_quiet (fail)
  go_wp2_with (first
      | (go_at_call 33; refine (told_any _ _).mono ?_; rintro e wF ⟨rfl, hbF⟩; have hk := keepC hbF (Nat.le_refl _); have hf := keepF hbF (Nat.le_refl _))
      | (go_at_call 34; refine (fine_any _).mono ?_; rintro e wF ⟨rfl, hbF⟩; have hk := keepC hbF (Nat.le_refl _); have hf := keepF hbF (Nat.le_refl _))
      | (go_at_call 13; refine (not_any _).mono ?_; rintro e wF ⟨rfl, hbF⟩; have hk := keepC hbF (Nat.le_refl _); have hf := keepF hbF (Nat.le_refl _)))
  obtain ⟨bZ0, bB0⟩ := two_new w (.cells #[.int .i64 ((t : Nat) : Int), .int .i64 obj, .int .i64 call, .int .i64 part, .int .u32 arg, .int .u32 val] 32) (.cells #[.int .u32 0, .slice none 0 0] 50)
  have bB := Below.both (bB0) ⟨g, f + 4, none⟩ (.int .i64 ((t : Nat) : Int))
  have hrow : (((w.alloc (.cells #[.int .i64 ((t : Nat) : Int), .int .i64 obj, .int .i64 call, .int .i64 part, .int .u32 arg, .int .u32 val] 32)).alloc (.cells #[.int .u32 0, .slice none 0 0] 50)).setCell ⟨g, f + 4, none⟩ (.int .i64 ((t : Nat) : Int))).heap[w.heap.size + 1]? = some (.cells #[.int .u32 0, .slice none 0 0] 50) := (Below.heap_setCell _ _ _ _ (show w.heap.size + 1 ≠ g by omega)).trans (bZ0)
  have bZF : wF.heap[w.heap.size + 1]? = some (.cells #[.int .u32 0, .slice none 0 0] 50) := (hbF.block _ (by have := (Array.getElem?_eq_some_iff.1 bZ0).1; simp at this ⊢)).trans hrow
  have bF : Below w.heap.size ((w.setCell ⟨g, f + 4, none⟩ (.int .i64 ((t : Nat) : Int)))) wF := bB.trans ⟨hbF.os, hbF.tape, hbF.output, hbF.size, fun k hk => hbF.block k (Nat.lt_of_lt_of_le hk (by have := bB.size; simp at this ⊢; omega))⟩
  refine bodyPost_ret (results_ans2 rfl _ _ (w.heap.size + 1) _ _ (set2_row bZF _ _) rfl) rfl ?_
  refine ⟨_, rfl, rd_nil _ _, ?_⟩
  have hb2 := set2_below bF (R := w.heap.size + 1) (by omega) (.int .u32 (ansR (some (0, [])))) (.slice none 0 0)
  exact Upd.one HS.out (j := 4) (by decide) (cells_owner s _) (by have hw := HS.out.1; exact ⟨hw.l1, hw.l2, hw.l3, hw.l4, hw.l5⟩) hb2

set_option maxHeartbeats 1000000 in
theorem rw_1rds (w : World) (g f : Nat) (s : St) (t : Nat) (obj call part arg val : Int) (h : Seg w g f s) (p0 : t < 8) (pR : s.rd.getD t false = false) (pE : s.rd ≠ List.replicate 8 false) (p1 : call ≠ 2) (p2 : call = 1) (p3 : s.owner ≠ ((t : Nat) : Int)) (p4 : s.owner < 0) :
    Calls Tryd.prog 20 #[.pointer (some ⟨g, f, none⟩), .agg #[.int .i64 ((t : Nat) : Int), .int .i64 obj, .int .i64 call, .int .i64 part, .int .u32 arg, .int .u32 val]] w (MPost w g f (none) (s)) := by
  have hlt := h.lt
  have c_owner : w.cell? ⟨g, f + 4, none⟩ = some (.int .i64 s.owner) := (h.at 4 (by decide)).1.trans s.cells_at.2.2.2.2
  have z_owner : w.frozen? ⟨g, f + 4, none⟩ = false := (h.at 4 (by decide)).2
  have q0 : (call == 2) = false := by simp; omega
  have q1 : (call == 1) = true := by simp; omega
  have q2 : (s.owner == ((t : Nat) : Int)) = false := by simp; omega
  have q3 : decide (0 ≤ s.owner) = false := by exact decide_eq_false (by omega)
  have c_rd : w.cell? ⟨g, f + 5 + t, none⟩ = some (.bool (s.rd.getD t false)) := by
    rw [Nat.add_assoc]
    exact (h.at (5 + t) (by omega)).1.trans (h.1.rdAt t p0)
  have z_rd : w.frozen? ⟨g, f + 5 + t, none⟩ = false := by
    rw [Nat.add_assoc]
    exact (h.at (5 + t) (by omega)).2
  rw [show s.rd.getD t false = false from pR] at c_rd
  have b0 : w.cell? ⟨g, f + 5, none⟩ = some (.bool (s.rd.getD 0 false)) := (h.at 5 (by decide)).1.trans (h.1.rdAt 0 (by decide))
  have b1 : w.cell? ⟨g, f + 5 + 1, none⟩ = some (.bool (s.rd.getD 1 false)) := (h.at 6 (by decide)).1.trans (h.1.rdAt 1 (by decide))
  have b2 : w.cell? ⟨g, f + 5 + 2, none⟩ = some (.bool (s.rd.getD 2 false)) := (h.at 7 (by decide)).1.trans (h.1.rdAt 2 (by decide))
  have b3 : w.cell? ⟨g, f + 5 + 3, none⟩ = some (.bool (s.rd.getD 3 false)) := (h.at 8 (by decide)).1.trans (h.1.rdAt 3 (by decide))
  have b4 : w.cell? ⟨g, f + 5 + 4, none⟩ = some (.bool (s.rd.getD 4 false)) := (h.at 9 (by decide)).1.trans (h.1.rdAt 4 (by decide))
  have b5 : w.cell? ⟨g, f + 5 + 5, none⟩ = some (.bool (s.rd.getD 5 false)) := (h.at 10 (by decide)).1.trans (h.1.rdAt 5 (by decide))
  have b6 : w.cell? ⟨g, f + 5 + 6, none⟩ = some (.bool (s.rd.getD 6 false)) := (h.at 11 (by decide)).1.trans (h.1.rdAt 6 (by decide))
  have b7 : w.cell? ⟨g, f + 5 + 7, none⟩ = some (.bool (s.rd.getD 7 false)) := (h.at 12 (by decide)).1.trans (h.1.rdAt 7 (by decide))
  have hEq : ∀ w', (Op.equalIn 10000 58 (.agg #[.bool (s.rd.getD 0 false), .bool (s.rd.getD 1 false), .bool (s.rd.getD 2 false), .bool (s.rd.getD 3 false), .bool (s.rd.getD 4 false), .bool (s.rd.getD 5 false), .bool (s.rd.getD 6 false), .bool (s.rd.getD 7 false)]) (.agg #[.bool false, .bool false, .bool false, .bool false, .bool false, .bool false, .bool false, .bool false])).run Tryd.prog w' = .ok false w' := by
    intro w'
    refine (run_eq8 w' _ _ _ _ _ _ _ _).trans ?_
    obtain ⟨r0, r1, r2, r3, r4, r5, r6, r7, _, _, _, _, _, _, _, _, _, _, _, _, _, _, _, _, _, _, _, _, _, _, h1, _⟩ := h.1.lists
    rw [h1] at pE ⊢
    simp only [List.getD_cons_zero, List.getD_cons_succ]
    congr 1
    exact decide_eq_false pE
  generalize s.rd.getD 0 false = r0 at b0 hEq
  generalize s.rd.getD 1 false = r1 at b1 hEq
  generalize s.rd.getD 2 false = r2 at b2 hEq
  generalize s.rd.getD 3 false = r3 at b3 hEq
  generalize s.rd.getD 4 false = r4 at b4 hEq
  generalize s.rd.getD 5 false = r5 at b5 hEq
  generalize s.rd.getD 6 false = r6 at b6 hEq
  generalize s.rd.getD 7 false = r7 at b7 hEq
  have HS := Lib.hid h
  have ht8 : ((t : Nat) : Int) < 8 := by omega
  have ht0 : (0 : Int) ≤ ((t : Nat) : Int) := by omega
  clear pR pE h p1 p2 p3 p4
  go_enter Tryd.func20, Tryd.ntmps20
  go_wp2_with (first
      | (go_at_call 33; refine (told_any _ _).mono ?_; rintro e wF ⟨rfl, hbF⟩; have hk := keepC hbF (Nat.le_refl _); have hf := keepF hbF (Nat.le_refl _))
      | (go_at_call 34; refine (fine_any _).mono ?_; rintro e wF ⟨rfl, hbF⟩; have hk := keepC hbF (Nat.le_refl _); have hf := keepF hbF (Nat.le_refl _))
      | (go_at_call 13; refine (not_any _).mono ?_; rintro e wF ⟨rfl, hbF⟩; have hk := keepC hbF (Nat.le_refl _); have hf := keepF hbF (Nat.le_refl _)))
  go_quiet (fail)
  go_wp2_with (first
      | (go_at_call 33; refine (told_any _ _).mono ?_; rintro e wF ⟨rfl, hbF⟩; have hk := keepC hbF (Nat.le_refl _); have hf := keepF hbF (Nat.le_refl _))
      | (go_at_call 34; refine (fine_any _).mono ?_; rintro e wF ⟨rfl, hbF⟩; have hk := keepC hbF (Nat.le_refl _); have hf := keepF hbF (Nat.le_refl _))
      | (go_at_call 13; refine (not_any _).mono ?_; rintro e wF ⟨rfl, hbF⟩; have hk := keepC hbF (Nat.le_refl _); have hf := keepF hbF (Nat.le_refl _)))
  have hZ := two_new (w) (.cells #[.int .i64 ((t : Nat) : Int), .int .i64 obj, .int .i64 call, .int .i64 part, .int .u32 arg, .int .u32 val] 32) (.cells #[.int .u32 0, .slice none 0 0] 50)
  have hsz : (w).heap.size = w.heap.size := by simp
  obtain ⟨bZ0, bB⟩ := hZ
  have bZ : (((w).alloc (.cells #[.int .i64 ((t : Nat) : Int), .int .i64 obj, .int .i64 call, .int .i64 part, .int .u32 arg, .int .u32 val] 32)).alloc (.cells #[.int .u32 0, .slice none 0 0] 50)).heap[w.heap.size + 1]? = some (.cells #[.int .u32 0, .slice none 0 0] 50) := by rw [hsz] at bZ0; exact bZ0
  have bZF : wF.heap[w.heap.size + 1]? = some (.cells #[.int .u32 0, .slice none 0 0] 50) := (hbF.block _ (Array.getElem?_eq_some_iff.1 bZ).1).trans bZ
  have bF : Below w.heap.size (w) wF := (bB.mono (Nat.le_of_eq hsz.symm)).trans ⟨hbF.os, hbF.tape, hbF.output, hbF.size, fun k hk => hbF.block k (Nat.lt_of_lt_of_le hk (Nat.le_trans (Nat.le_of_eq hsz.symm) bB.size))⟩
  refine bodyPost_ret (results_ans2 rfl _ _ (w.heap.size + 1) _ _ (set2_row bZF _ _) rfl) rfl ?_
  refine ⟨_, rfl, rd_nil _ _, ?_⟩
  have hb2 := set2_below bF (R := w.heap.size + 1) (by omega) (.int .u32 (ansR (none))) (.slice none 0 0)
  exact Upd.same HS.out hb2

theorem rwM_any (w : World) (g f : Nat) (s : St) (x : Ask) (t : Nat) (hx : x.who = (t : Int)) (ht : t < 8) (h : Seg w g f s) :
    Calls Tryd.prog 20 #[.pointer (some ⟨g, f, none⟩), .agg #[.int .i64 x.who, .int .i64 x.obj, .int .i64 x.call, .int .i64 x.part, .int .u32 x.arg, .int .u32 x.val]] w (MPost w g f (doRw s x).1 (doRw s x).2) := by
  obtain ⟨who, obj, call, part, arg, val⟩ := x
  dsimp only at hx
  subst hx
  unfold doRw
  dsimp only
  simp only [Int.toNat_natCast]
  by_cases c2 : call = 2
  · rw [if_pos c2]
    by_cases ho : s.owner = (t : Int)
    · rw [if_pos (show s.mine ⟨((t : Nat) : Int), obj, call, part, arg, val⟩ from Or.inl ho), if_pos ho]
      exact rw_2own w g f s t obj call part arg val h ht c2 ho
    · by_cases hr : s.rd.getD t false = true
      · rw [if_pos (show s.mine ⟨((t : Nat) : Int), obj, call, part, arg, val⟩ from Or.inr hr), if_neg ho]
        exact rw_2rd w g f s t obj call part arg val h ht hr c2 ho
      · rw [if_neg (show ¬ s.mine ⟨((t : Nat) : Int), obj, call, part, arg, val⟩ from fun e => e.elim ho hr)]
        exact rw_2not w g f s t obj call part arg val h ht (Bool.eq_false_iff.2 hr) c2 ho
  · rw [if_neg c2]
    by_cases ho : s.owner = (t : Int)
    · rw [if_pos (show s.mine ⟨((t : Nat) : Int), obj, call, part, arg, val⟩ from Or.inl ho)]
      exact rw_1own w g f s t obj call part arg val h ht c2 ho
    · by_cases hr : s.rd.getD t false = true
      · rw [if_pos (show s.mine ⟨((t : Nat) : Int), obj, call, part, arg, val⟩ from Or.inr hr)]
        exact rw_1rd w g f s t obj call part arg val h ht hr c2 ho
      · rw [if_neg (show ¬ s.mine ⟨((t : Nat) : Int), obj, call, part, arg, val⟩ from fun e => e.elim ho hr)]
        have hr' := Bool.eq_false_iff.2 hr
        by_cases h0 : 0 ≤ s.owner
        · rw [if_pos (Or.inl h0)]
          exact rw_bus w g f s t obj call part arg val h ht hr' c2 ho h0
        · have h0' : s.owner < 0 := by omega
          by_cases c1 : call = 1
          · by_cases hE : s.rd = List.replicate 8 false
            · rw [if_neg (fun e => e.elim h0 (fun q => q.2 hE)), if_pos c1]
              exact rw_1fre w g f s t obj call part arg val h ht hr' hE c2 c1 ho h0'
            · rw [if_pos (Or.inr ⟨c1, hE⟩)]
              exact rw_1rds w g f s t obj call part arg val h ht hr' hE c2 c1 ho h0'
          · rw [if_neg (fun e => e.elim h0 (fun q => c1 q.1)), if_neg c1]
            exact rw_3fre w g f s t obj call part arg val h ht hr' c2 c1 ho h0'

end Go.Proofs.YtfemeiopfpblaaaDoor.As
