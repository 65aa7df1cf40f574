/- The walks of the package abs: what an object's calls do, put together; a lock of two. -/
import Derived.Test.YtfemeiopfpblaaaDoorHjM3
import Derived.Test.YtfemeiopfpblaaaDoorHjR9
set_option linter.unusedVariables false
set_option linter.unusedSimpArgs false
set_option maxRecDepth 20000
namespace Go.Proofs.YtfemeiopfpblaaaDoor.As
open Go.RowKit

/-- What a call leaves, and that what was read lies in a block of its own. -/
def MPF (w : World) (g f : Nat) (a : Ans) (s' : St) (e : Ending) (w' : World) : Prop :=
  ∃ dv, e = .returned (.tuple #[.agg #[.int .u32 (ansR a), dv], .bool a.isSome]) ∧ Rd w' 1 dv (ansD a).length (ints32 (ansD a)) ∧ (ansD a = [] ∨ ∀ b off n cap, dv = .slice (some ⟨b, off, none⟩) n cap → w.heap.size ≤ b) ∧ Upd w g f s' w'
theorem MPost.fresh {w : World} {g f : Nat} {a : Ans} {s' : St} {e : Ending} {w' : World} (h : MPost w g f a s' e w') (ha : ansD a = []) : MPF w g f a s' e w' := by
  obtain ⟨dv, h1, h2, h3⟩ := h
  exact ⟨dv, h1, h2, .inl ha, h3⟩
theorem Upd.wrap {w w0 w1 w2 : World} {g f : Nat} {s' : St} (hg : g < w.heap.size) (hb : Below w.heap.size w w0) (h : Upd w0 g f s' w1) (hb2 : Below w.heap.size w1 w2) : Upd w g f s' w2 := by
  obtain ⟨o, hw, a, b, ha, hc, hsz, hs, hr⟩ := h
  have hz := hb.size
  exact ⟨⟨hb2.os.trans (o.os.trans hb.os), hb2.tape.trans (o.tape.trans hb.tape), hb2.output.trans (o.output.trans hb.output), Nat.le_trans hb.size (Nat.le_trans o.size hb2.size), fun k hk hn => (hb2.block k hk).trans ((o.block k (by omega) hn).trans (hb.block k hk))⟩, hw, a, b, (hb.block g hg).symm.trans ha, (hb2.block g hg).trans hc, hsz, hs, hr⟩

theorem lock_any (w : World) (g f : Nat) (s : St) (x : Ask) (h : Seg w g f s) :
    Calls Tryd.prog 22 #[.pointer (some ⟨g, f, none⟩), .agg #[.int .i64 x.who, .int .i64 x.obj, .int .i64 x.call, .int .i64 x.part, .int .u32 x.arg, .int .u32 x.val]] w (MPF w g f (doLock s x).1 (doLock s x).2) := by
  unfold doLock
  by_cases c2 : x.call = 2
  · rw [if_pos c2]
    by_cases ho : s.owner = x.who
    · rw [if_pos ho]; exact (lock_2own w g f s x h c2 ho).mono (fun e w' q => q.fresh rfl)
    · rw [if_neg ho]; exact (lock_2not w g f s x h c2 ho).mono (fun e w' q => q.fresh rfl)
  · rw [if_neg c2]
    by_cases ho : s.owner = x.who
    · rw [if_pos ho]; exact (lock_1own w g f s x h c2 ho).mono (fun e w' q => q.fresh rfl)
    · rw [if_neg ho]
      by_cases hm : s.owner = -1
      · rw [if_pos hm]; exact (lock_1fre w g f s x h c2 ho hm).mono (fun e w' q => q.fresh rfl)
      · rw [if_neg hm]; exact (lock_1bus w g f s x h c2 ho hm).mono (fun e w' q => q.fresh rfl)

theorem once_any (w : World) (g f : Nat) (s : St) (x : Ask) (h : Seg w g f s) :
    Calls Tryd.prog 21 #[.pointer (some ⟨g, f, none⟩), .agg #[.int .i64 x.who, .int .i64 x.obj, .int .i64 x.call, .int .i64 x.part, .int .u32 x.arg, .int .u32 x.val]] w (MPF w g f (doOnce s x).1 (doOnce s x).2) := by
  unfold doOnce
  by_cases c2 : x.call = 10
  · rw [if_pos c2]
    by_cases ho : s.owner = x.who
    · rw [if_pos ho]; exact (once_10own w g f s x h c2 ho).mono (fun e w' q => q.fresh rfl)
    · rw [if_neg ho]; exact (once_10not w g f s x h c2 ho).mono (fun e w' q => q.fresh rfl)
  · rw [if_neg c2]
    by_cases ho : s.owner = x.who
    · rw [if_pos ho]; exact (once_9own w g f s x h c2 ho).mono (fun e w' q => q.fresh rfl)
    · rw [if_neg ho]
      by_cases hm : s.done = true
      · rw [if_pos hm]; exact (once_9done w g f s x h c2 ho hm).mono (fun e w' q => q.fresh rfl)
      · rw [if_neg hm]
        have hm' := Bool.eq_false_iff.2 hm
        by_cases h0 : 0 ≤ s.owner
        · rw [if_pos h0]; exact (once_9bus w g f s x h c2 ho hm' h0).mono (fun e w' q => q.fresh rfl)
        · rw [if_neg h0]; exact (once_9fre w g f s x h c2 ho hm' (by omega)).mono (fun e w' q => q.fresh rfl)

theorem sem_any (w : World) (g f : Nat) (s : St) (x : Ask) (h : Seg w g f s) (l1 : -1000000 ≤ s.count) (l2 : s.count ≤ 1000000) :
    Calls Tryd.prog 17 #[.pointer (some ⟨g, f, none⟩), .agg #[.int .i64 x.who, .int .i64 x.obj, .int .i64 x.call, .int .i64 x.part, .int .u32 x.arg, .int .u32 x.val]] w (MPF w g f (doSem s x).1 (doSem s x).2) := by
  unfold doSem
  by_cases c2 : x.call = 2
  · rw [if_pos c2]
    by_cases ho : s.count = s.o.a
    · rw [if_pos ho]; exact (sem_2over w g f s x h l1 l2 c2 ho).mono (fun e w' q => q.fresh rfl)
    · rw [if_neg ho]; exact (sem_2up w g f s x h l1 l2 c2 ho).mono (fun e w' q => q.fresh rfl)
  · rw [if_neg c2]
    by_cases ho : s.count = 0
    · rw [if_pos ho]; exact (sem_1no w g f s x h l1 l2 c2 ho).mono (fun e w' q => q.fresh rfl)
    · rw [if_neg ho]; exact (sem_1down w g f s x h l1 l2 c2 ho).mono (fun e w' q => q.fresh rfl)

theorem doLock_nil (s : St) (x : Ask) : ansD (doLock s x).1 = [] := by
  unfold doLock
  repeat' split
  all_goals rfl

theorem Seg.below {w w' : World} {g f : Nat} {s : St} (h : Seg w g f s) {B : Nat} (hb : Below B w w') (hB : w.heap.size ≤ B := by first | exact Nat.le_refl _ | omega) : Seg w' g f s := by
  have hlt := h.lt
  obtain ⟨hw, arr, h1, h2⟩ := h
  exact ⟨hw, arr, (hb.block g (Nat.lt_of_lt_of_le hlt hB)).trans h1, h2⟩
theorem Upd.undrew {w w' : World} {g f n : Nat} {s : St} (h : Upd (w.drewN n) g f s w') : Upd w g f s w' := ⟨⟨h.1.os, h.1.tape, h.1.output, h.1.size, h.1.block⟩, h.2⟩
theorem Seg.drewN {w : World} {g f n : Nat} {s : St} (h : Seg w g f s) : Seg (w.drewN n) g f s := h

set_option maxHeartbeats 1000000 in
theorem duo_4 (w : World) (g f : Nat) (s : St) (x : Ask) (h : Seg w g f s) (p0 : x.who ≠ s.o.a) (p1 : x.who ≠ s.o.b) :
    Calls Tryd.prog 15 #[.pointer (some ⟨g, f, none⟩), .agg #[.int .i64 x.who, .int .i64 x.obj, .int .i64 x.call, .int .i64 x.part, .int .u32 x.arg, .int .u32 x.val]] w (MPost w g f (some (4, [])) (s)) := by
  have hlt := h.lt
  have c_a : w.cell? ⟨g, f + 2, none⟩ = some (.int .i64 s.o.a) := (h.at 2 (by decide)).1.trans s.cells_at.2.2.1
  have z_a : w.frozen? ⟨g, f + 2, none⟩ = false := (h.at 2 (by decide)).2
  have c_b : w.cell? ⟨g, f + 3, none⟩ = some (.int .i64 s.o.b) := (h.at 3 (by decide)).1.trans s.cells_at.2.2.2.1
  have z_b : w.frozen? ⟨g, f + 3, none⟩ = false := (h.at 3 (by decide)).2
  have q0 : (x.who != s.o.a) = true := by simp; omega
  have q1 : (x.who != s.o.b) = true := by simp; omega
  have HS := Lib.hid h
  clear h p0 p1
  go_enter Tryd.func15, Tryd.ntmps15
  go_wp2_with (first
      | (go_at_call 33; refine (told_any _ _).mono ?_; rintro e wF ⟨rfl, hbF⟩; have hk := keepC hbF (Nat.le_refl _); have hf := keepF hbF (Nat.le_refl _))
      | (go_at_call 34; refine (fine_any _).mono ?_; rintro e wF ⟨rfl, hbF⟩; have hk := keepC hbF (Nat.le_refl _); have hf := keepF hbF (Nat.le_refl _))
      | (go_at_call 13; refine (not_any _).mono ?_; rintro e wF ⟨rfl, hbF⟩; have hk := keepC hbF (Nat.le_refl _); have hf := keepF hbF (Nat.le_refl _)))
  go_quiet (fail)
  go_wp2_with (first
      | (go_at_call 33; refine (told_any _ _).mono ?_; rintro e wF ⟨rfl, hbF⟩; have hk := keepC hbF (Nat.le_refl _); have hf := keepF hbF (Nat.le_refl _))
      | (go_at_call 34; refine (fine_any _).mono ?_; rintro e wF ⟨rfl, hbF⟩; have hk := keepC hbF (Nat.le_refl _); have hf := keepF hbF (Nat.le_refl _))
      | (go_at_call 13; refine (not_any _).mono ?_; rintro e wF ⟨rfl, hbF⟩; have hk := keepC hbF (Nat.le_refl _); have hf := keepF hbF (Nat.le_refl _)))
  have hZ := two_new (w) (.cells #[.int .i64 x.who, .int .i64 x.obj, .int .i64 x.call, .int .i64 x.part, .int .u32 x.arg, .int .u32 x.val] 32) (.cells #[.int .u32 0, .slice none 0 0] 50)
  have hsz : (w).heap.size = w.heap.size := by simp
  obtain ⟨bZ0, bB⟩ := hZ
  have bZ : (((w).alloc (.cells #[.int .i64 x.who, .int .i64 x.obj, .int .i64 x.call, .int .i64 x.part, .int .u32 x.arg, .int .u32 x.val] 32)).alloc (.cells #[.int .u32 0, .slice none 0 0] 50)).heap[w.heap.size + 1]? = some (.cells #[.int .u32 0, .slice none 0 0] 50) := by rw [hsz] at bZ0; exact bZ0
  have bZF : wF.heap[w.heap.size + 1]? = some (.cells #[.int .u32 0, .slice none 0 0] 50) := (hbF.block _ (Array.getElem?_eq_some_iff.1 bZ).1).trans bZ
  have bF : Below w.heap.size (w) wF := (bB.mono (Nat.le_of_eq hsz.symm)).trans ⟨hbF.os, hbF.tape, hbF.output, hbF.size, fun k hk => hbF.block k (Nat.lt_of_lt_of_le hk (Nat.le_trans (Nat.le_of_eq hsz.symm) bB.size))⟩
  refine bodyPost_ret (results_ans2 rfl _ _ (w.heap.size + 1) _ _ (set2_row bZF _ _) rfl) rfl ?_
  refine ⟨_, rfl, rd_nil _ _, ?_⟩
  have hb2 := set2_below bF (R := w.heap.size + 1) (by omega) (.int .u32 (ansR (some (4, [])))) (.slice none 0 0)
  exact Upd.same HS.out hb2

set_option maxHeartbeats 1000000 in
theorem duo_la (w : World) (g f : Nat) (s : St) (x : Ask) (h : Seg w g f s) (p0 : x.who = s.o.a) :
    Calls Tryd.prog 15 #[.pointer (some ⟨g, f, none⟩), .agg #[.int .i64 x.who, .int .i64 x.obj, .int .i64 x.call, .int .i64 x.part, .int .u32 x.arg, .int .u32 x.val]] w (MPost w g f (doLock s x).1 (doLock s x).2) := by
  have hlt := h.lt
  have c_a : w.cell? ⟨g, f + 2, none⟩ = some (.int .i64 s.o.a) := (h.at 2 (by decide)).1.trans s.cells_at.2.2.1
  have z_a : w.frozen? ⟨g, f + 2, none⟩ = false := (h.at 2 (by decide)).2
  have c_b : w.cell? ⟨g, f + 3, none⟩ = some (.int .i64 s.o.b) := (h.at 3 (by decide)).1.trans s.cells_at.2.2.2.1
  have z_b : w.frozen? ⟨g, f + 3, none⟩ = false := (h.at 3 (by decide)).2
  have q0 : (x.who != s.o.a) = false := by simp; omega
  have HS := Lib.hid h
  clear h p0
  obtain ⟨bZ0, bB⟩ := two_new w (.cells #[.int .i64 x.who, .int .i64 x.obj, .int .i64 x.call, .int .i64 x.part, .int .u32 x.arg, .int .u32 x.val] 32) (.cells #[.int .u32 0, .slice none 0 0] 50)
  have HS2 := Seg.below HS.out bB
  go_enter Tryd.func15, Tryd.ntmps15
  go_wp2_with (go_at_call 22; refine (lock_any _ g f s x (by first | exact HS2 | exact Seg.drewN HS2)).mono ?_; rintro e wU ⟨dv, rfl, hRd, hFr, hU⟩; obtain ⟨A, cap, rfl⟩ := hRd.form; have bR : wU.heap[w.heap.size + 1]? = some (.cells #[.int .u32 0, .slice none 0 0] 50) := (hU.1.block _ (show w.heap.size + 1 < ((w.alloc _).alloc _).heap.size by simp) (by omega)).trans bZ0; have rc0 : wU.cell? ⟨w.heap.size + 1, 0, none⟩ = some (.int .u32 0) := cell_of_row wU (w.heap.size + 1) 0 _ _ _ bR; have rc1 : wU.cell? ⟨w.heap.size + 1, 1, none⟩ = some (.slice none 0 0) := cell_of_row wU (w.heap.size + 1) 1 _ _ _ bR; have rf0 : wU.frozen? ⟨w.heap.size + 1, 0, none⟩ = false := frozen_of_row _ _ _ _ _ bR; have rf1 : wU.frozen? ⟨w.heap.size + 1, 1, none⟩ = false := frozen_of_row _ _ _ _ _ bR)
  go_quiet (fail)
  go_wp2_with (go_at_call 22; refine (lock_any _ g f s x (by first | exact HS2 | exact Seg.drewN HS2)).mono ?_; rintro e wU ⟨dv, rfl, hRd, hFr, hU⟩; obtain ⟨A, cap, rfl⟩ := hRd.form; have bR : wU.heap[w.heap.size + 1]? = some (.cells #[.int .u32 0, .slice none 0 0] 50) := (hU.1.block _ (show w.heap.size + 1 < ((w.alloc _).alloc _).heap.size by simp) (by omega)).trans bZ0; have rc0 : wU.cell? ⟨w.heap.size + 1, 0, none⟩ = some (.int .u32 0) := cell_of_row wU (w.heap.size + 1) 0 _ _ _ bR; have rc1 : wU.cell? ⟨w.heap.size + 1, 1, none⟩ = some (.slice none 0 0) := cell_of_row wU (w.heap.size + 1) 1 _ _ _ bR; have rf0 : wU.frozen? ⟨w.heap.size + 1, 0, none⟩ = false := frozen_of_row _ _ _ _ _ bR; have rf1 : wU.frozen? ⟨w.heap.size + 1, 1, none⟩ = false := frozen_of_row _ _ _ _ _ bR)
  refine bodyPost_ret (results_ans2 rfl _ _ (w.heap.size + 1) _ _ (set2_row bR _ _) rfl) rfl ?_
  simp only [doLock_nil s x] at hRd
  refine ⟨_, rfl, ?_, Upd.wrap hlt bB (by first | exact hU | exact Upd.undrew hU) (set2_below (Below.refl _ _) (by omega) _ _)⟩
  rw [doLock_nil s x]
  exact rd_zero hRd (by simp)

set_option maxHeartbeats 1000000 in
theorem duo_lb (w : World) (g f : Nat) (s : St) (x : Ask) (h : Seg w g f s) (p0 : x.who ≠ s.o.a) (p1 : x.who = s.o.b) :
    Calls Tryd.prog 15 #[.pointer (some ⟨g, f, none⟩), .agg #[.int .i64 x.who, .int .i64 x.obj, .int .i64 x.call, .int .i64 x.part, .int .u32 x.arg, .int .u32 x.val]] w (MPost w g f (doLock s x).1 (doLock s x).2) := by
  have hlt := h.lt
  have c_a : w.cell? ⟨g, f + 2, none⟩ = some (.int .i64 s.o.a) := (h.at 2 (by decide)).1.trans s.cells_at.2.2.1
  have z_a : w.frozen? ⟨g, f + 2, none⟩ = false := (h.at 2 (by decide)).2
  have c_b : w.cell? ⟨g, f + 3, none⟩ = some (.int .i64 s.o.b) := (h.at 3 (by decide)).1.trans s.cells_at.2.2.2.1
  have z_b : w.frozen? ⟨g, f + 3, none⟩ = false := (h.at 3 (by decide)).2
  have q0 : (x.who != s.o.a) = true := by simp; omega
  have q1 : (x.who != s.o.b) = false := by simp; omega
  have HS := Lib.hid h
  clear h p0 p1
  obtain ⟨bZ0, bB⟩ := two_new w (.cells #[.int .i64 x.who, .int .i64 x.obj, .int .i64 x.call, .int .i64 x.part, .int .u32 x.arg, .int .u32 x.val] 32) (.cells #[.int .u32 0, .slice none 0 0] 50)
  have HS2 := Seg.below HS.out bB
  go_enter Tryd.func15, Tryd.ntmps15
  go_wp2_with (go_at_call 22; refine (lock_any _ g f s x (by first | exact HS2 | exact Seg.drewN HS2)).mono ?_; rintro e wU ⟨dv, rfl, hRd, hFr, hU⟩; obtain ⟨A, cap, rfl⟩ := hRd.form; have bR : wU.heap[w.heap.size + 1]? = some (.cells #[.int .u32 0, .slice none 0 0] 50) := (hU.1.block _ (show w.heap.size + 1 < ((w.alloc _).alloc _).heap.size by simp) (by omega)).trans bZ0; have rc0 : wU.cell? ⟨w.heap.size + 1, 0, none⟩ = some (.int .u32 0) := cell_of_row wU (w.heap.size + 1) 0 _ _ _ bR; have rc1 : wU.cell? ⟨w.heap.size + 1, 1, none⟩ = some (.slice none 0 0) := cell_of_row wU (w.heap.size + 1) 1 _ _ _ bR; have rf0 : wU.frozen? ⟨w.heap.size + 1, 0, none⟩ = false := frozen_of_row _ _ _ _ _ bR; have rf1 : wU.frozen? ⟨w.heap.size + 1, 1, none⟩ = false := frozen_of_row _ _ _ _ _ bR)
  go_quiet (fail)
  go_wp2_with (go_at_call 22; refine (lock_any _ g f s x (by first | exact HS2 | exact Seg.drewN HS2)).mono ?_; rintro e wU ⟨dv, rfl, hRd, hFr, hU⟩; obtain ⟨A, cap, rfl⟩ := hRd.form; have bR : wU.heap[w.heap.size + 1]? = some (.cells #[.int .u32 0, .slice none 0 0] 50) := (hU.1.block _ (show w.heap.size + 1 < ((w.alloc _).alloc _).heap.size by simp) (by omega)).trans bZ0; have rc0 : wU.cell? ⟨w.heap.size + 1, 0, none⟩ = some (.int .u32 0) := cell_of_row wU (w.heap.size + 1) 0 _ _ _ bR; have rc1 : wU.cell? ⟨w.heap.size + 1, 1, none⟩ = some (.slice none 0 0) := cell_of_row wU (w.heap.size + 1) 1 _ _ _ bR; have rf0 : wU.frozen? ⟨w.heap.size + 1, 0, none⟩ = false := frozen_of_row _ _ _ _ _ bR; have rf1 : wU.frozen? ⟨w.heap.size + 1, 1, none⟩ = false := frozen_of_row _ _ _ _ _ bR)
  refine bodyPost_ret (results_ans2 rfl _ _ (w.heap.size + 1) _ _ (set2_row bR _ _) rfl) rfl ?_
  simp only [doLock_nil s x] at hRd
  refine ⟨_, rfl, ?_, Upd.wrap hlt bB (by first | exact hU | exact Upd.undrew hU) (set2_below (Below.refl _ _) (by omega) _ _)⟩
  rw [doLock_nil s x]
  exact rd_zero hRd (by simp)

theorem duo_any (w : World) (g f : Nat) (s : St) (x : Ask) (h : Seg w g f s) :
    Calls Tryd.prog 15 #[.pointer (some ⟨g, f, none⟩), .agg #[.int .i64 x.who, .int .i64 x.obj, .int .i64 x.call, .int .i64 x.part, .int .u32 x.arg, .int .u32 x.val]] w (MPF w g f (doDuo s x).1 (doDuo s x).2) := by
  unfold doDuo
  by_cases ha : x.who = s.o.a
  · rw [if_neg (fun e => e.1 ha)]; exact (duo_la w g f s x h ha).mono (fun e w' q => q.fresh (doLock_nil s x))
  · by_cases hb : x.who = s.o.b
    · rw [if_neg (fun e => e.2 hb)]; exact (duo_lb w g f s x h ha hb).mono (fun e w' q => q.fresh (doLock_nil s x))
    · rw [if_pos ⟨ha, hb⟩]; exact (duo_4 w g f s x h ha hb).mono (fun e w' q => q.fresh rfl)

set_option maxHeartbeats 1000000 in
theorem seq_4not (w : World) (g f : Nat) (s : St) (x : Ask) (h : Seg w g f s) (p0 : x.call = 4) (p1 : s.owner ≠ x.who) :
    Calls Tryd.prog 16 #[.pointer (some ⟨g, f, none⟩), .agg #[.int .i64 x.who, .int .i64 x.obj, .int .i64 x.call, .int .i64 x.part, .int .u32 x.arg, .int .u32 x.val]] w (MPost w g f (some (2, [])) (s)) := by
  have hlt := h.lt
  have c_owner : w.cell? ⟨g, f + 4, none⟩ = some (.int .i64 s.owner) := (h.at 4 (by decide)).1.trans s.cells_at.2.2.2.2
  have z_owner : w.frozen? ⟨g, f + 4, none⟩ = false := (h.at 4 (by decide)).2
  have q0 : (x.call == 4) = true := by simp; omega
  have q1 : (s.owner != x.who) = true := by simp; omega
  have HS := Lib.hid h
  clear h p0 p1
  go_enter Tryd.func16, Tryd.ntmps16
  go_wp2_with (first
      | (go_at_call 33; refine (told_any _ _).mono ?_; rintro e wF ⟨rfl, hbF⟩; have hk := keepC hbF (Nat.le_refl _); have hf := keepF hbF (Nat.le_refl _))
      | (go_at_call 34; refine (fine_any _).mono ?_; rintro e wF ⟨rfl, hbF⟩; have hk := keepC hbF (Nat.le_refl _); have hf := keepF hbF (Nat.le_refl _))
      | (go_at_call 13; refine (not_any _).mono ?_; rintro e wF ⟨rfl, hbF⟩; have hk := keepC hbF (Nat.le_refl _); have hf := keepF hbF (Nat.le_refl _)))
  go_quiet (fail)
  go_wp2_with (first
      | (go_at_call 33; refine (told_any _ _).mono ?_; rintro e wF ⟨rfl, hbF⟩; have hk := keepC hbF (Nat.le_refl _); have hf := keepF hbF (Nat.le_refl _))
      | (go_at_call 34; refine (fine_any _).mono ?_; rintro e wF ⟨rfl, hbF⟩; have hk := keepC hbF (Nat.le_refl _); have hf := keepF hbF (Nat.le_refl _))
      | (go_at_call 13; refine (not_any _).mono ?_; rintro e wF ⟨rfl, hbF⟩; have hk := keepC hbF (Nat.le_refl _); have hf := keepF hbF (Nat.le_refl _)))
  have hZ := two_new (w) (.cells #[.int .i64 x.who, .int .i64 x.obj, .int .i64 x.call, .int .i64 x.part, .int .u32 x.arg, .int .u32 x.val] 32) (.cells #[.int .u32 0, .slice none 0 0] 50)
  have hsz : (w).heap.size = w.heap.size := by simp
  obtain ⟨bZ0, bB⟩ := hZ
  have bZ : (((w).alloc (.cells #[.int .i64 x.who, .int .i64 x.obj, .int .i64 x.call, .int .i64 x.part, .int .u32 x.arg, .int .u32 x.val] 32)).alloc (.cells #[.int .u32 0, .slice none 0 0] 50)).heap[w.heap.size + 1]? = some (.cells #[.int .u32 0, .slice none 0 0] 50) := by rw [hsz] at bZ0; exact bZ0
  have bZF : wF.heap[w.heap.size + 1]? = some (.cells #[.int .u32 0, .slice none 0 0] 50) := (hbF.block _ (Array.getElem?_eq_some_iff.1 bZ).1).trans bZ
  have bF : Below w.heap.size (w) wF := (bB.mono (Nat.le_of_eq hsz.symm)).trans ⟨hbF.os, hbF.tape, hbF.output, hbF.size, fun k hk => hbF.block k (Nat.lt_of_lt_of_le hk (Nat.le_trans (Nat.le_of_eq hsz.symm) bB.size))⟩
  refine bodyPost_ret (results_ans2 rfl _ _ (w.heap.size + 1) _ _ (set2_row bZF _ _) rfl) rfl ?_
  refine ⟨_, rfl, rd_nil _ _, ?_⟩
  have hb2 := set2_below bF (R := w.heap.size + 1) (by omega) (.int .u32 (ansR (some (2, [])))) (.slice none 0 0)
  exact Upd.same HS.out hb2

set_option maxHeartbeats 1000000 in
theorem seq_lk (w : World) (g f : Nat) (s : St) (x : Ask) (h : Seg w g f s) (p0 : x.call ≠ 4) (p1 : x.call ≠ 3) :
    Calls Tryd.prog 16 #[.pointer (some ⟨g, f, none⟩), .agg #[.int .i64 x.who, .int .i64 x.obj, .int .i64 x.call, .int .i64 x.part, .int .u32 x.arg, .int .u32 x.val]] w (MPost w g f (doLock s x).1 (doLock s x).2) := by
  have hlt := h.lt
  have c_owner : w.cell? ⟨g, f + 4, none⟩ = some (.int .i64 s.owner) := (h.at 4 (by decide)).1.trans s.cells_at.2.2.2.2
  have z_owner : w.frozen? ⟨g, f + 4, none⟩ = false := (h.at 4 (by decide)).2
  have q0 : (x.call == 4) = false := by simp; omega
  have q1 : (x.call == 3) = false := by simp; omega
  have HS := Lib.hid h
  clear h p0 p1
  obtain ⟨bZ0, bB⟩ := two_new w (.cells #[.int .i64 x.who, .int .i64 x.obj, .int .i64 x.call, .int .i64 x.part, .int .u32 x.arg, .int .u32 x.val] 32) (.cells #[.int .u32 0, .slice none 0 0] 50)
  have HS2 := Seg.below HS.out bB
  go_enter Tryd.func16, Tryd.ntmps16
  go_wp2_with (go_at_call 22; refine (lock_any _ g f s x (by first | exact HS2 | exact Seg.drewN HS2)).mono ?_; rintro e wU ⟨dv, rfl, hRd, hFr, hU⟩; obtain ⟨A, cap, rfl⟩ := hRd.form; have bR : wU.heap[w.heap.size + 1]? = some (.cells #[.int .u32 0, .slice none 0 0] 50) := (hU.1.block _ (show w.heap.size + 1 < ((w.alloc _).alloc _).heap.size by simp) (by omega)).trans bZ0; have rc0 : wU.cell? ⟨w.heap.size + 1, 0, none⟩ = some (.int .u32 0) := cell_of_row wU (w.heap.size + 1) 0 _ _ _ bR; have rc1 : wU.cell? ⟨w.heap.size + 1, 1, none⟩ = some (.slice none 0 0) := cell_of_row wU (w.heap.size + 1) 1 _ _ _ bR; have rf0 : wU.frozen? ⟨w.heap.size + 1, 0, none⟩ = false := frozen_of_row _ _ _ _ _ bR; have rf1 : wU.frozen? ⟨w.heap.size + 1, 1, none⟩ = false := frozen_of_row _ _ _ _ _ bR)
  refine bodyPost_ret (results_ans2 rfl _ _ (w.heap.size + 1) _ _ (set2_row bR _ _) rfl) rfl ?_
  simp only [doLock_nil s x] at hRd
  refine ⟨_, rfl, ?_, Upd.wrap hlt bB (by first | exact hU | exact Upd.undrew hU) (set2_below (Below.refl _ _) (by omega) _ _)⟩
  rw [doLock_nil s x]
  exact rd_zero hRd (by simp)

theorem cells_draft {s : St} (h : s.Wf) (t : Nat) (ht : t < 3) (v : Int) : ({ s with draft := s.draft.set t v } : St).cells = s.cells.set (16 + t) (.int .u32 v) := by
  obtain ⟨h1, h2, h3, h4, h5⟩ := h
  unfold St.cells St.head
  rw [List.set_append_right _ _ (by simp; omega), List.set_append_right _ _ (by simp [h1]; omega), List.set_append_right _ _ (by simp [h1, h2]; omega), List.set_append_left _ _ (by simp [h1, h2, h3]; omega)]
  simp [List.map_set, h1, h2]
  congr 1
  omega

set_option maxHeartbeats 1000000 in
theorem seq_4own (w : World) (g f : Nat) (s : St) (t : Nat) (who obj call part val : Int) (h : Seg w g f s) (p0 : t < 3) (p1 : call = 4) (p2 : s.owner = who) :
    Calls Tryd.prog 16 #[.pointer (some ⟨g, f, none⟩), .agg #[.int .i64 who, .int .i64 obj, .int .i64 call, .int .i64 part, .int .u32 ((t : Nat) : Int), .int .u32 val]] w (MPost w g f (some (0, [])) ({ s with draft := s.draft.set t val })) := by
  have hlt := h.lt
  have c_owner : w.cell? ⟨g, f + 4, none⟩ = some (.int .i64 s.owner) := (h.at 4 (by decide)).1.trans s.cells_at.2.2.2.2
  have z_owner : w.frozen? ⟨g, f + 4, none⟩ = false := (h.at 4 (by decide)).2
  have q0 : (call == 4) = true := by simp; omega
  have q1 : (s.owner != who) = false := by simp; omega
  have c_dr : w.cell? ⟨g, f + 16 + t, none⟩ = some (.int .u32 (s.draft.getD t 0)) := by
    rw [Nat.add_assoc]
    exact (h.at (16 + t) (by omega)).1.trans (h.1.datAt t p0).2
  have z_dr : w.frozen? ⟨g, f + 16 + t, none⟩ = false := by
    rw [Nat.add_assoc]
    exact (h.at (16 + t) (by omega)).2
  have HS := Lib.hid h
  have ht8 : ((t : Nat) : Int) < 3 := by omega
  have ht0 : (0 : Int) ≤ ((t : Nat) : Int) := by omega
  clear h p1 p2
  go_enter Tryd.func16, Tryd.ntmps16
  go_wp2_with (first
      | (go_at_call 33; refine (told_any _ _).mono ?_; rintro e wF ⟨rfl, hbF⟩; have hk := keepC hbF (Nat.le_refl _); have hf := keepF hbF (Nat.le_refl _))
      | (go_at_call 34; refine (fine_any _).mono ?_; rintro e wF ⟨rfl, hbF⟩; have hk := keepC hbF (Nat.le_refl _); have hf := keepF hbF (Nat.le_refl _))
      | (go_at_call 13; refine (not_any _).mono ?_; rintro e wF ⟨rfl, hbF⟩; have hk := keepC hbF (Nat.le_refl _); have hf := keepF hbF (Nat.le_refl _)))
  go_quiet (fail)
  go_wp2_with (first
      | (go_at_call 33; refine (told_any _ _).mono ?_; rintro e wF ⟨rfl, hbF⟩; have hk := keepC hbF (Nat.le_refl _); have hf := keepF hbF (Nat.le_refl _))
      | (go_at_call 34; refine (fine_any _).mono ?_; rintro e wF ⟨rfl, hbF⟩; have hk := keepC hbF (Nat.le_refl _); have hf := keepF hbF (Nat.le_refl _))
      | (go_at_call 13; refine (not_any _).mono ?_; rintro e wF ⟨rfl, hbF⟩; have hk := keepC hbF (Nat.le_refl _); have hf := keepF hbF (Nat.le_refl _)))
  go_region_with (fail)
  all_goals (
  go_wp2_with (first
      | (go_at_call 33; refine (told_any _ _).mono ?_; rintro e wF ⟨rfl, hbF⟩; have hk := keepC hbF (Nat.le_refl _); have hf := keepF hbF (Nat.le_refl _))
      | (go_at_call 34; refine (fine_any _).mono ?_; rintro e wF ⟨rfl, hbF⟩; have hk := keepC hbF (Nat.le_refl _); have hf := keepF hbF (Nat.le_refl _))
      | (go_at_call 13; refine (not_any _).mono ?_; rintro e wF ⟨rfl, hbF⟩; have hk := keepC hbF (Nat.le_refl _); have hf := keepF hbF (Nat.le_refl _)))
  obtain ⟨bZ0, bB0⟩ := two_new w (.cells #[.int .i64 who, .int .i64 obj, .int .i64 call, .int .i64 part, .int .u32 ((t : Nat) : Int), .int .u32 val] 32) (.cells #[.int .u32 0, .slice none 0 0] 50)
  have bB := Below.both (bB0) ⟨g, f + 16 + t, none⟩ (.int .u32 val)
  have hrow : (((w.alloc (.cells #[.int .i64 who, .int .i64 obj, .int .i64 call, .int .i64 part, .int .u32 ((t : Nat) : Int), .int .u32 val] 32)).alloc (.cells #[.int .u32 0, .slice none 0 0] 50)).setCell ⟨g, f + 16 + t, none⟩ (.int .u32 val)).heap[w.heap.size + 1]? = some (.cells #[.int .u32 0, .slice none 0 0] 50) := (Below.heap_setCell _ _ _ _ (show w.heap.size + 1 ≠ g by omega)).trans (bZ0)
  have bZF : wF.heap[w.heap.size + 1]? = some (.cells #[.int .u32 0, .slice none 0 0] 50) := (hbF.block _ (by have := (Array.getElem?_eq_some_iff.1 bZ0).1; simp at this ⊢)).trans hrow
  have bF : Below w.heap.size ((w.setCell ⟨g, f + 16 + t, none⟩ (.int .u32 val))) wF := bB.trans ⟨hbF.os, hbF.tape, hbF.output, hbF.size, fun k hk => hbF.block k (Nat.lt_of_lt_of_le hk (by have := bB.size; simp at this ⊢; omega))⟩
  refine bodyPost_ret (results_ans2 rfl _ _ (w.heap.size + 1) _ _ (set2_row bZF _ _) rfl) rfl ?_
  refine ⟨_, rfl, rd_nil _ _, ?_⟩
  have hb2 := set2_below bF (R := w.heap.size + 1) (by omega) (.int .u32 (ansR (some (0, [])))) (.slice none 0 0)
  have hA : f + (16 + t) = f + 16 + t := by omega
  exact Upd.one HS.out (j := 16 + t) (by omega) (cells_draft HS.out.1 t (by omega) val) (by have hw := HS.out.1; exact ⟨hw.l1, hw.l2, by simpa using hw.l3, hw.l4, hw.l5⟩) (by rw [hA]; exact hb2))

theorem doLock_seq (s : St) (x : Ask) : True := trivial

end Go.Proofs.YtfemeiopfpblaaaDoor.As
