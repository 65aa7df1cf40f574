/- The walks of the package abs: a sequence lock is read. -/
import Derived.Test.YtfemeiopfpblaaaDoorHjM4
import Derived.Deep.AppendLies
import Derived.Deep.RegionHeldLaw
set_option linter.unusedVariables false
set_option linter.unusedSimpArgs false
set_option maxRecDepth 20000
namespace Go.Proofs.YtfemeiopfpblaaaDoor.As
open Go.RowKit

theorem cell_alloc_keep {w : World} {a : Addr} {v : Value} {o : Obj} (h : w.cell? a = some v) : (w.alloc o).cell? a = some v :=
  (World.cell?_of_block (Below.heap_alloc w o a.block (block_lt_of_cell h))).trans h
theorem cell_set2_keep {w : World} {a : Addr} {v x y : Value} {R : Nat} (h : w.cell? a = some v) (hne : a.block ≠ R) : ((w.setCell ⟨R, 0, none⟩ x).setCell ⟨R, 1, none⟩ y).cell? a = some v :=
  (World.cell?_of_block ((Below.heap_setCell _ ⟨R, 1, none⟩ y a.block hne).trans (Below.heap_setCell w ⟨R, 0, none⟩ x a.block hne))).trans h
theorem cell_drew_keep {w : World} {a : Addr} {v : Value} (h : w.cell? a = some v) : w.drew.cell? a = some v := h
theorem own_empty {w : World} {b : Nat} {e : TypeId} (h : w.heap[b]? = some (.cells #[] e (0, 0))) : w.ownsRow 0 e 1 (.slice (some ⟨b, 0, none⟩) 0 0) 0 [] :=
  ⟨rfl, .inr ⟨b, 0, #[], rfl, Nat.zero_le _, h, Nat.le_refl _, by decide, rfl, rfl⟩⟩
set_option maxHeartbeats 2000000 in
theorem seq_3 (w : World) (g f : Nat) (s : St) (x : Ask) (h : Seg w g f s) (p0 : x.call = 3) (n : Nat) (p1 : s.o.n = (n : Int)) (p2 : n ≤ 3) (p3 : 0 < n) :
    Calls Tryd.prog 16 #[.pointer (some ⟨g, f, none⟩), .agg #[.int .i64 x.who, .int .i64 x.obj, .int .i64 x.call, .int .i64 x.part, .int .u32 x.arg, .int .u32 x.val]] w (MPF w g f (some (0, s.data.take n)) s) := by
  have hlt := h.lt
  have c_n : w.cell? ⟨g, f + 1, none⟩ = some (.int .i64 s.o.n) := (h.at 1 (by decide)).1.trans s.cells_at.2.1
  have z_n : w.frozen? ⟨g, f + 1, none⟩ = false := (h.at 1 (by decide)).2
  rw [p1] at c_n
  have n1 : ((n : Nat) : Int) ≤ 3 := by omega
  have n2 : decide (((n : Nat) : Int) ≤ 3) = true := decide_eq_true n1
  have q0 : (x.call == 4) = false := by simp; omega
  have q1 : (x.call == 3) = true := by simp; omega
  obtain ⟨i0, hi, hz0, hz1, hz2⟩ := info_parts infoU
  obtain ⟨news, hnw⟩ : ∃ l, l = ints32 (s.data.take n) := ⟨_, rfl⟩
  have hl : news.length = n * 1 := by rw [hnw]; unfold ints32; simp [h.1.l2]; omega
  have hone : ∀ u ∈ news, u.oneCell' = true := by rw [hnw]; unfold ints32; intro u hu; obtain ⟨a, _, rfl⟩ := List.mem_map.1 hu; rfl
  have hnews : ∀ j u, news[j]? = some u → w.cell? ⟨g, f + 13 + j, none⟩ = some u := by
    intro j u hu
    have hj : j < n := by have := (List.getElem?_eq_some_iff.1 hu).1; omega
    rw [Nat.add_assoc]
    refine (h.at (13 + j) (by omega)).1.trans ((h.1.datAt j (by omega)).1.trans ?_)
    rw [hnw] at hu
    unfold ints32 at hu
    rw [List.getElem?_map, List.getElem?_take, if_pos hj] at hu
    rw [List.getD_eq_getElem?_getD]
    cases hd : s.data[j]? with
    | none => rw [hd] at hu; cases hu
    | some v => rw [hd] at hu; simpa using hu
  have HS := Lib.hid h
  have HN := Lib.hid hnews
  clear h p0 p1 hnews
  obtain ⟨bZ0, bB⟩ := two_new w (.cells #[.int .i64 x.who, .int .i64 x.obj, .int .i64 x.call, .int .i64 x.part, .int .u32 x.arg, .int .u32 x.val] 32) (.cells #[.int .u32 0, .slice none 0 0] 50)
  go_enter Tryd.func16, Tryd.ntmps16
  go_wp2_with fail
  have tst : (((w.alloc (.cells #[.int .i64 x.who, .int .i64 x.obj, .int .i64 x.call, .int .i64 x.part, .int .u32 x.arg, .int .u32 x.val] 32)).alloc (.cells #[.int .u32 0, .slice none 0 0] 50)).alloc (.cells #[] 30)).drew.cell? ⟨g, f + 1, none⟩ = some (.int .i64 ((n : Nat) : Int)) := cell_alloc_keep (cell_alloc_keep (cell_alloc_keep c_n))
  have hown : (((w.alloc (.cells #[.int .i64 x.who, .int .i64 x.obj, .int .i64 x.call, .int .i64 x.part, .int .u32 x.arg, .int .u32 x.val] 32)).alloc (.cells #[.int .u32 0, .slice none 0 0] 50)).alloc (.cells #[] 30)).ownsRow 0 30 1 (.slice (some ⟨w.heap.size + 1 + 1, 0, none⟩) 0 0) 0 [] := own_empty (by simpa using heap_alloc_new ((w.alloc (.cells #[.int .i64 x.who, .int .i64 x.obj, .int .i64 x.call, .int .i64 x.part, .int .u32 x.arg, .int .u32 x.val] 32)).alloc (.cells #[.int .u32 0, .slice none 0 0] 50)) (.cells #[] 30))
  have hnewsW : ∀ j u, news[j]? = some u → (((w.alloc (.cells #[.int .i64 x.who, .int .i64 x.obj, .int .i64 x.call, .int .i64 x.part, .int .u32 x.arg, .int .u32 x.val] 32)).alloc (.cells #[.int .u32 0, .slice none 0 0] 50)).alloc (.cells #[] 30)).cell? ((⟨g, f + 13, none⟩ : Addr).add j) = some u := fun j u hu => by
    rw [add_at]
    exact cell_alloc_keep (cell_alloc_keep (cell_alloc_keep (HN.out j u hu)))
  have hrow3 : (((w.alloc (.cells #[.int .i64 x.who, .int .i64 x.obj, .int .i64 x.call, .int .i64 x.part, .int .u32 x.arg, .int .u32 x.val] 32)).alloc (.cells #[.int .u32 0, .slice none 0 0] 50)).alloc (.cells #[] 30)).heap[w.heap.size + 1]? = some (.cells #[.int .u32 0, .slice none 0 0] 50) := (Below.heap_alloc _ _ _ (by simp)).trans bZ0
  go_region_held_law (fun w' => w'.cell? ⟨g, f + 1, none⟩ = some (.int .i64 ((n : Nat) : Int))) (first | go_keep | exact tst | exact cell_set2_keep k6 (show g ≠ w.heap.size + 1 by omega) | exact (hgr.cell_far ⟨g, f + 1, none⟩ (by simp; omega) (by simp [Value.ownBlock]; omega)).trans (cell_alloc_keep (cell_alloc_keep (cell_alloc_keep c_n))))
    ((refine step_append_lies _ (by rfl) (.tmp 33) (.tmp 42) 33 (by rfl) 0 30 i0 _ 1 4 Tryd.underlying33 hi hz0 hz1 hz2 (by rfl) (by decide) (.slice (some ⟨w.heap.size + 1 + 1, 0, none⟩) 0 0) 0 [] (by rfl) hown ⟨g, f + 13, none⟩ n 3 news (by rfl) hl hnewsW hone p3 (by unfold maxLen; omega) (by omega) (Nat.zero_le _) (w.heap.size + 1 + 1 + 1) (by simp) ?_; intro g1 cap w1 ho hgr hat hlt1; have k0 : w1.heap[w.heap.size + 1]? = some (.cells #[.int .u32 0, .slice none 0 0] 50) := (hgr.block (w.heap.size + 1) (by simp) (by simp [Value.ownBlock])).trans hrow3; have k1 : w1.cell? ⟨w.heap.size + 1, 0, none⟩ = some (.int .u32 0) := cell_of_row w1 (w.heap.size + 1) 0 _ _ _ k0; have k2 : w1.cell? ⟨w.heap.size + 1, 1, none⟩ = some (.slice none 0 0) := cell_of_row w1 (w.heap.size + 1) 1 _ _ _ k0; have k6 : w1.cell? ⟨g, f + 1, none⟩ = some (.int .i64 ((n : Nat) : Int)) := (hgr.cell_far ⟨g, f + 1, none⟩ (by simp; omega) (by simp [Value.ownBlock]; omega)).trans (cell_alloc_keep (cell_alloc_keep (cell_alloc_keep c_n))); have k3 := frozen_of_row w1 (w.heap.size + 1) 0 _ _ k0; have k4 := frozen_of_row w1 (w.heap.size + 1) 1 _ _ k0))
  go_wp2_with fail
  have hg1 : w.heap.size + 2 ≤ g1 := by
    rcases hat with e | e
    · simp only [Value.ownBlock, Option.some.injEq] at e; omega
    · omega
  have bW : Below w.heap.size w w1 := (bB.alloc bB.size (.cells #[] 30)).trans ⟨hgr.os, hgr.tape, hgr.output, hgr.size, fun k hk => hgr.block k (by have := bB.size; simp at this ⊢; omega) (by simp [Value.ownBlock]; omega)⟩
  refine bodyPost_ret (results_ans2 rfl _ _ (w.heap.size + 1) _ _ (set2_row k0 _ _) rfl) rfl ?_
  have hd : (s.data.take n).length = n := by have := HS.out.1.l2; simp; omega
  simp only [Nat.zero_add, List.nil_append] at ho
  refine ⟨_, rfl, ?_, .inr (fun b off n' cap' e => ?_), Upd.same HS.out (set2_below bW (by omega) _ _)⟩
  · show Rd _ 1 _ (s.data.take n).length (ints32 (s.data.take n))
    rw [hd, ← hnw]
    refine (Rd.of_own ho).keep (by simp) (fun b off cap' e => ?_)
    injection e with e1 e2 e3
    injection e1 with e1
    injection e1 with e1 e2
    subst e1
    exact (Below.heap_setCell _ ⟨w.heap.size + 1, 1, none⟩ _ _ (show g1 ≠ w.heap.size + 1 by omega)).trans (Below.heap_setCell w1 ⟨w.heap.size + 1, 0, none⟩ _ _ (show g1 ≠ w.heap.size + 1 by omega))
  · injection e with e1 e2 e3
    injection e1 with e1
    injection e1 with e1 e2
    omega

theorem seq_any (w : World) (g f : Nat) (s : St) (x : Ask) (h : Seg w g f s) (hn : x.call = 3 → ∃ n : Nat, s.o.n = (n : Int) ∧ n ≤ 3 ∧ 0 < n) (ha : x.call = 4 → ∃ t : Nat, x.arg = (t : Int) ∧ t < 3) :
    Calls Tryd.prog 16 #[.pointer (some ⟨g, f, none⟩), .agg #[.int .i64 x.who, .int .i64 x.obj, .int .i64 x.call, .int .i64 x.part, .int .u32 x.arg, .int .u32 x.val]] w (MPF w g f (doSeq s x).1 (doSeq s x).2) := by
  unfold doSeq
  by_cases c4 : x.call = 4
  · rw [if_pos c4]
    by_cases ho : s.owner = x.who
    · rw [if_pos ho]
      obtain ⟨t, e, ht⟩ := ha c4
      obtain ⟨who, obj, call, part, arg, val⟩ := x
      dsimp only at e c4 ho ⊢
      subst e
      exact (seq_4own w g f s t who obj call part val h ht c4 ho).mono (fun e w' q => q.fresh rfl)
    · rw [if_neg ho]; exact (seq_4not w g f s x h c4 ho).mono (fun e w' q => q.fresh rfl)
  · rw [if_neg c4]
    by_cases c3 : x.call = 3
    · rw [if_pos c3]
      obtain ⟨n, e, h1, h2⟩ := hn c3
      rw [e, Int.toNat_natCast]
      exact seq_3 w g f s x h c3 n e h1 h2
    · rw [if_neg c3]
      exact (seq_lk w g f s x h c4 c3).mono (fun e w' q => q.fresh (doLock_nil s x))

end Go.Proofs.YtfemeiopfpblaaaDoor.As
