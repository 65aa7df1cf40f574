/- The walk of the package abs: what a machine does with a call. -/
import Derived.Test.YtfemeiopfpblaaaDoorHjM6
import Derived.Deep.RegionHeld3
set_option linter.unusedVariables false
set_option linter.unusedSimpArgs false
set_option maxRecDepth 20000
namespace Go.Proofs.YtfemeiopfpblaaaDoor.As
open Go.RowKit

theorem rd_set2 {w : World} {dv : Value} {n : Nat} {L : List Value} {R : Nat} (h : Rd w 1 dv n L) (hF : L = [] ∨ ∀ b off n cap, dv = .slice (some ⟨b, off, none⟩) n cap → b ≠ R) (u v : Value) : Rd ((w.setCell ⟨R, 0, none⟩ u).setCell ⟨R, 1, none⟩ v) 1 dv n L := by
  rcases hF with e | hF
  · subst e
    have hn : n = 0 := by have := h.len; simp at this; omega
    subst hn
    obtain ⟨A, cap, rfl⟩ := h.form
    exact rd_zero h (by simp)
  · refine h.keep (by simp) (fun b off cap e => ?_)
    have hb := hF b off n cap e
    exact (Below.heap_setCell _ ⟨R, 1, none⟩ _ _ hb).trans (Below.heap_setCell _ ⟨R, 0, none⟩ _ _ hb)
theorem MPF.lift {w wN wU : World} {g f R : Nat} {a : Ans} {s' : St} {dv : Value} (hg : g < w.heap.size) (hb : Below w.heap.size w wN) (hR : w.heap.size ≤ R) (hRN : R < wN.heap.size) (hRd : Rd wU 1 dv (ansD a).length (ints32 (ansD a))) (hFr : ansD a = [] ∨ ∀ b off n cap, dv = .slice (some ⟨b, off, none⟩) n cap → wN.heap.size ≤ b) (hU : Upd wN g f s' wU) :
    MPF w g f a s' (.returned (.tuple #[.agg #[.int .u32 (ansR a), dv], .bool a.isSome])) ((wU.setCell ⟨R, 0, none⟩ (.int .u32 (ansR a))).setCell ⟨R, 1, none⟩ dv) :=
  ⟨dv, rfl, rd_set2 hRd (hFr.imp (fun e => by rw [e]; rfl) (fun h b off n cap e => by have := h b off n cap e; omega)) _ _, hFr.imp id (fun h b off n cap e => by have := h b off n cap e; have := hb.size; omega), Upd.wrap hg hb hU (set2_below (Below.refl _ _) hR _ _)⟩
theorem MPF.none {w wN wF : World} {g f R : Nat} {s : St} (h : Seg w g f s) (hb : Below w.heap.size w wN) (hF : Below w.heap.size wN wF) (hR : w.heap.size ≤ R) :
    MPF w g f none s (.returned (.tuple #[.agg #[.int .u32 0, .slice none 0 0], .bool false])) ((wF.setCell ⟨R, 0, none⟩ (.int .u32 0)).setCell ⟨R, 1, none⟩ (.slice none 0 0)) :=
  ⟨_, rfl, rd_nil _ _, .inl rfl, Upd.same h (set2_below (hb.trans hF) hR _ _)⟩
theorem holdM {w : World} {R mb g f : Nat} {s : St} {v0 v1 v2 v3 v4 v5 m0 m1 : Value} {t tm : TypeId} (hX : w.heap[R]? = some (.cells #[v0, v1, v2, v3, v4, v5] t (0, 0))) (hM : w.heap[mb]? = some (.cells #[m0, m1] tm (0, 0))) (h : Seg w g f s) :
    w.cell? ⟨R, 0, none⟩ = some v0 ∧ w.cell? ⟨R, 2, none⟩ = some v2 ∧ w.cell? ⟨R, 4, none⟩ = some v4 ∧ w.cell? ⟨mb, 0, none⟩ = some m0 ∧ w.cell? ⟨g, f, none⟩ = some (.int .i64 s.o.k) ∧ w.cell? ⟨g, f + 1, none⟩ = some (.int .i64 s.o.n) ∧ w.cell? ⟨g, f + 2, none⟩ = some (.int .i64 s.o.a) ∧ w.cell? ⟨g, f + 3, none⟩ = some (.int .i64 s.o.b) := by
  obtain ⟨c0, c1, c2, _, c4, _⟩ := cells6 hX
  exact ⟨c0, c2, c4, cell_of_row w mb 0 _ _ _ hM, (h.at 0 (by decide)).1.trans s.cells_at.1, (h.at 1 (by decide)).1.trans s.cells_at.2.1, (h.at 2 (by decide)).1.trans s.cells_at.2.2.1, (h.at 3 (by decide)).1.trans s.cells_at.2.2.2.1⟩
theorem Seg.drew {w : World} {g f : Nat} {s : St} (h : Seg w g f s) : Seg w.drew g f s := h

theorem doRw_nil (s : St) (x : Ask) : ansD (doRw s x).1 = [] := by
  unfold doRw
  repeat' split
  all_goals rfl

set_option maxHeartbeats 2000000 in
theorem doM_no (w : World) (T : TabO w) (mb g f0 n cap j : Nat) (th : Int) (s : St) (who call part arg val : Int) (hM : w.heap[mb]? = some (.cells #[.int .i64 th, .slice (some ⟨g, f0, none⟩) n cap] 56 (0, 0))) (hS : Seg w g (f0 + j * 38) s) (hj : j < n) (hx0 : 0 ≤ arg) (hx1 : arg ≤ 4294967295) (p0 : ¬ AskP s.o.k s.o.n s.o.a s.o.b call th who) :
    Calls Tryd.prog 9 #[.pointer (some ⟨mb, 0, none⟩), .agg #[.int .i64 who, .int .i64 ((j : Nat) : Int), .int .i64 call, .int .i64 part, .int .u32 arg, .int .u32 val]] w (MPF w g (f0 + j * 38) none s) := by
  have hlt := hS.lt
  have hmlt : mb < w.heap.size := (Array.getElem?_eq_some_iff.1 hM).1
  obtain ⟨bX, bZ, bB, bS⟩ := blk2 w (.cells #[.int .i64 who, .int .i64 ((j : Nat) : Int), .int .i64 call, .int .i64 part, .int .u32 arg, .int .u32 val] 32) (.cells #[.int .u32 0, .slice none 0 0] 50)
  have HS := Lib.hid hS
  have HM := Lib.hid hM
  have HT := Lib.hid T
  have m0 : w.cell? ⟨mb, 0, none⟩ = some (.int .i64 th) := cell_of_row w mb 0 _ _ _ hM
  have m1 : w.cell? ⟨mb, 1, none⟩ = some (.slice (some ⟨g, f0, none⟩) n cap) := cell_of_row w mb 1 _ _ _ hM
  have g1 : decide (((j : Nat) : Int) < 0) = false := decide_eq_false (by omega)
  have g2 : decide (((n : Nat) : Int) ≤ ((j : Nat) : Int)) = false := decide_eq_false (by omega)
  have g3 : decide (n ≤ j) = false := decide_eq_false (by omega)
  have dA : decide (AskP s.o.k s.o.n s.o.a s.o.b call th who) = false := decide_eq_false p0
  have wr0 : IntKind.u64.wrap arg = arg := by rw [IntKind.wrap_u64]; omega
  clear hM hS T p0
  go_enter Tryd.func9, Tryd.ntmps9
  go_wp2_with fail
  go_quiet (fail)
  go_wp2_with fail
  go_quiet (fail)
  go_wp2_with fail
  have h0S := holdM bX ((bB.block _ hmlt).trans HM.out) (Seg.below HS.out bB)
  refine wp_region_held_drew (S := fun w' => w'.cell? ⟨w.heap.size, 0, none⟩ = some (.int .i64 who) ∧ w'.cell? ⟨w.heap.size, 2, none⟩ = some (.int .i64 call) ∧ w'.cell? ⟨w.heap.size, 4, none⟩ = some (.int .u32 arg) ∧ w'.cell? ⟨mb, 0, none⟩ = some (.int .i64 th) ∧ w'.cell? ⟨g, f0 + j * 38, none⟩ = some (.int .i64 s.o.k) ∧ w'.cell? ⟨g, f0 + j * 38 + 1, none⟩ = some (.int .i64 s.o.n) ∧ w'.cell? ⟨g, f0 + j * 38 + 2, none⟩ = some (.int .i64 s.o.a) ∧ w'.cell? ⟨g, f0 + j * 38 + 3, none⟩ = some (.int .i64 s.o.b)) (by kernel_rfl) h0S (fun hHeld => ?_)
  refine wpAnyH_take (i := 0) (v := ?_) rfl (by kernel_rfl) (by kernel_rfl) (by kernel_rfl) (fun _ _ _ h => h) (Or.inl ⟨by rfl, ?_⟩) (by assumption) ?_
  rotate_left
  · (intro w hSw; (try dsimp only at hSw); go_simp; try with_reducible rfl)
  try simp only [Act.put, List.getElem_toArray, List.getElem_cons_succ, List.getElem_cons_zero, List.setIfInBounds_toArray, List.set_cons_zero, List.set_cons_succ]
  refine wpAnyH_take (i := 1) (v := ?_) rfl (by kernel_rfl) (by kernel_rfl) (by kernel_rfl) (fun _ _ _ h => h) (Or.inl ⟨by rfl, ?_⟩) (by assumption) ?_
  rotate_left
  · (intro w hSw; (try dsimp only at hSw); go_simp; try with_reducible rfl)
  try simp only [Act.put, List.getElem_toArray, List.getElem_cons_succ, List.getElem_cons_zero, List.setIfInBounds_toArray, List.set_cons_zero, List.set_cons_succ]
  refine wpAnyH_take (i := 2) (v := ?_) rfl (by kernel_rfl) (by kernel_rfl) (by kernel_rfl) (fun _ _ _ h => h) (Or.inl ⟨by rfl, ?_⟩) (by assumption) ?_
  rotate_left
  · (intro w hSw; (try dsimp only at hSw); go_simp; try with_reducible rfl)
  try simp only [Act.put, List.getElem_toArray, List.getElem_cons_succ, List.getElem_cons_zero, List.setIfInBounds_toArray, List.set_cons_zero, List.set_cons_succ]
  refine wpAnyH_take (i := 3) (v := ?_) rfl (by kernel_rfl) (by kernel_rfl) (by kernel_rfl) (fun _ _ _ h => h) (Or.inl ⟨by rfl, ?_⟩) (by assumption) ?_
  rotate_left
  · (intro w hSw; (try dsimp only at hSw); go_simp; try with_reducible rfl)
  try simp only [Act.put, List.getElem_toArray, List.getElem_cons_succ, List.getElem_cons_zero, List.setIfInBounds_toArray, List.set_cons_zero, List.set_cons_succ]
  refine wpAnyH_take (i := 4) (v := ?_) rfl (by kernel_rfl) (by kernel_rfl) (by kernel_rfl) (fun _ _ _ h => h) (Or.inl ⟨by rfl, ?_⟩) (by assumption) ?_
  rotate_left
  · (intro w hSw; (try dsimp only at hSw); go_simp; try with_reducible rfl)
  try simp only [Act.put, List.getElem_toArray, List.getElem_cons_succ, List.getElem_cons_zero, List.setIfInBounds_toArray, List.set_cons_zero, List.set_cons_succ]
  refine wpAnyH_take (i := 5) (v := ?_) rfl (by kernel_rfl) (by kernel_rfl) (by kernel_rfl) (fun _ _ _ h => h) (Or.inl ⟨by rfl, ?_⟩) (by assumption) ?_
  rotate_left
  · (intro w hSw; (try dsimp only at hSw); go_simp; try with_reducible rfl)
  try simp only [Act.put, List.getElem_toArray, List.getElem_cons_succ, List.getElem_cons_zero, List.setIfInBounds_toArray, List.set_cons_zero, List.set_cons_succ]
  refine wpAnyH_take (i := 6) (v := ?_) rfl (by kernel_rfl) (by kernel_rfl) (by kernel_rfl) (fun _ _ _ h => h) (Or.inl ⟨by rfl, ?_⟩) (by assumption) ?_
  rotate_left
  · (intro w hSw; (try dsimp only at hSw); go_simp; try with_reducible rfl)
  try simp only [Act.put, List.getElem_toArray, List.getElem_cons_succ, List.getElem_cons_zero, List.setIfInBounds_toArray, List.set_cons_zero, List.set_cons_succ]
  refine wpAnyH_take (i := 7) (v := ?_) rfl (by kernel_rfl) (by kernel_rfl) (by kernel_rfl) (fun _ _ _ h => h) (Or.inl ⟨by rfl, ?_⟩) (by assumption) ?_
  rotate_left
  · (intro w hSw; (try dsimp only at hSw); go_simp; try with_reducible rfl)
  try simp only [Act.put, List.getElem_toArray, List.getElem_cons_succ, List.getElem_cons_zero, List.setIfInBounds_toArray, List.set_cons_zero, List.set_cons_succ]
  refine wpAnyH_take (i := 8) (v := ?_) rfl (by kernel_rfl) (by kernel_rfl) (by kernel_rfl) (fun _ _ _ h => h) (Or.inl ⟨by rfl, ?_⟩) (by assumption) ?_
  rotate_left
  · (intro w hSw; (try dsimp only at hSw); go_simp; try with_reducible rfl)
  try simp only [Act.put, List.getElem_toArray, List.getElem_cons_succ, List.getElem_cons_zero, List.setIfInBounds_toArray, List.set_cons_zero, List.set_cons_succ]
  refine wpAnyH_take (i := 9) (v := ?_) rfl (by kernel_rfl) (by kernel_rfl) (by kernel_rfl) (fun _ _ _ h => h) (Or.inl ⟨by rfl, ?_⟩) (by assumption) ?_
  rotate_left
  · (intro w hSw; (try dsimp only at hSw); go_simp; try with_reducible rfl)
  try simp only [Act.put, List.getElem_toArray, List.getElem_cons_succ, List.getElem_cons_zero, List.setIfInBounds_toArray, List.set_cons_zero, List.set_cons_succ]
  refine wpAnyH_take (i := 10) (v := ?_) rfl (by kernel_rfl) (by kernel_rfl) (by kernel_rfl) (fun _ _ _ h => h) (Or.inl ⟨by rfl, ?_⟩) (by assumption) ?_
  rotate_left
  · (intro w hSw; (try dsimp only at hSw); go_simp; try with_reducible rfl)
  try simp only [Act.put, List.getElem_toArray, List.getElem_cons_succ, List.getElem_cons_zero, List.setIfInBounds_toArray, List.set_cons_zero, List.set_cons_succ]
  refine wpAnyH_take (i := 11) (v := ?_) rfl (by kernel_rfl) (by kernel_rfl) (by kernel_rfl) (fun _ _ _ h => h) (Or.inl ⟨by rfl, ?_⟩) (by assumption) ?_
  rotate_left
  · (intro w hSw; (try dsimp only at hSw); go_simp; try with_reducible rfl)
  try simp only [Act.put, List.getElem_toArray, List.getElem_cons_succ, List.getElem_cons_zero, List.setIfInBounds_toArray, List.set_cons_zero, List.set_cons_succ]
  refine wpAnyH_ready (rs := [12]) (by kernel_rfl) (by simp) ?_
  refine AllReadyH.cons rfl (fun K hK => ?_) AllReadyH.nil
  go_simp
  (go_at_call 14; refine (spinMay_any _ (by first | exact (HT.out.below bB (Nat.le_refl _)) | exact TabO.below (HT.out.below bB (Nat.le_refl _)) (bl_drewN (Below.refl _ _) _) (Nat.le_refl _) | exact TabO.below (HT.out.below bB (Nat.le_refl _)) (bl_drew (bl_drewN (Below.refl _ _) _)) (Nat.le_refl _)) _ _ _ _ _ _ _).mono ?_; rintro e wN ⟨he, hbN⟩; rw [dA] at he; subst he; have hbW2 : Below (((w.alloc (.cells #[.int .i64 who, .int .i64 ((j : Nat) : Int), .int .i64 call, .int .i64 part, .int .u32 arg, .int .u32 val] 32)).alloc (.cells #[.int .u32 0, .slice none 0 0] 50))).heap.size (((w.alloc (.cells #[.int .i64 who, .int .i64 ((j : Nat) : Int), .int .i64 call, .int .i64 part, .int .u32 arg, .int .u32 val] 32)).alloc (.cells #[.int .u32 0, .slice none 0 0] 50))) wN := ⟨hbN.os, hbN.tape, hbN.output, hbN.size, hbN.block⟩; have hbWN := bB.trans (hbW2.mono bB.size); have bXN := obj_keep bX hbW2; have hMN := (hbWN.block _ hmlt).trans HM.out; have hSN := Seg.below HS.out hbWN)
  go_wp2_with fail
  refine hK.out _ _ (holdM bXN hMN hSN) (fun hHeld2 => ?_)
  clear hK K hHeld
  refine wpAnyH_take (i := 13) (v := ?_) rfl (by kernel_rfl) (by kernel_rfl) (by kernel_rfl) (fun _ _ _ h => h) (Or.inl ⟨by rfl, ?_⟩) (by assumption) ?_
  rotate_left
  · (intro w hSw; (try dsimp only at hSw); go_simp; try with_reducible rfl)
  try simp only [Act.put, List.getElem_toArray, List.getElem_cons_succ, List.getElem_cons_zero, List.setIfInBounds_toArray, List.set_cons_zero, List.set_cons_succ]
  refine wpAnyH_take (i := 14) (v := ?_) rfl (by kernel_rfl) (by kernel_rfl) (by kernel_rfl) (fun _ _ _ h => h) (Or.inl ⟨by rfl, ?_⟩) (by assumption) ?_
  rotate_left
  · (intro w hSw; (try dsimp only at hSw); go_simp; try with_reducible rfl)
  try simp only [Act.put, List.getElem_toArray, List.getElem_cons_succ, List.getElem_cons_zero, List.setIfInBounds_toArray, List.set_cons_zero, List.set_cons_succ]
  refine wpAnyH_take (i := 15) (v := undef) rfl (by kernel_rfl) (by kernel_rfl) (by kernel_rfl) (fun _ _ _ h => h) (Or.inr ⟨by kernel_rfl, rfl⟩) (by assumption) ?_
  try simp only [Act.put, List.getElem_toArray, List.getElem_cons_succ, List.getElem_cons_zero, List.setIfInBounds_toArray, List.set_cons_zero, List.set_cons_succ]
  refine wpAnyH_take (i := 16) (v := undef) rfl (by kernel_rfl) (by kernel_rfl) (by kernel_rfl) (fun _ _ _ h => h) (Or.inr ⟨by kernel_rfl, rfl⟩) (by assumption) ?_
  try simp only [Act.put, List.getElem_toArray, List.getElem_cons_succ, List.getElem_cons_zero, List.setIfInBounds_toArray, List.set_cons_zero, List.set_cons_succ]
  refine wpAnyH_take (i := 17) (v := undef) rfl (by kernel_rfl) (by kernel_rfl) (by kernel_rfl) (fun _ _ _ h => h) (Or.inr ⟨by kernel_rfl, rfl⟩) (by assumption) ?_
  try simp only [Act.put, List.getElem_toArray, List.getElem_cons_succ, List.getElem_cons_zero, List.setIfInBounds_toArray, List.set_cons_zero, List.set_cons_succ]
  refine wpAnyH_take (i := 18) (v := undef) rfl (by kernel_rfl) (by kernel_rfl) (by kernel_rfl) (fun _ _ _ h => h) (Or.inr ⟨by kernel_rfl, rfl⟩) (by assumption) ?_
  try simp only [Act.put, List.getElem_toArray, List.getElem_cons_succ, List.getElem_cons_zero, List.setIfInBounds_toArray, List.set_cons_zero, List.set_cons_succ]
  refine wpAnyH_take (i := 19) (v := undef) rfl (by kernel_rfl) (by kernel_rfl) (by kernel_rfl) (fun _ _ _ h => h) (Or.inr ⟨by kernel_rfl, rfl⟩) (by assumption) ?_
  try simp only [Act.put, List.getElem_toArray, List.getElem_cons_succ, List.getElem_cons_zero, List.setIfInBounds_toArray, List.set_cons_zero, List.set_cons_succ]
  refine wpAnyH_take (i := 20) (v := undef) rfl (by kernel_rfl) (by kernel_rfl) (by kernel_rfl) (fun _ _ _ h => h) (Or.inr ⟨by kernel_rfl, rfl⟩) (by assumption) ?_
  try simp only [Act.put, List.getElem_toArray, List.getElem_cons_succ, List.getElem_cons_zero, List.setIfInBounds_toArray, List.set_cons_zero, List.set_cons_succ]
  refine wpAnyH_take (i := 21) (v := undef) rfl (by kernel_rfl) (by kernel_rfl) (by kernel_rfl) (fun _ _ _ h => h) (Or.inr ⟨by kernel_rfl, rfl⟩) (by assumption) ?_
  try simp only [Act.put, List.getElem_toArray, List.getElem_cons_succ, List.getElem_cons_zero, List.setIfInBounds_toArray, List.set_cons_zero, List.set_cons_succ]
  refine wpAnyH_take (i := 22) (v := undef) rfl (by kernel_rfl) (by kernel_rfl) (by kernel_rfl) (fun _ _ _ h => h) (Or.inr ⟨by kernel_rfl, rfl⟩) (by assumption) ?_
  try simp only [Act.put, List.getElem_toArray, List.getElem_cons_succ, List.getElem_cons_zero, List.setIfInBounds_toArray, List.set_cons_zero, List.set_cons_succ]
  refine wpAnyH_take (i := 23) (v := undef) rfl (by kernel_rfl) (by kernel_rfl) (by kernel_rfl) (fun _ _ _ h => h) (Or.inr ⟨by kernel_rfl, rfl⟩) (by assumption) ?_
  try simp only [Act.put, List.getElem_toArray, List.getElem_cons_succ, List.getElem_cons_zero, List.setIfInBounds_toArray, List.set_cons_zero, List.set_cons_succ]
  refine wpAnyH_take (i := 24) (v := undef) rfl (by kernel_rfl) (by kernel_rfl) (by kernel_rfl) (fun _ _ _ h => h) (Or.inr ⟨by kernel_rfl, rfl⟩) (by assumption) ?_
  try simp only [Act.put, List.getElem_toArray, List.getElem_cons_succ, List.getElem_cons_zero, List.setIfInBounds_toArray, List.set_cons_zero, List.set_cons_succ]
  refine wpAnyH_take (i := 25) (v := undef) rfl (by kernel_rfl) (by kernel_rfl) (by kernel_rfl) (fun _ _ _ h => h) (Or.inr ⟨by kernel_rfl, rfl⟩) (by assumption) ?_
  try simp only [Act.put, List.getElem_toArray, List.getElem_cons_succ, List.getElem_cons_zero, List.setIfInBounds_toArray, List.set_cons_zero, List.set_cons_succ]
  refine wpAnyH_take (i := 26) (v := undef) rfl (by kernel_rfl) (by kernel_rfl) (by kernel_rfl) (fun _ _ _ h => h) (Or.inr ⟨by kernel_rfl, rfl⟩) (by assumption) ?_
  try simp only [Act.put, List.getElem_toArray, List.getElem_cons_succ, List.getElem_cons_zero, List.setIfInBounds_toArray, List.set_cons_zero, List.set_cons_succ]
  refine wpAnyH_take (i := 27) (v := undef) rfl (by kernel_rfl) (by kernel_rfl) (by kernel_rfl) (fun _ _ _ h => h) (Or.inr ⟨by kernel_rfl, rfl⟩) (by assumption) ?_
  try simp only [Act.put, List.getElem_toArray, List.getElem_cons_succ, List.getElem_cons_zero, List.setIfInBounds_toArray, List.set_cons_zero, List.set_cons_succ]
  refine wpAnyH_take (i := 28) (v := undef) rfl (by kernel_rfl) (by kernel_rfl) (by kernel_rfl) (fun _ _ _ h => h) (Or.inr ⟨by kernel_rfl, rfl⟩) (by assumption) ?_
  try simp only [Act.put, List.getElem_toArray, List.getElem_cons_succ, List.getElem_cons_zero, List.setIfInBounds_toArray, List.set_cons_zero, List.set_cons_succ]
  refine wpAnyH_take (i := 29) (v := undef) rfl (by kernel_rfl) (by kernel_rfl) (by kernel_rfl) (fun _ _ _ h => h) (Or.inr ⟨by kernel_rfl, rfl⟩) (by assumption) ?_
  try simp only [Act.put, List.getElem_toArray, List.getElem_cons_succ, List.getElem_cons_zero, List.setIfInBounds_toArray, List.set_cons_zero, List.set_cons_succ]
  refine wpAnyH_take (i := 30) (v := ?_) rfl (by kernel_rfl) (by kernel_rfl) (by kernel_rfl) (fun _ _ _ h => h) (Or.inl ⟨by rfl, ?_⟩) (by assumption) ?_
  rotate_left
  · (intro w hSw; (try dsimp only at hSw); go_simp; try with_reducible rfl)
  try simp only [Act.put, List.getElem_toArray, List.getElem_cons_succ, List.getElem_cons_zero, List.setIfInBounds_toArray, List.set_cons_zero, List.set_cons_succ]
  refine wpAnyH_done (by kernel_rfl) ?_ _
  have bZN := obj_keep bZ hbW2
  have hkx := cells6 bXN
  obtain ⟨xc0, xc1, xc2, xc3, xc4, xc5⟩ := hkx
  have zc0 : wN.cell? ⟨w.heap.size + 1, 0, none⟩ = some (.int .u32 0) := cell_of_row wN (w.heap.size + 1) 0 _ _ _ bZN
  have zc1 : wN.cell? ⟨w.heap.size + 1, 1, none⟩ = some (.slice none 0 0) := cell_of_row wN (w.heap.size + 1) 1 _ _ _ bZN
  have zf0 : wN.frozen? ⟨w.heap.size + 1, 0, none⟩ = false := frozen_of_row _ _ _ _ _ bZN
  have zf1 : wN.frozen? ⟨w.heap.size + 1, 1, none⟩ = false := frozen_of_row _ _ _ _ _ bZN
  have hsN : w.heap.size + 1 < wN.heap.size := (Array.getElem?_eq_some_iff.1 bZN).1
  have hsX : w.heap.size < wN.heap.size := by omega
  have hsg : g < wN.heap.size := hSN.lt
  have oc0 : wN.cell? ⟨g, f0 + j * 38, none⟩ = some (.int .i64 s.o.k) := (hSN.at 0 (by decide)).1.trans s.cells_at.1
  have HSN := Lib.hid hSN
  have HMN := Lib.hid hMN
  have HBN := Lib.hid hbWN
  have HZN := Lib.hid bZN
  clear hSN hMN hbWN bZN bXN hbW2
  go_wp2_with (go_at_call 13; refine (not_any _).mono ?_; rintro e wF ⟨rfl, hbF⟩; have hk := keepC hbF (Nat.le_refl _); have hf := keepF hbF (Nat.le_refl _))
  have bZF := obj_keep HZN.out hbF
  refine bodyPost_ret (results_ans2 rfl _ _ (w.heap.size + 1) _ _ (set2_row bZF _ _) rfl) rfl ?_
  exact MPF.none HS.out HBN.out (hbF.mono (by omega)) (by omega)

set_option maxHeartbeats 2000000 in
theorem doM_put (w : World) (T : TabO w) (mb g f0 n cap j : Nat) (th : Int) (s : St) (who call part arg val : Int) (hM : w.heap[mb]? = some (.cells #[.int .i64 th, .slice (some ⟨g, f0, none⟩) n cap] 56 (0, 0))) (hS : Seg w g (f0 + j * 38) s) (hj : j < n) (hx0 : 0 ≤ arg) (hx1 : arg ≤ 4294967295) (hP : AskP s.o.k s.o.n s.o.a s.o.b call th who) (p0 : call = 4) (p1 : s.o.n ≤ arg) :
    Calls Tryd.prog 9 #[.pointer (some ⟨mb, 0, none⟩), .agg #[.int .i64 who, .int .i64 ((j : Nat) : Int), .int .i64 call, .int .i64 part, .int .u32 arg, .int .u32 val]] w (MPF w g (f0 + j * 38) none s) := by
  have hlt := hS.lt
  have hmlt : mb < w.heap.size := (Array.getElem?_eq_some_iff.1 hM).1
  obtain ⟨bX, bZ, bB, bS⟩ := blk2 w (.cells #[.int .i64 who, .int .i64 ((j : Nat) : Int), .int .i64 call, .int .i64 part, .int .u32 arg, .int .u32 val] 32) (.cells #[.int .u32 0, .slice none 0 0] 50)
  have HS := Lib.hid hS
  have HM := Lib.hid hM
  have HT := Lib.hid T
  have m0 : w.cell? ⟨mb, 0, none⟩ = some (.int .i64 th) := cell_of_row w mb 0 _ _ _ hM
  have m1 : w.cell? ⟨mb, 1, none⟩ = some (.slice (some ⟨g, f0, none⟩) n cap) := cell_of_row w mb 1 _ _ _ hM
  have g1 : decide (((j : Nat) : Int) < 0) = false := decide_eq_false (by omega)
  have g2 : decide (((n : Nat) : Int) ≤ ((j : Nat) : Int)) = false := decide_eq_false (by omega)
  have g3 : decide (n ≤ j) = false := decide_eq_false (by omega)
  have dA : decide (AskP s.o.k s.o.n s.o.a s.o.b call th who) = true := decide_eq_true hP
  have wr0 : IntKind.u64.wrap arg = arg := by rw [IntKind.wrap_u64]; omega
  have wr1 : IntKind.u64.wrap s.o.n = s.o.n := by rw [IntKind.wrap_u64]; obtain ⟨⟨_, _, h⟩, _⟩ := hP; omega
  have q0 : (call == 4) = true := by simp; omega
  have q1 : decide (s.o.n ≤ arg) = true := by exact decide_eq_true (by omega)
  clear hM hS T p0 p1 hP
  go_enter Tryd.func9, Tryd.ntmps9
  go_wp2_with fail
  go_quiet (fail)
  go_wp2_with fail
  go_quiet (fail)
  go_wp2_with fail
  have h0S := holdM bX ((bB.block _ hmlt).trans HM.out) (Seg.below HS.out bB)
  refine wp_region_held_drew (S := fun w' => w'.cell? ⟨w.heap.size, 0, none⟩ = some (.int .i64 who) ∧ w'.cell? ⟨w.heap.size, 2, none⟩ = some (.int .i64 call) ∧ w'.cell? ⟨w.heap.size, 4, none⟩ = some (.int .u32 arg) ∧ w'.cell? ⟨mb, 0, none⟩ = some (.int .i64 th) ∧ w'.cell? ⟨g, f0 + j * 38, none⟩ = some (.int .i64 s.o.k) ∧ w'.cell? ⟨g, f0 + j * 38 + 1, none⟩ = some (.int .i64 s.o.n) ∧ w'.cell? ⟨g, f0 + j * 38 + 2, none⟩ = some (.int .i64 s.o.a) ∧ w'.cell? ⟨g, f0 + j * 38 + 3, none⟩ = some (.int .i64 s.o.b)) (by kernel_rfl) h0S (fun hHeld => ?_)
  refine wpAnyH_take (i := 0) (v := ?_) rfl (by kernel_rfl) (by kernel_rfl) (by kernel_rfl) (fun _ _ _ h => h) (Or.inl ⟨by rfl, ?_⟩) (by assumption) ?_
  rotate_left
  · (intro w hSw; (try dsimp only at hSw); go_simp; try with_reducible rfl)
  try simp only [Act.put, List.getElem_toArray, List.getElem_cons_succ, List.getElem_cons_zero, List.setIfInBounds_toArray, List.set_cons_zero, List.set_cons_succ]
  refine wpAnyH_take (i := 1) (v := ?_) rfl (by kernel_rfl) (by kernel_rfl) (by kernel_rfl) (fun _ _ _ h => h) (Or.inl ⟨by rfl, ?_⟩) (by assumption) ?_
  rotate_left
  · (intro w hSw; (try dsimp only at hSw); go_simp; try with_reducible rfl)
  try simp only [Act.put, List.getElem_toArray, List.getElem_cons_succ, List.getElem_cons_zero, List.setIfInBounds_toArray, List.set_cons_zero, List.set_cons_succ]
  refine wpAnyH_take (i := 2) (v := ?_) rfl (by kernel_rfl) (by kernel_rfl) (by kernel_rfl) (fun _ _ _ h => h) (Or.inl ⟨by rfl, ?_⟩) (by assumption) ?_
  rotate_left
  · (intro w hSw; (try dsimp only at hSw); go_simp; try with_reducible rfl)
  try simp only [Act.put, List.getElem_toArray, List.getElem_cons_succ, List.getElem_cons_zero, List.setIfInBounds_toArray, List.set_cons_zero, List.set_cons_succ]
  refine wpAnyH_take (i := 3) (v := ?_) rfl (by kernel_rfl) (by kernel_rfl) (by kernel_rfl) (fun _ _ _ h => h) (Or.inl ⟨by rfl, ?_⟩) (by assumption) ?_
  rotate_left
  · (intro w hSw; (try dsimp only at hSw); go_simp; try with_reducible rfl)
  try simp only [Act.put, List.getElem_toArray, List.getElem_cons_succ, List.getElem_cons_zero, List.setIfInBounds_toArray, List.set_cons_zero, List.set_cons_succ]
  refine wpAnyH_take (i := 4) (v := ?_) rfl (by kernel_rfl) (by kernel_rfl) (by kernel_rfl) (fun _ _ _ h => h) (Or.inl ⟨by rfl, ?_⟩) (by assumption) ?_
  rotate_left
  · (intro w hSw; (try dsimp only at hSw); go_simp; try with_reducible rfl)
  try simp only [Act.put, List.getElem_toArray, List.getElem_cons_succ, List.getElem_cons_zero, List.setIfInBounds_toArray, List.set_cons_zero, List.set_cons_succ]
  refine wpAnyH_take (i := 5) (v := ?_) rfl (by kernel_rfl) (by kernel_rfl) (by kernel_rfl) (fun _ _ _ h => h) (Or.inl ⟨by rfl, ?_⟩) (by assumption) ?_
  rotate_left
  · (intro w hSw; (try dsimp only at hSw); go_simp; try with_reducible rfl)
  try simp only [Act.put, List.getElem_toArray, List.getElem_cons_succ, List.getElem_cons_zero, List.setIfInBounds_toArray, List.set_cons_zero, List.set_cons_succ]
  refine wpAnyH_take (i := 6) (v := ?_) rfl (by kernel_rfl) (by kernel_rfl) (by kernel_rfl) (fun _ _ _ h => h) (Or.inl ⟨by rfl, ?_⟩) (by assumption) ?_
  rotate_left
  · (intro w hSw; (try dsimp only at hSw); go_simp; try with_reducible rfl)
  try simp only [Act.put, List.getElem_toArray, List.getElem_cons_succ, List.getElem_cons_zero, List.setIfInBounds_toArray, List.set_cons_zero, List.set_cons_succ]
  refine wpAnyH_take (i := 7) (v := ?_) rfl (by kernel_rfl) (by kernel_rfl) (by kernel_rfl) (fun _ _ _ h => h) (Or.inl ⟨by rfl, ?_⟩) (by assumption) ?_
  rotate_left
  · (intro w hSw; (try dsimp only at hSw); go_simp; try with_reducible rfl)
  try simp only [Act.put, List.getElem_toArray, List.getElem_cons_succ, List.getElem_cons_zero, List.setIfInBounds_toArray, List.set_cons_zero, List.set_cons_succ]
  refine wpAnyH_take (i := 8) (v := ?_) rfl (by kernel_rfl) (by kernel_rfl) (by kernel_rfl) (fun _ _ _ h => h) (Or.inl ⟨by rfl, ?_⟩) (by assumption) ?_
  rotate_left
  · (intro w hSw; (try dsimp only at hSw); go_simp; try with_reducible rfl)
  try simp only [Act.put, List.getElem_toArray, List.getElem_cons_succ, List.getElem_cons_zero, List.setIfInBounds_toArray, List.set_cons_zero, List.set_cons_succ]
  refine wpAnyH_take (i := 9) (v := ?_) rfl (by kernel_rfl) (by kernel_rfl) (by kernel_rfl) (fun _ _ _ h => h) (Or.inl ⟨by rfl, ?_⟩) (by assumption) ?_
  rotate_left
  · (intro w hSw; (try dsimp only at hSw); go_simp; try with_reducible rfl)
  try simp only [Act.put, List.getElem_toArray, List.getElem_cons_succ, List.getElem_cons_zero, List.setIfInBounds_toArray, List.set_cons_zero, List.set_cons_succ]
  refine wpAnyH_take (i := 10) (v := ?_) rfl (by kernel_rfl) (by kernel_rfl) (by kernel_rfl) (fun _ _ _ h => h) (Or.inl ⟨by rfl, ?_⟩) (by assumption) ?_
  rotate_left
  · (intro w hSw; (try dsimp only at hSw); go_simp; try with_reducible rfl)
  try simp only [Act.put, List.getElem_toArray, List.getElem_cons_succ, List.getElem_cons_zero, List.setIfInBounds_toArray, List.set_cons_zero, List.set_cons_succ]
  refine wpAnyH_take (i := 11) (v := ?_) rfl (by kernel_rfl) (by kernel_rfl) (by kernel_rfl) (fun _ _ _ h => h) (Or.inl ⟨by rfl, ?_⟩) (by assumption) ?_
  rotate_left
  · (intro w hSw; (try dsimp only at hSw); go_simp; try with_reducible rfl)
  try simp only [Act.put, List.getElem_toArray, List.getElem_cons_succ, List.getElem_cons_zero, List.setIfInBounds_toArray, List.set_cons_zero, List.set_cons_succ]
  refine wpAnyH_ready (rs := [12]) (by kernel_rfl) (by simp) ?_
  refine AllReadyH.cons rfl (fun K hK => ?_) AllReadyH.nil
  go_simp
  (go_at_call 14; refine (spinMay_any _ (by first | exact (HT.out.below bB (Nat.le_refl _)) | exact TabO.below (HT.out.below bB (Nat.le_refl _)) (bl_drewN (Below.refl _ _) _) (Nat.le_refl _) | exact TabO.below (HT.out.below bB (Nat.le_refl _)) (bl_drew (bl_drewN (Below.refl _ _) _)) (Nat.le_refl _)) _ _ _ _ _ _ _).mono ?_; rintro e wN ⟨he, hbN⟩; rw [dA] at he; subst he; have hbW2 : Below (((w.alloc (.cells #[.int .i64 who, .int .i64 ((j : Nat) : Int), .int .i64 call, .int .i64 part, .int .u32 arg, .int .u32 val] 32)).alloc (.cells #[.int .u32 0, .slice none 0 0] 50))).heap.size (((w.alloc (.cells #[.int .i64 who, .int .i64 ((j : Nat) : Int), .int .i64 call, .int .i64 part, .int .u32 arg, .int .u32 val] 32)).alloc (.cells #[.int .u32 0, .slice none 0 0] 50))) wN := ⟨hbN.os, hbN.tape, hbN.output, hbN.size, hbN.block⟩; have hbWN := bB.trans (hbW2.mono bB.size); have bXN := obj_keep bX hbW2; have hMN := (hbWN.block _ hmlt).trans HM.out; have hSN := Seg.below HS.out hbWN)
  go_wp2_with fail
  refine hK.out _ _ (holdM bXN hMN hSN) (fun hHeld2 => ?_)
  clear hK K hHeld
  refine wpAnyH_take (i := 13) (v := ?_) rfl (by kernel_rfl) (by kernel_rfl) (by kernel_rfl) (fun _ _ _ h => h) (Or.inl ⟨by rfl, ?_⟩) (by assumption) ?_
  rotate_left
  · (intro w hSw; (try dsimp only at hSw); go_simp; try with_reducible rfl)
  try simp only [Act.put, List.getElem_toArray, List.getElem_cons_succ, List.getElem_cons_zero, List.setIfInBounds_toArray, List.set_cons_zero, List.set_cons_succ]
  refine wpAnyH_take (i := 14) (v := ?_) rfl (by kernel_rfl) (by kernel_rfl) (by kernel_rfl) (fun _ _ _ h => h) (Or.inl ⟨by rfl, ?_⟩) (by assumption) ?_
  rotate_left
  · (intro w hSw; (try dsimp only at hSw); go_simp; try with_reducible rfl)
  try simp only [Act.put, List.getElem_toArray, List.getElem_cons_succ, List.getElem_cons_zero, List.setIfInBounds_toArray, List.set_cons_zero, List.set_cons_succ]
  refine wpAnyH_take (i := 15) (v := ?_) rfl (by kernel_rfl) (by kernel_rfl) (by kernel_rfl) (fun _ _ _ h => h) (Or.inl ⟨by rfl, ?_⟩) (by assumption) ?_
  rotate_left
  · (intro w hSw; (try dsimp only at hSw); go_simp; try with_reducible rfl)
  try simp only [Act.put, List.getElem_toArray, List.getElem_cons_succ, List.getElem_cons_zero, List.setIfInBounds_toArray, List.set_cons_zero, List.set_cons_succ]
  refine wpAnyH_take (i := 16) (v := ?_) rfl (by kernel_rfl) (by kernel_rfl) (by kernel_rfl) (fun _ _ _ h => h) (Or.inl ⟨by rfl, ?_⟩) (by assumption) ?_
  rotate_left
  · (intro w hSw; (try dsimp only at hSw); go_simp; try with_reducible rfl)
  try simp only [Act.put, List.getElem_toArray, List.getElem_cons_succ, List.getElem_cons_zero, List.setIfInBounds_toArray, List.set_cons_zero, List.set_cons_succ]
  refine wpAnyH_take (i := 17) (v := ?_) rfl (by kernel_rfl) (by kernel_rfl) (by kernel_rfl) (fun _ _ _ h => h) (Or.inl ⟨by rfl, ?_⟩) (by assumption) ?_
  rotate_left
  · (intro w hSw; (try dsimp only at hSw); go_simp; try with_reducible rfl)
  try simp only [Act.put, List.getElem_toArray, List.getElem_cons_succ, List.getElem_cons_zero, List.setIfInBounds_toArray, List.set_cons_zero, List.set_cons_succ]
  refine wpAnyH_take (i := 18) (v := ?_) rfl (by kernel_rfl) (by kernel_rfl) (by kernel_rfl) (fun _ _ _ h => h) (Or.inl ⟨by rfl, ?_⟩) (by assumption) ?_
  rotate_left
  · (intro w hSw; (try dsimp only at hSw); go_simp; try with_reducible rfl)
  try simp only [Act.put, List.getElem_toArray, List.getElem_cons_succ, List.getElem_cons_zero, List.setIfInBounds_toArray, List.set_cons_zero, List.set_cons_succ]
  refine wpAnyH_take (i := 19) (v := ?_) rfl (by kernel_rfl) (by kernel_rfl) (by kernel_rfl) (fun _ _ _ h => h) (Or.inl ⟨by rfl, ?_⟩) (by assumption) ?_
  rotate_left
  · (intro w hSw; (try dsimp only at hSw); go_simp; try with_reducible rfl)
  try simp only [Act.put, List.getElem_toArray, List.getElem_cons_succ, List.getElem_cons_zero, List.setIfInBounds_toArray, List.set_cons_zero, List.set_cons_succ]
  refine wpAnyH_take (i := 20) (v := ?_) rfl (by kernel_rfl) (by kernel_rfl) (by kernel_rfl) (fun _ _ _ h => h) (Or.inl ⟨by rfl, ?_⟩) (by assumption) ?_
  rotate_left
  · (intro w hSw; (try dsimp only at hSw); go_simp; try with_reducible rfl)
  try simp only [Act.put, List.getElem_toArray, List.getElem_cons_succ, List.getElem_cons_zero, List.setIfInBounds_toArray, List.set_cons_zero, List.set_cons_succ]
  refine wpAnyH_take (i := 21) (v := ?_) rfl (by kernel_rfl) (by kernel_rfl) (by kernel_rfl) (fun _ _ _ h => h) (Or.inl ⟨by rfl, ?_⟩) (by assumption) ?_
  rotate_left
  · (intro w hSw; (try dsimp only at hSw); go_simp; try with_reducible rfl)
  try simp only [Act.put, List.getElem_toArray, List.getElem_cons_succ, List.getElem_cons_zero, List.setIfInBounds_toArray, List.set_cons_zero, List.set_cons_succ]
  refine wpAnyH_take (i := 22) (v := ?_) rfl (by kernel_rfl) (by kernel_rfl) (by kernel_rfl) (fun _ _ _ h => h) (Or.inl ⟨by rfl, ?_⟩) (by assumption) ?_
  rotate_left
  · (intro w hSw; (try dsimp only at hSw); go_simp; try with_reducible rfl)
  try simp only [Act.put, List.getElem_toArray, List.getElem_cons_succ, List.getElem_cons_zero, List.setIfInBounds_toArray, List.set_cons_zero, List.set_cons_succ]
  refine wpAnyH_take (i := 23) (v := ?_) rfl (by kernel_rfl) (by kernel_rfl) (by kernel_rfl) (fun _ _ _ h => h) (Or.inl ⟨by rfl, ?_⟩) (by assumption) ?_
  rotate_left
  · (intro w hSw; (try dsimp only at hSw); go_simp; try with_reducible rfl)
  try simp only [Act.put, List.getElem_toArray, List.getElem_cons_succ, List.getElem_cons_zero, List.setIfInBounds_toArray, List.set_cons_zero, List.set_cons_succ]
  refine wpAnyH_take (i := 24) (v := ?_) rfl (by kernel_rfl) (by kernel_rfl) (by kernel_rfl) (fun _ _ _ h => h) (Or.inl ⟨by rfl, ?_⟩) (by assumption) ?_
  rotate_left
  · (intro w hSw; (try dsimp only at hSw); go_simp; try with_reducible rfl)
  try simp only [Act.put, List.getElem_toArray, List.getElem_cons_succ, List.getElem_cons_zero, List.setIfInBounds_toArray, List.set_cons_zero, List.set_cons_succ]
  refine wpAnyH_take (i := 25) (v := ?_) rfl (by kernel_rfl) (by kernel_rfl) (by kernel_rfl) (fun _ _ _ h => h) (Or.inl ⟨by rfl, ?_⟩) (by assumption) ?_
  rotate_left
  · (intro w hSw; (try dsimp only at hSw); go_simp; try with_reducible rfl)
  try simp only [Act.put, List.getElem_toArray, List.getElem_cons_succ, List.getElem_cons_zero, List.setIfInBounds_toArray, List.set_cons_zero, List.set_cons_succ]
  refine wpAnyH_take (i := 26) (v := ?_) rfl (by kernel_rfl) (by kernel_rfl) (by kernel_rfl) (fun _ _ _ h => h) (Or.inl ⟨by rfl, ?_⟩) (by assumption) ?_
  rotate_left
  · (intro w hSw; (try dsimp only at hSw); go_simp; try with_reducible rfl)
  try simp only [Act.put, List.getElem_toArray, List.getElem_cons_succ, List.getElem_cons_zero, List.setIfInBounds_toArray, List.set_cons_zero, List.set_cons_succ]
  refine wpAnyH_take (i := 27) (v := ?_) rfl (by kernel_rfl) (by kernel_rfl) (by kernel_rfl) (fun _ _ _ h => h) (Or.inl ⟨by rfl, ?_⟩) (by assumption) ?_
  rotate_left
  · (intro w hSw; (try dsimp only at hSw); go_simp; try with_reducible rfl)
  try simp only [Act.put, List.getElem_toArray, List.getElem_cons_succ, List.getElem_cons_zero, List.setIfInBounds_toArray, List.set_cons_zero, List.set_cons_succ]
  refine wpAnyH_take (i := 28) (v := ?_) rfl (by kernel_rfl) (by kernel_rfl) (by kernel_rfl) (fun _ _ _ h => h) (Or.inl ⟨by rfl, ?_⟩) (by assumption) ?_
  rotate_left
  · (intro w hSw; (try dsimp only at hSw); go_simp; try with_reducible rfl)
  try simp only [Act.put, List.getElem_toArray, List.getElem_cons_succ, List.getElem_cons_zero, List.setIfInBounds_toArray, List.set_cons_zero, List.set_cons_succ]
  refine wpAnyH_take (i := 29) (v := ?_) rfl (by kernel_rfl) (by kernel_rfl) (by kernel_rfl) (fun _ _ _ h => h) (Or.inl ⟨by rfl, ?_⟩) (by assumption) ?_
  rotate_left
  · (intro w hSw; (try dsimp only at hSw); go_simp; try with_reducible rfl)
  try simp only [Act.put, List.getElem_toArray, List.getElem_cons_succ, List.getElem_cons_zero, List.setIfInBounds_toArray, List.set_cons_zero, List.set_cons_succ]
  refine wpAnyH_take (i := 30) (v := ?_) rfl (by kernel_rfl) (by kernel_rfl) (by kernel_rfl) (fun _ _ _ h => h) (Or.inl ⟨by rfl, ?_⟩) (by assumption) ?_
  rotate_left
  · (intro w hSw; (try dsimp only at hSw); go_simp; try with_reducible rfl)
  try simp only [Act.put, List.getElem_toArray, List.getElem_cons_succ, List.getElem_cons_zero, List.setIfInBounds_toArray, List.set_cons_zero, List.set_cons_succ]
  refine wpAnyH_done (by kernel_rfl) ?_ _
  have bZN := obj_keep bZ hbW2
  have hkx := cells6 bXN
  obtain ⟨xc0, xc1, xc2, xc3, xc4, xc5⟩ := hkx
  have zc0 : wN.cell? ⟨w.heap.size + 1, 0, none⟩ = some (.int .u32 0) := cell_of_row wN (w.heap.size + 1) 0 _ _ _ bZN
  have zc1 : wN.cell? ⟨w.heap.size + 1, 1, none⟩ = some (.slice none 0 0) := cell_of_row wN (w.heap.size + 1) 1 _ _ _ bZN
  have zf0 : wN.frozen? ⟨w.heap.size + 1, 0, none⟩ = false := frozen_of_row _ _ _ _ _ bZN
  have zf1 : wN.frozen? ⟨w.heap.size + 1, 1, none⟩ = false := frozen_of_row _ _ _ _ _ bZN
  have hsN : w.heap.size + 1 < wN.heap.size := (Array.getElem?_eq_some_iff.1 bZN).1
  have hsX : w.heap.size < wN.heap.size := by omega
  have hsg : g < wN.heap.size := hSN.lt
  have oc0 : wN.cell? ⟨g, f0 + j * 38, none⟩ = some (.int .i64 s.o.k) := (hSN.at 0 (by decide)).1.trans s.cells_at.1
  have HSN := Lib.hid hSN
  have HMN := Lib.hid hMN
  have HBN := Lib.hid hbWN
  have HZN := Lib.hid bZN
  clear hSN hMN hbWN bZN bXN hbW2
  go_wp2_with (go_at_call 13; refine (not_any _).mono ?_; rintro e wF ⟨rfl, hbF⟩; have hk := keepC hbF (Nat.le_refl _); have hf := keepF hbF (Nat.le_refl _))
  have bZF := obj_keep HZN.out hbF
  refine bodyPost_ret (results_ans2 rfl _ _ (w.heap.size + 1) _ _ (set2_row bZF _ _) rfl) rfl ?_
  exact MPF.none HS.out HBN.out (hbF.mono (by omega)) (by omega)

set_option maxHeartbeats 2000000 in
theorem doM_part4 (w : World) (T : TabO w) (mb g f0 n cap j : Nat) (th : Int) (s : St) (who call part arg val : Int) (hM : w.heap[mb]? = some (.cells #[.int .i64 th, .slice (some ⟨g, f0, none⟩) n cap] 56 (0, 0))) (hS : Seg w g (f0 + j * 38) s) (hj : j < n) (hx0 : 0 ≤ arg) (hx1 : arg ≤ 4294967295) (hP : AskP s.o.k s.o.n s.o.a s.o.b call th who) (p0 : part ≠ 0) (p1 : s.o.k ≠ 13) (p2 : call = 4) (p3 : arg < s.o.n) :
    Calls Tryd.prog 9 #[.pointer (some ⟨mb, 0, none⟩), .agg #[.int .i64 who, .int .i64 ((j : Nat) : Int), .int .i64 call, .int .i64 part, .int .u32 arg, .int .u32 val]] w (MPF w g (f0 + j * 38) none s) := by
  have hlt := hS.lt
  have hmlt : mb < w.heap.size := (Array.getElem?_eq_some_iff.1 hM).1
  obtain ⟨bX, bZ, bB, bS⟩ := blk2 w (.cells #[.int .i64 who, .int .i64 ((j : Nat) : Int), .int .i64 call, .int .i64 part, .int .u32 arg, .int .u32 val] 32) (.cells #[.int .u32 0, .slice none 0 0] 50)
  have HS := Lib.hid hS
  have HM := Lib.hid hM
  have HT := Lib.hid T
  have m0 : w.cell? ⟨mb, 0, none⟩ = some (.int .i64 th) := cell_of_row w mb 0 _ _ _ hM
  have m1 : w.cell? ⟨mb, 1, none⟩ = some (.slice (some ⟨g, f0, none⟩) n cap) := cell_of_row w mb 1 _ _ _ hM
  have g1 : decide (((j : Nat) : Int) < 0) = false := decide_eq_false (by omega)
  have g2 : decide (((n : Nat) : Int) ≤ ((j : Nat) : Int)) = false := decide_eq_false (by omega)
  have g3 : decide (n ≤ j) = false := decide_eq_false (by omega)
  have dA : decide (AskP s.o.k s.o.n s.o.a s.o.b call th who) = true := decide_eq_true hP
  have wr0 : IntKind.u64.wrap arg = arg := by rw [IntKind.wrap_u64]; omega
  have wr1 : IntKind.u64.wrap s.o.n = s.o.n := by rw [IntKind.wrap_u64]; obtain ⟨⟨_, _, h⟩, _⟩ := hP; omega
  have q0 : (s.o.k != 13) = true := by simp; omega
  have q1 : (part != 0) = true := by simp; omega
  have q2 : (call == 4) = true := by simp; omega
  have q3 : decide (s.o.n ≤ arg) = false := by exact decide_eq_false (by omega)
  clear hM hS T p0 p1 p2 p3 hP
  go_enter Tryd.func9, Tryd.ntmps9
  go_wp2_with fail
  go_quiet (fail)
  go_wp2_with fail
  go_quiet (fail)
  go_wp2_with fail
  have h0S := holdM bX ((bB.block _ hmlt).trans HM.out) (Seg.below HS.out bB)
  refine wp_region_held_drew (S := fun w' => w'.cell? ⟨w.heap.size, 0, none⟩ = some (.int .i64 who) ∧ w'.cell? ⟨w.heap.size, 2, none⟩ = some (.int .i64 call) ∧ w'.cell? ⟨w.heap.size, 4, none⟩ = some (.int .u32 arg) ∧ w'.cell? ⟨mb, 0, none⟩ = some (.int .i64 th) ∧ w'.cell? ⟨g, f0 + j * 38, none⟩ = some (.int .i64 s.o.k) ∧ w'.cell? ⟨g, f0 + j * 38 + 1, none⟩ = some (.int .i64 s.o.n) ∧ w'.cell? ⟨g, f0 + j * 38 + 2, none⟩ = some (.int .i64 s.o.a) ∧ w'.cell? ⟨g, f0 + j * 38 + 3, none⟩ = some (.int .i64 s.o.b)) (by kernel_rfl) h0S (fun hHeld => ?_)
  refine wpAnyH_take (i := 0) (v := ?_) rfl (by kernel_rfl) (by kernel_rfl) (by kernel_rfl) (fun _ _ _ h => h) (Or.inl ⟨by rfl, ?_⟩) (by assumption) ?_
  rotate_left
  · (intro w hSw; (try dsimp only at hSw); go_simp; try with_reducible rfl)
  try simp only [Act.put, List.getElem_toArray, List.getElem_cons_succ, List.getElem_cons_zero, List.setIfInBounds_toArray, List.set_cons_zero, List.set_cons_succ]
  refine wpAnyH_take (i := 1) (v := ?_) rfl (by kernel_rfl) (by kernel_rfl) (by kernel_rfl) (fun _ _ _ h => h) (Or.inl ⟨by rfl, ?_⟩) (by assumption) ?_
  rotate_left
  · (intro w hSw; (try dsimp only at hSw); go_simp; try with_reducible rfl)
  try simp only [Act.put, List.getElem_toArray, List.getElem_cons_succ, List.getElem_cons_zero, List.setIfInBounds_toArray, List.set_cons_zero, List.set_cons_succ]
  refine wpAnyH_take (i := 2) (v := ?_) rfl (by kernel_rfl) (by kernel_rfl) (by kernel_rfl) (fun _ _ _ h => h) (Or.inl ⟨by rfl, ?_⟩) (by assumption) ?_
  rotate_left
  · (intro w hSw; (try dsimp only at hSw); go_simp; try with_reducible rfl)
  try simp only [Act.put, List.getElem_toArray, List.getElem_cons_succ, List.getElem_cons_zero, List.setIfInBounds_toArray, List.set_cons_zero, List.set_cons_succ]
  refine wpAnyH_take (i := 3) (v := ?_) rfl (by kernel_rfl) (by kernel_rfl) (by kernel_rfl) (fun _ _ _ h => h) (Or.inl ⟨by rfl, ?_⟩) (by assumption) ?_
  rotate_left
  · (intro w hSw; (try dsimp only at hSw); go_simp; try with_reducible rfl)
  try simp only [Act.put, List.getElem_toArray, List.getElem_cons_succ, List.getElem_cons_zero, List.setIfInBounds_toArray, List.set_cons_zero, List.set_cons_succ]
  refine wpAnyH_take (i := 4) (v := ?_) rfl (by kernel_rfl) (by kernel_rfl) (by kernel_rfl) (fun _ _ _ h => h) (Or.inl ⟨by rfl, ?_⟩) (by assumption) ?_
  rotate_left
  · (intro w hSw; (try dsimp only at hSw); go_simp; try with_reducible rfl)
  try simp only [Act.put, List.getElem_toArray, List.getElem_cons_succ, List.getElem_cons_zero, List.setIfInBounds_toArray, List.set_cons_zero, List.set_cons_succ]
  refine wpAnyH_take (i := 5) (v := ?_) rfl (by kernel_rfl) (by kernel_rfl) (by kernel_rfl) (fun _ _ _ h => h) (Or.inl ⟨by rfl, ?_⟩) (by assumption) ?_
  rotate_left
  · (intro w hSw; (try dsimp only at hSw); go_simp; try with_reducible rfl)
  try simp only [Act.put, List.getElem_toArray, List.getElem_cons_succ, List.getElem_cons_zero, List.setIfInBounds_toArray, List.set_cons_zero, List.set_cons_succ]
  refine wpAnyH_take (i := 6) (v := ?_) rfl (by kernel_rfl) (by kernel_rfl) (by kernel_rfl) (fun _ _ _ h => h) (Or.inl ⟨by rfl, ?_⟩) (by assumption) ?_
  rotate_left
  · (intro w hSw; (try dsimp only at hSw); go_simp; try with_reducible rfl)
  try simp only [Act.put, List.getElem_toArray, List.getElem_cons_succ, List.getElem_cons_zero, List.setIfInBounds_toArray, List.set_cons_zero, List.set_cons_succ]
  refine wpAnyH_take (i := 7) (v := ?_) rfl (by kernel_rfl) (by kernel_rfl) (by kernel_rfl) (fun _ _ _ h => h) (Or.inl ⟨by rfl, ?_⟩) (by assumption) ?_
  rotate_left
  · (intro w hSw; (try dsimp only at hSw); go_simp; try with_reducible rfl)
  try simp only [Act.put, List.getElem_toArray, List.getElem_cons_succ, List.getElem_cons_zero, List.setIfInBounds_toArray, List.set_cons_zero, List.set_cons_succ]
  refine wpAnyH_take (i := 8) (v := ?_) rfl (by kernel_rfl) (by kernel_rfl) (by kernel_rfl) (fun _ _ _ h => h) (Or.inl ⟨by rfl, ?_⟩) (by assumption) ?_
  rotate_left
  · (intro w hSw; (try dsimp only at hSw); go_simp; try with_reducible rfl)
  try simp only [Act.put, List.getElem_toArray, List.getElem_cons_succ, List.getElem_cons_zero, List.setIfInBounds_toArray, List.set_cons_zero, List.set_cons_succ]
  refine wpAnyH_take (i := 9) (v := ?_) rfl (by kernel_rfl) (by kernel_rfl) (by kernel_rfl) (fun _ _ _ h => h) (Or.inl ⟨by rfl, ?_⟩) (by assumption) ?_
  rotate_left
  · (intro w hSw; (try dsimp only at hSw); go_simp; try with_reducible rfl)
  try simp only [Act.put, List.getElem_toArray, List.getElem_cons_succ, List.getElem_cons_zero, List.setIfInBounds_toArray, List.set_cons_zero, List.set_cons_succ]
  refine wpAnyH_take (i := 10) (v := ?_) rfl (by kernel_rfl) (by kernel_rfl) (by kernel_rfl) (fun _ _ _ h => h) (Or.inl ⟨by rfl, ?_⟩) (by assumption) ?_
  rotate_left
  · (intro w hSw; (try dsimp only at hSw); go_simp; try with_reducible rfl)
  try simp only [Act.put, List.getElem_toArray, List.getElem_cons_succ, List.getElem_cons_zero, List.setIfInBounds_toArray, List.set_cons_zero, List.set_cons_succ]
  refine wpAnyH_take (i := 11) (v := ?_) rfl (by kernel_rfl) (by kernel_rfl) (by kernel_rfl) (fun _ _ _ h => h) (Or.inl ⟨by rfl, ?_⟩) (by assumption) ?_
  rotate_left
  · (intro w hSw; (try dsimp only at hSw); go_simp; try with_reducible rfl)
  try simp only [Act.put, List.getElem_toArray, List.getElem_cons_succ, List.getElem_cons_zero, List.setIfInBounds_toArray, List.set_cons_zero, List.set_cons_succ]
  refine wpAnyH_ready (rs := [12]) (by kernel_rfl) (by simp) ?_
  refine AllReadyH.cons rfl (fun K hK => ?_) AllReadyH.nil
  go_simp
  (go_at_call 14; refine (spinMay_any _ (by first | exact (HT.out.below bB (Nat.le_refl _)) | exact TabO.below (HT.out.below bB (Nat.le_refl _)) (bl_drewN (Below.refl _ _) _) (Nat.le_refl _) | exact TabO.below (HT.out.below bB (Nat.le_refl _)) (bl_drew (bl_drewN (Below.refl _ _) _)) (Nat.le_refl _)) _ _ _ _ _ _ _).mono ?_; rintro e wN ⟨he, hbN⟩; rw [dA] at he; subst he; have hbW2 : Below (((w.alloc (.cells #[.int .i64 who, .int .i64 ((j : Nat) : Int), .int .i64 call, .int .i64 part, .int .u32 arg, .int .u32 val] 32)).alloc (.cells #[.int .u32 0, .slice none 0 0] 50))).heap.size (((w.alloc (.cells #[.int .i64 who, .int .i64 ((j : Nat) : Int), .int .i64 call, .int .i64 part, .int .u32 arg, .int .u32 val] 32)).alloc (.cells #[.int .u32 0, .slice none 0 0] 50))) wN := ⟨hbN.os, hbN.tape, hbN.output, hbN.size, hbN.block⟩; have hbWN := bB.trans (hbW2.mono bB.size); have bXN := obj_keep bX hbW2; have hMN := (hbWN.block _ hmlt).trans HM.out; have hSN := Seg.below HS.out hbWN)
  go_wp2_with fail
  refine hK.out _ _ (holdM bXN hMN hSN) (fun hHeld2 => ?_)
  clear hK K hHeld
  refine wpAnyH_take (i := 13) (v := ?_) rfl (by kernel_rfl) (by kernel_rfl) (by kernel_rfl) (fun _ _ _ h => h) (Or.inl ⟨by rfl, ?_⟩) (by assumption) ?_
  rotate_left
  · (intro w hSw; (try dsimp only at hSw); go_simp; try with_reducible rfl)
  try simp only [Act.put, List.getElem_toArray, List.getElem_cons_succ, List.getElem_cons_zero, List.setIfInBounds_toArray, List.set_cons_zero, List.set_cons_succ]
  refine wpAnyH_take (i := 14) (v := ?_) rfl (by kernel_rfl) (by kernel_rfl) (by kernel_rfl) (fun _ _ _ h => h) (Or.inl ⟨by rfl, ?_⟩) (by assumption) ?_
  rotate_left
  · (intro w hSw; (try dsimp only at hSw); go_simp; try with_reducible rfl)
  try simp only [Act.put, List.getElem_toArray, List.getElem_cons_succ, List.getElem_cons_zero, List.setIfInBounds_toArray, List.set_cons_zero, List.set_cons_succ]
  refine wpAnyH_take (i := 15) (v := ?_) rfl (by kernel_rfl) (by kernel_rfl) (by kernel_rfl) (fun _ _ _ h => h) (Or.inl ⟨by rfl, ?_⟩) (by assumption) ?_
  rotate_left
  · (intro w hSw; (try dsimp only at hSw); go_simp; try with_reducible rfl)
  try simp only [Act.put, List.getElem_toArray, List.getElem_cons_succ, List.getElem_cons_zero, List.setIfInBounds_toArray, List.set_cons_zero, List.set_cons_succ]
  refine wpAnyH_take (i := 16) (v := ?_) rfl (by kernel_rfl) (by kernel_rfl) (by kernel_rfl) (fun _ _ _ h => h) (Or.inl ⟨by rfl, ?_⟩) (by assumption) ?_
  rotate_left
  · (intro w hSw; (try dsimp only at hSw); go_simp; try with_reducible rfl)
  try simp only [Act.put, List.getElem_toArray, List.getElem_cons_succ, List.getElem_cons_zero, List.setIfInBounds_toArray, List.set_cons_zero, List.set_cons_succ]
  refine wpAnyH_take (i := 17) (v := ?_) rfl (by kernel_rfl) (by kernel_rfl) (by kernel_rfl) (fun _ _ _ h => h) (Or.inl ⟨by rfl, ?_⟩) (by assumption) ?_
  rotate_left
  · (intro w hSw; (try dsimp only at hSw); go_simp; try with_reducible rfl)
  try simp only [Act.put, List.getElem_toArray, List.getElem_cons_succ, List.getElem_cons_zero, List.setIfInBounds_toArray, List.set_cons_zero, List.set_cons_succ]
  refine wpAnyH_take (i := 18) (v := ?_) rfl (by kernel_rfl) (by kernel_rfl) (by kernel_rfl) (fun _ _ _ h => h) (Or.inl ⟨by rfl, ?_⟩) (by assumption) ?_
  rotate_left
  · (intro w hSw; (try dsimp only at hSw); go_simp; try with_reducible rfl)
  try simp only [Act.put, List.getElem_toArray, List.getElem_cons_succ, List.getElem_cons_zero, List.setIfInBounds_toArray, List.set_cons_zero, List.set_cons_succ]
  refine wpAnyH_take (i := 19) (v := ?_) rfl (by kernel_rfl) (by kernel_rfl) (by kernel_rfl) (fun _ _ _ h => h) (Or.inl ⟨by rfl, ?_⟩) (by assumption) ?_
  rotate_left
  · (intro w hSw; (try dsimp only at hSw); go_simp; try with_reducible rfl)
  try simp only [Act.put, List.getElem_toArray, List.getElem_cons_succ, List.getElem_cons_zero, List.setIfInBounds_toArray, List.set_cons_zero, List.set_cons_succ]
  refine wpAnyH_take (i := 20) (v := ?_) rfl (by kernel_rfl) (by kernel_rfl) (by kernel_rfl) (fun _ _ _ h => h) (Or.inl ⟨by rfl, ?_⟩) (by assumption) ?_
  rotate_left
  · (intro w hSw; (try dsimp only at hSw); go_simp; try with_reducible rfl)
  try simp only [Act.put, List.getElem_toArray, List.getElem_cons_succ, List.getElem_cons_zero, List.setIfInBounds_toArray, List.set_cons_zero, List.set_cons_succ]
  refine wpAnyH_take (i := 21) (v := ?_) rfl (by kernel_rfl) (by kernel_rfl) (by kernel_rfl) (fun _ _ _ h => h) (Or.inl ⟨by rfl, ?_⟩) (by assumption) ?_
  rotate_left
  · (intro w hSw; (try dsimp only at hSw); go_simp; try with_reducible rfl)
  try simp only [Act.put, List.getElem_toArray, List.getElem_cons_succ, List.getElem_cons_zero, List.setIfInBounds_toArray, List.set_cons_zero, List.set_cons_succ]
  refine wpAnyH_take (i := 22) (v := ?_) rfl (by kernel_rfl) (by kernel_rfl) (by kernel_rfl) (fun _ _ _ h => h) (Or.inl ⟨by rfl, ?_⟩) (by assumption) ?_
  rotate_left
  · (intro w hSw; (try dsimp only at hSw); go_simp; try with_reducible rfl)
  try simp only [Act.put, List.getElem_toArray, List.getElem_cons_succ, List.getElem_cons_zero, List.setIfInBounds_toArray, List.set_cons_zero, List.set_cons_succ]
  refine wpAnyH_take (i := 23) (v := ?_) rfl (by kernel_rfl) (by kernel_rfl) (by kernel_rfl) (fun _ _ _ h => h) (Or.inl ⟨by rfl, ?_⟩) (by assumption) ?_
  rotate_left
  · (intro w hSw; (try dsimp only at hSw); go_simp; try with_reducible rfl)
  try simp only [Act.put, List.getElem_toArray, List.getElem_cons_succ, List.getElem_cons_zero, List.setIfInBounds_toArray, List.set_cons_zero, List.set_cons_succ]
  refine wpAnyH_take (i := 24) (v := ?_) rfl (by kernel_rfl) (by kernel_rfl) (by kernel_rfl) (fun _ _ _ h => h) (Or.inl ⟨by rfl, ?_⟩) (by assumption) ?_
  rotate_left
  · (intro w hSw; (try dsimp only at hSw); go_simp; try with_reducible rfl)
  try simp only [Act.put, List.getElem_toArray, List.getElem_cons_succ, List.getElem_cons_zero, List.setIfInBounds_toArray, List.set_cons_zero, List.set_cons_succ]
  refine wpAnyH_take (i := 25) (v := ?_) rfl (by kernel_rfl) (by kernel_rfl) (by kernel_rfl) (fun _ _ _ h => h) (Or.inl ⟨by rfl, ?_⟩) (by assumption) ?_
  rotate_left
  · (intro w hSw; (try dsimp only at hSw); go_simp; try with_reducible rfl)
  try simp only [Act.put, List.getElem_toArray, List.getElem_cons_succ, List.getElem_cons_zero, List.setIfInBounds_toArray, List.set_cons_zero, List.set_cons_succ]
  refine wpAnyH_take (i := 26) (v := ?_) rfl (by kernel_rfl) (by kernel_rfl) (by kernel_rfl) (fun _ _ _ h => h) (Or.inl ⟨by rfl, ?_⟩) (by assumption) ?_
  rotate_left
  · (intro w hSw; (try dsimp only at hSw); go_simp; try with_reducible rfl)
  try simp only [Act.put, List.getElem_toArray, List.getElem_cons_succ, List.getElem_cons_zero, List.setIfInBounds_toArray, List.set_cons_zero, List.set_cons_succ]
  refine wpAnyH_take (i := 27) (v := ?_) rfl (by kernel_rfl) (by kernel_rfl) (by kernel_rfl) (fun _ _ _ h => h) (Or.inl ⟨by rfl, ?_⟩) (by assumption) ?_
  rotate_left
  · (intro w hSw; (try dsimp only at hSw); go_simp; try with_reducible rfl)
  try simp only [Act.put, List.getElem_toArray, List.getElem_cons_succ, List.getElem_cons_zero, List.setIfInBounds_toArray, List.set_cons_zero, List.set_cons_succ]
  refine wpAnyH_take (i := 28) (v := ?_) rfl (by kernel_rfl) (by kernel_rfl) (by kernel_rfl) (fun _ _ _ h => h) (Or.inl ⟨by rfl, ?_⟩) (by assumption) ?_
  rotate_left
  · (intro w hSw; (try dsimp only at hSw); go_simp; try with_reducible rfl)
  try simp only [Act.put, List.getElem_toArray, List.getElem_cons_succ, List.getElem_cons_zero, List.setIfInBounds_toArray, List.set_cons_zero, List.set_cons_succ]
  refine wpAnyH_take (i := 29) (v := ?_) rfl (by kernel_rfl) (by kernel_rfl) (by kernel_rfl) (fun _ _ _ h => h) (Or.inl ⟨by rfl, ?_⟩) (by assumption) ?_
  rotate_left
  · (intro w hSw; (try dsimp only at hSw); go_simp; try with_reducible rfl)
  try simp only [Act.put, List.getElem_toArray, List.getElem_cons_succ, List.getElem_cons_zero, List.setIfInBounds_toArray, List.set_cons_zero, List.set_cons_succ]
  refine wpAnyH_take (i := 30) (v := ?_) rfl (by kernel_rfl) (by kernel_rfl) (by kernel_rfl) (fun _ _ _ h => h) (Or.inl ⟨by rfl, ?_⟩) (by assumption) ?_
  rotate_left
  · (intro w hSw; (try dsimp only at hSw); go_simp; try with_reducible rfl)
  try simp only [Act.put, List.getElem_toArray, List.getElem_cons_succ, List.getElem_cons_zero, List.setIfInBounds_toArray, List.set_cons_zero, List.set_cons_succ]
  refine wpAnyH_done (by kernel_rfl) ?_ _
  have bZN := obj_keep bZ hbW2
  have hkx := cells6 bXN
  obtain ⟨xc0, xc1, xc2, xc3, xc4, xc5⟩ := hkx
  have zc0 : wN.cell? ⟨w.heap.size + 1, 0, none⟩ = some (.int .u32 0) := cell_of_row wN (w.heap.size + 1) 0 _ _ _ bZN
  have zc1 : wN.cell? ⟨w.heap.size + 1, 1, none⟩ = some (.slice none 0 0) := cell_of_row wN (w.heap.size + 1) 1 _ _ _ bZN
  have zf0 : wN.frozen? ⟨w.heap.size + 1, 0, none⟩ = false := frozen_of_row _ _ _ _ _ bZN
  have zf1 : wN.frozen? ⟨w.heap.size + 1, 1, none⟩ = false := frozen_of_row _ _ _ _ _ bZN
  have hsN : w.heap.size + 1 < wN.heap.size := (Array.getElem?_eq_some_iff.1 bZN).1
  have hsX : w.heap.size < wN.heap.size := by omega
  have hsg : g < wN.heap.size := hSN.lt
  have oc0 : wN.cell? ⟨g, f0 + j * 38, none⟩ = some (.int .i64 s.o.k) := (hSN.at 0 (by decide)).1.trans s.cells_at.1
  have HSN := Lib.hid hSN
  have HMN := Lib.hid hMN
  have HBN := Lib.hid hbWN
  have HZN := Lib.hid bZN
  clear hSN hMN hbWN bZN bXN hbW2
  go_wp2_with (go_at_call 13; refine (not_any _).mono ?_; rintro e wF ⟨rfl, hbF⟩; have hk := keepC hbF (Nat.le_refl _); have hf := keepF hbF (Nat.le_refl _))
  have bZF := obj_keep HZN.out hbF
  refine bodyPost_ret (results_ans2 rfl _ _ (w.heap.size + 1) _ _ (set2_row bZF _ _) rfl) rfl ?_
  exact MPF.none HS.out HBN.out (hbF.mono (by omega)) (by omega)

set_option maxHeartbeats 2000000 in
theorem doM_partn (w : World) (T : TabO w) (mb g f0 n cap j : Nat) (th : Int) (s : St) (who call part arg val : Int) (hM : w.heap[mb]? = some (.cells #[.int .i64 th, .slice (some ⟨g, f0, none⟩) n cap] 56 (0, 0))) (hS : Seg w g (f0 + j * 38) s) (hj : j < n) (hx0 : 0 ≤ arg) (hx1 : arg ≤ 4294967295) (hP : AskP s.o.k s.o.n s.o.a s.o.b call th who) (p0 : part ≠ 0) (p1 : s.o.k ≠ 13) (p2 : call ≠ 4) :
    Calls Tryd.prog 9 #[.pointer (some ⟨mb, 0, none⟩), .agg #[.int .i64 who, .int .i64 ((j : Nat) : Int), .int .i64 call, .int .i64 part, .int .u32 arg, .int .u32 val]] w (MPF w g (f0 + j * 38) none s) := by
  have hlt := hS.lt
  have hmlt : mb < w.heap.size := (Array.getElem?_eq_some_iff.1 hM).1
  obtain ⟨bX, bZ, bB, bS⟩ := blk2 w (.cells #[.int .i64 who, .int .i64 ((j : Nat) : Int), .int .i64 call, .int .i64 part, .int .u32 arg, .int .u32 val] 32) (.cells #[.int .u32 0, .slice none 0 0] 50)
  have HS := Lib.hid hS
  have HM := Lib.hid hM
  have HT := Lib.hid T
  have m0 : w.cell? ⟨mb, 0, none⟩ = some (.int .i64 th) := cell_of_row w mb 0 _ _ _ hM
  have m1 : w.cell? ⟨mb, 1, none⟩ = some (.slice (some ⟨g, f0, none⟩) n cap) := cell_of_row w mb 1 _ _ _ hM
  have g1 : decide (((j : Nat) : Int) < 0) = false := decide_eq_false (by omega)
  have g2 : decide (((n : Nat) : Int) ≤ ((j : Nat) : Int)) = false := decide_eq_false (by omega)
  have g3 : decide (n ≤ j) = false := decide_eq_false (by omega)
  have dA : decide (AskP s.o.k s.o.n s.o.a s.o.b call th who) = true := decide_eq_true hP
  have wr0 : IntKind.u64.wrap arg = arg := by rw [IntKind.wrap_u64]; omega
  have wr1 : IntKind.u64.wrap s.o.n = s.o.n := by rw [IntKind.wrap_u64]; obtain ⟨⟨_, _, h⟩, _⟩ := hP; omega
  have q0 : (s.o.k != 13) = true := by simp; omega
  have q1 : (part != 0) = true := by simp; omega
  have q2 : (call == 4) = false := by simp; omega
  clear hM hS T p0 p1 p2 hP
  go_enter Tryd.func9, Tryd.ntmps9
  go_wp2_with fail
  go_quiet (fail)
  go_wp2_with fail
  go_quiet (fail)
  go_wp2_with fail
  have h0S := holdM bX ((bB.block _ hmlt).trans HM.out) (Seg.below HS.out bB)
  refine wp_region_held_drew (S := fun w' => w'.cell? ⟨w.heap.size, 0, none⟩ = some (.int .i64 who) ∧ w'.cell? ⟨w.heap.size, 2, none⟩ = some (.int .i64 call) ∧ w'.cell? ⟨w.heap.size, 4, none⟩ = some (.int .u32 arg) ∧ w'.cell? ⟨mb, 0, none⟩ = some (.int .i64 th) ∧ w'.cell? ⟨g, f0 + j * 38, none⟩ = some (.int .i64 s.o.k) ∧ w'.cell? ⟨g, f0 + j * 38 + 1, none⟩ = some (.int .i64 s.o.n) ∧ w'.cell? ⟨g, f0 + j * 38 + 2, none⟩ = some (.int .i64 s.o.a) ∧ w'.cell? ⟨g, f0 + j * 38 + 3, none⟩ = some (.int .i64 s.o.b)) (by kernel_rfl) h0S (fun hHeld => ?_)
  refine wpAnyH_take (i := 0) (v := ?_) rfl (by kernel_rfl) (by kernel_rfl) (by kernel_rfl) (fun _ _ _ h => h) (Or.inl ⟨by rfl, ?_⟩) (by assumption) ?_
  rotate_left
  · (intro w hSw; (try dsimp only at hSw); go_simp; try with_reducible rfl)
  try simp only [Act.put, List.getElem_toArray, List.getElem_cons_succ, List.getElem_cons_zero, List.setIfInBounds_toArray, List.set_cons_zero, List.set_cons_succ]
  refine wpAnyH_take (i := 1) (v := ?_) rfl (by kernel_rfl) (by kernel_rfl) (by kernel_rfl) (fun _ _ _ h => h) (Or.inl ⟨by rfl, ?_⟩) (by assumption) ?_
  rotate_left
  · (intro w hSw; (try dsimp only at hSw); go_simp; try with_reducible rfl)
  try simp only [Act.put, List.getElem_toArray, List.getElem_cons_succ, List.getElem_cons_zero, List.setIfInBounds_toArray, List.set_cons_zero, List.set_cons_succ]
  refine wpAnyH_take (i := 2) (v := ?_) rfl (by kernel_rfl) (by kernel_rfl) (by kernel_rfl) (fun _ _ _ h => h) (Or.inl ⟨by rfl, ?_⟩) (by assumption) ?_
  rotate_left
  · (intro w hSw; (try dsimp only at hSw); go_simp; try with_reducible rfl)
  try simp only [Act.put, List.getElem_toArray, List.getElem_cons_succ, List.getElem_cons_zero, List.setIfInBounds_toArray, List.set_cons_zero, List.set_cons_succ]
  refine wpAnyH_take (i := 3) (v := ?_) rfl (by kernel_rfl) (by kernel_rfl) (by kernel_rfl) (fun _ _ _ h => h) (Or.inl ⟨by rfl, ?_⟩) (by assumption) ?_
  rotate_left
  · (intro w hSw; (try dsimp only at hSw); go_simp; try with_reducible rfl)
  try simp only [Act.put, List.getElem_toArray, List.getElem_cons_succ, List.getElem_cons_zero, List.setIfInBounds_toArray, List.set_cons_zero, List.set_cons_succ]
  refine wpAnyH_take (i := 4) (v := ?_) rfl (by kernel_rfl) (by kernel_rfl) (by kernel_rfl) (fun _ _ _ h => h) (Or.inl ⟨by rfl, ?_⟩) (by assumption) ?_
  rotate_left
  · (intro w hSw; (try dsimp only at hSw); go_simp; try with_reducible rfl)
  try simp only [Act.put, List.getElem_toArray, List.getElem_cons_succ, List.getElem_cons_zero, List.setIfInBounds_toArray, List.set_cons_zero, List.set_cons_succ]
  refine wpAnyH_take (i := 5) (v := ?_) rfl (by kernel_rfl) (by kernel_rfl) (by kernel_rfl) (fun _ _ _ h => h) (Or.inl ⟨by rfl, ?_⟩) (by assumption) ?_
  rotate_left
  · (intro w hSw; (try dsimp only at hSw); go_simp; try with_reducible rfl)
  try simp only [Act.put, List.getElem_toArray, List.getElem_cons_succ, List.getElem_cons_zero, List.setIfInBounds_toArray, List.set_cons_zero, List.set_cons_succ]
  refine wpAnyH_take (i := 6) (v := ?_) rfl (by kernel_rfl) (by kernel_rfl) (by kernel_rfl) (fun _ _ _ h => h) (Or.inl ⟨by rfl, ?_⟩) (by assumption) ?_
  rotate_left
  · (intro w hSw; (try dsimp only at hSw); go_simp; try with_reducible rfl)
  try simp only [Act.put, List.getElem_toArray, List.getElem_cons_succ, List.getElem_cons_zero, List.setIfInBounds_toArray, List.set_cons_zero, List.set_cons_succ]
  refine wpAnyH_take (i := 7) (v := ?_) rfl (by kernel_rfl) (by kernel_rfl) (by kernel_rfl) (fun _ _ _ h => h) (Or.inl ⟨by rfl, ?_⟩) (by assumption) ?_
  rotate_left
  · (intro w hSw; (try dsimp only at hSw); go_simp; try with_reducible rfl)
  try simp only [Act.put, List.getElem_toArray, List.getElem_cons_succ, List.getElem_cons_zero, List.setIfInBounds_toArray, List.set_cons_zero, List.set_cons_succ]
  refine wpAnyH_take (i := 8) (v := ?_) rfl (by kernel_rfl) (by kernel_rfl) (by kernel_rfl) (fun _ _ _ h => h) (Or.inl ⟨by rfl, ?_⟩) (by assumption) ?_
  rotate_left
  · (intro w hSw; (try dsimp only at hSw); go_simp; try with_reducible rfl)
  try simp only [Act.put, List.getElem_toArray, List.getElem_cons_succ, List.getElem_cons_zero, List.setIfInBounds_toArray, List.set_cons_zero, List.set_cons_succ]
  refine wpAnyH_take (i := 9) (v := ?_) rfl (by kernel_rfl) (by kernel_rfl) (by kernel_rfl) (fun _ _ _ h => h) (Or.inl ⟨by rfl, ?_⟩) (by assumption) ?_
  rotate_left
  · (intro w hSw; (try dsimp only at hSw); go_simp; try with_reducible rfl)
  try simp only [Act.put, List.getElem_toArray, List.getElem_cons_succ, List.getElem_cons_zero, List.setIfInBounds_toArray, List.set_cons_zero, List.set_cons_succ]
  refine wpAnyH_take (i := 10) (v := ?_) rfl (by kernel_rfl) (by kernel_rfl) (by kernel_rfl) (fun _ _ _ h => h) (Or.inl ⟨by rfl, ?_⟩) (by assumption) ?_
  rotate_left
  · (intro w hSw; (try dsimp only at hSw); go_simp; try with_reducible rfl)
  try simp only [Act.put, List.getElem_toArray, List.getElem_cons_succ, List.getElem_cons_zero, List.setIfInBounds_toArray, List.set_cons_zero, List.set_cons_succ]
  refine wpAnyH_take (i := 11) (v := ?_) rfl (by kernel_rfl) (by kernel_rfl) (by kernel_rfl) (fun _ _ _ h => h) (Or.inl ⟨by rfl, ?_⟩) (by assumption) ?_
  rotate_left
  · (intro w hSw; (try dsimp only at hSw); go_simp; try with_reducible rfl)
  try simp only [Act.put, List.getElem_toArray, List.getElem_cons_succ, List.getElem_cons_zero, List.setIfInBounds_toArray, List.set_cons_zero, List.set_cons_succ]
  refine wpAnyH_ready (rs := [12]) (by kernel_rfl) (by simp) ?_
  refine AllReadyH.cons rfl (fun K hK => ?_) AllReadyH.nil
  go_simp
  (go_at_call 14; refine (spinMay_any _ (by first | exact (HT.out.below bB (Nat.le_refl _)) | exact TabO.below (HT.out.below bB (Nat.le_refl _)) (bl_drewN (Below.refl _ _) _) (Nat.le_refl _) | exact TabO.below (HT.out.below bB (Nat.le_refl _)) (bl_drew (bl_drewN (Below.refl _ _) _)) (Nat.le_refl _)) _ _ _ _ _ _ _).mono ?_; rintro e wN ⟨he, hbN⟩; rw [dA] at he; subst he; have hbW2 : Below (((w.alloc (.cells #[.int .i64 who, .int .i64 ((j : Nat) : Int), .int .i64 call, .int .i64 part, .int .u32 arg, .int .u32 val] 32)).alloc (.cells #[.int .u32 0, .slice none 0 0] 50))).heap.size (((w.alloc (.cells #[.int .i64 who, .int .i64 ((j : Nat) : Int), .int .i64 call, .int .i64 part, .int .u32 arg, .int .u32 val] 32)).alloc (.cells #[.int .u32 0, .slice none 0 0] 50))) wN := ⟨hbN.os, hbN.tape, hbN.output, hbN.size, hbN.block⟩; have hbWN := bB.trans (hbW2.mono bB.size); have bXN := obj_keep bX hbW2; have hMN := (hbWN.block _ hmlt).trans HM.out; have hSN := Seg.below HS.out hbWN)
  go_wp2_with fail
  refine hK.out _ _ (holdM bXN hMN hSN) (fun hHeld2 => ?_)
  clear hK K hHeld
  refine wpAnyH_take (i := 13) (v := ?_) rfl (by kernel_rfl) (by kernel_rfl) (by kernel_rfl) (fun _ _ _ h => h) (Or.inl ⟨by rfl, ?_⟩) (by assumption) ?_
  rotate_left
  · (intro w hSw; (try dsimp only at hSw); go_simp; try with_reducible rfl)
  try simp only [Act.put, List.getElem_toArray, List.getElem_cons_succ, List.getElem_cons_zero, List.setIfInBounds_toArray, List.set_cons_zero, List.set_cons_succ]
  refine wpAnyH_take (i := 14) (v := ?_) rfl (by kernel_rfl) (by kernel_rfl) (by kernel_rfl) (fun _ _ _ h => h) (Or.inl ⟨by rfl, ?_⟩) (by assumption) ?_
  rotate_left
  · (intro w hSw; (try dsimp only at hSw); go_simp; try with_reducible rfl)
  try simp only [Act.put, List.getElem_toArray, List.getElem_cons_succ, List.getElem_cons_zero, List.setIfInBounds_toArray, List.set_cons_zero, List.set_cons_succ]
  refine wpAnyH_take (i := 15) (v := ?_) rfl (by kernel_rfl) (by kernel_rfl) (by kernel_rfl) (fun _ _ _ h => h) (Or.inl ⟨by rfl, ?_⟩) (by assumption) ?_
  rotate_left
  · (intro w hSw; (try dsimp only at hSw); go_simp; try with_reducible rfl)
  try simp only [Act.put, List.getElem_toArray, List.getElem_cons_succ, List.getElem_cons_zero, List.setIfInBounds_toArray, List.set_cons_zero, List.set_cons_succ]
  refine wpAnyH_take (i := 16) (v := ?_) rfl (by kernel_rfl) (by kernel_rfl) (by kernel_rfl) (fun _ _ _ h => h) (Or.inl ⟨by rfl, ?_⟩) (by assumption) ?_
  rotate_left
  · (intro w hSw; (try dsimp only at hSw); go_simp; try with_reducible rfl)
  try simp only [Act.put, List.getElem_toArray, List.getElem_cons_succ, List.getElem_cons_zero, List.setIfInBounds_toArray, List.set_cons_zero, List.set_cons_succ]
  refine wpAnyH_take (i := 17) (v := ?_) rfl (by kernel_rfl) (by kernel_rfl) (by kernel_rfl) (fun _ _ _ h => h) (Or.inl ⟨by rfl, ?_⟩) (by assumption) ?_
  rotate_left
  · (intro w hSw; (try dsimp only at hSw); go_simp; try with_reducible rfl)
  try simp only [Act.put, List.getElem_toArray, List.getElem_cons_succ, List.getElem_cons_zero, List.setIfInBounds_toArray, List.set_cons_zero, List.set_cons_succ]
  refine wpAnyH_take (i := 18) (v := ?_) rfl (by kernel_rfl) (by kernel_rfl) (by kernel_rfl) (fun _ _ _ h => h) (Or.inl ⟨by rfl, ?_⟩) (by assumption) ?_
  rotate_left
  · (intro w hSw; (try dsimp only at hSw); go_simp; try with_reducible rfl)
  try simp only [Act.put, List.getElem_toArray, List.getElem_cons_succ, List.getElem_cons_zero, List.setIfInBounds_toArray, List.set_cons_zero, List.set_cons_succ]
  refine wpAnyH_take (i := 19) (v := undef) rfl (by kernel_rfl) (by kernel_rfl) (by kernel_rfl) (fun _ _ _ h => h) (Or.inr ⟨by kernel_rfl, rfl⟩) (by assumption) ?_
  try simp only [Act.put, List.getElem_toArray, List.getElem_cons_succ, List.getElem_cons_zero, List.setIfInBounds_toArray, List.set_cons_zero, List.set_cons_succ]
  refine wpAnyH_take (i := 20) (v := undef) rfl (by kernel_rfl) (by kernel_rfl) (by kernel_rfl) (fun _ _ _ h => h) (Or.inr ⟨by kernel_rfl, rfl⟩) (by assumption) ?_
  try simp only [Act.put, List.getElem_toArray, List.getElem_cons_succ, List.getElem_cons_zero, List.setIfInBounds_toArray, List.set_cons_zero, List.set_cons_succ]
  refine wpAnyH_take (i := 21) (v := undef) rfl (by kernel_rfl) (by kernel_rfl) (by kernel_rfl) (fun _ _ _ h => h) (Or.inr ⟨by kernel_rfl, rfl⟩) (by assumption) ?_
  try simp only [Act.put, List.getElem_toArray, List.getElem_cons_succ, List.getElem_cons_zero, List.setIfInBounds_toArray, List.set_cons_zero, List.set_cons_succ]
  refine wpAnyH_take (i := 22) (v := undef) rfl (by kernel_rfl) (by kernel_rfl) (by kernel_rfl) (fun _ _ _ h => h) (Or.inr ⟨by kernel_rfl, rfl⟩) (by assumption) ?_
  try simp only [Act.put, List.getElem_toArray, List.getElem_cons_succ, List.getElem_cons_zero, List.setIfInBounds_toArray, List.set_cons_zero, List.set_cons_succ]
  refine wpAnyH_take (i := 23) (v := undef) rfl (by kernel_rfl) (by kernel_rfl) (by kernel_rfl) (fun _ _ _ h => h) (Or.inr ⟨by kernel_rfl, rfl⟩) (by assumption) ?_
  try simp only [Act.put, List.getElem_toArray, List.getElem_cons_succ, List.getElem_cons_zero, List.setIfInBounds_toArray, List.set_cons_zero, List.set_cons_succ]
  refine wpAnyH_take (i := 24) (v := undef) rfl (by kernel_rfl) (by kernel_rfl) (by kernel_rfl) (fun _ _ _ h => h) (Or.inr ⟨by kernel_rfl, rfl⟩) (by assumption) ?_
  try simp only [Act.put, List.getElem_toArray, List.getElem_cons_succ, List.getElem_cons_zero, List.setIfInBounds_toArray, List.set_cons_zero, List.set_cons_succ]
  refine wpAnyH_take (i := 25) (v := undef) rfl (by kernel_rfl) (by kernel_rfl) (by kernel_rfl) (fun _ _ _ h => h) (Or.inr ⟨by kernel_rfl, rfl⟩) (by assumption) ?_
  try simp only [Act.put, List.getElem_toArray, List.getElem_cons_succ, List.getElem_cons_zero, List.setIfInBounds_toArray, List.set_cons_zero, List.set_cons_succ]
  refine wpAnyH_take (i := 26) (v := undef) rfl (by kernel_rfl) (by kernel_rfl) (by kernel_rfl) (fun _ _ _ h => h) (Or.inr ⟨by kernel_rfl, rfl⟩) (by assumption) ?_
  try simp only [Act.put, List.getElem_toArray, List.getElem_cons_succ, List.getElem_cons_zero, List.setIfInBounds_toArray, List.set_cons_zero, List.set_cons_succ]
  refine wpAnyH_take (i := 27) (v := undef) rfl (by kernel_rfl) (by kernel_rfl) (by kernel_rfl) (fun _ _ _ h => h) (Or.inr ⟨by kernel_rfl, rfl⟩) (by assumption) ?_
  try simp only [Act.put, List.getElem_toArray, List.getElem_cons_succ, List.getElem_cons_zero, List.setIfInBounds_toArray, List.set_cons_zero, List.set_cons_succ]
  refine wpAnyH_take (i := 28) (v := undef) rfl (by kernel_rfl) (by kernel_rfl) (by kernel_rfl) (fun _ _ _ h => h) (Or.inr ⟨by kernel_rfl, rfl⟩) (by assumption) ?_
  try simp only [Act.put, List.getElem_toArray, List.getElem_cons_succ, List.getElem_cons_zero, List.setIfInBounds_toArray, List.set_cons_zero, List.set_cons_succ]
  refine wpAnyH_take (i := 29) (v := ?_) rfl (by kernel_rfl) (by kernel_rfl) (by kernel_rfl) (fun _ _ _ h => h) (Or.inl ⟨by rfl, ?_⟩) (by assumption) ?_
  rotate_left
  · (intro w hSw; (try dsimp only at hSw); go_simp; try with_reducible rfl)
  try simp only [Act.put, List.getElem_toArray, List.getElem_cons_succ, List.getElem_cons_zero, List.setIfInBounds_toArray, List.set_cons_zero, List.set_cons_succ]
  refine wpAnyH_take (i := 30) (v := ?_) rfl (by kernel_rfl) (by kernel_rfl) (by kernel_rfl) (fun _ _ _ h => h) (Or.inl ⟨by rfl, ?_⟩) (by assumption) ?_
  rotate_left
  · (intro w hSw; (try dsimp only at hSw); go_simp; try with_reducible rfl)
  try simp only [Act.put, List.getElem_toArray, List.getElem_cons_succ, List.getElem_cons_zero, List.setIfInBounds_toArray, List.set_cons_zero, List.set_cons_succ]
  refine wpAnyH_done (by kernel_rfl) ?_ _
  have bZN := obj_keep bZ hbW2
  have hkx := cells6 bXN
  obtain ⟨xc0, xc1, xc2, xc3, xc4, xc5⟩ := hkx
  have zc0 : wN.cell? ⟨w.heap.size + 1, 0, none⟩ = some (.int .u32 0) := cell_of_row wN (w.heap.size + 1) 0 _ _ _ bZN
  have zc1 : wN.cell? ⟨w.heap.size + 1, 1, none⟩ = some (.slice none 0 0) := cell_of_row wN (w.heap.size + 1) 1 _ _ _ bZN
  have zf0 : wN.frozen? ⟨w.heap.size + 1, 0, none⟩ = false := frozen_of_row _ _ _ _ _ bZN
  have zf1 : wN.frozen? ⟨w.heap.size + 1, 1, none⟩ = false := frozen_of_row _ _ _ _ _ bZN
  have hsN : w.heap.size + 1 < wN.heap.size := (Array.getElem?_eq_some_iff.1 bZN).1
  have hsX : w.heap.size < wN.heap.size := by omega
  have hsg : g < wN.heap.size := hSN.lt
  have oc0 : wN.cell? ⟨g, f0 + j * 38, none⟩ = some (.int .i64 s.o.k) := (hSN.at 0 (by decide)).1.trans s.cells_at.1
  have HSN := Lib.hid hSN
  have HMN := Lib.hid hMN
  have HBN := Lib.hid hbWN
  have HZN := Lib.hid bZN
  clear hSN hMN hbWN bZN bXN hbW2
  go_wp2_with (go_at_call 13; refine (not_any _).mono ?_; rintro e wF ⟨rfl, hbF⟩; have hk := keepC hbF (Nat.le_refl _); have hf := keepF hbF (Nat.le_refl _))
  have bZF := obj_keep HZN.out hbF
  refine bodyPost_ret (results_ans2 rfl _ _ (w.heap.size + 1) _ _ (set2_row bZF _ _) rfl) rfl ?_
  exact MPF.none HS.out HBN.out (hbF.mono (by omega)) (by omega)

set_option maxHeartbeats 2000000 in
theorem doM_duo6 (w : World) (T : TabO w) (mb g f0 n cap j : Nat) (th : Int) (s : St) (who call part arg val : Int) (hM : w.heap[mb]? = some (.cells #[.int .i64 th, .slice (some ⟨g, f0, none⟩) n cap] 56 (0, 0))) (hS : Seg w g (f0 + j * 38) s) (hj : j < n) (hx0 : 0 ≤ arg) (hx1 : arg ≤ 4294967295) (hP : AskP s.o.k s.o.n s.o.a s.o.b call th who) (p0 : part = 0) (p1 : s.o.k = 6) :
    Calls Tryd.prog 9 #[.pointer (some ⟨mb, 0, none⟩), .agg #[.int .i64 who, .int .i64 ((j : Nat) : Int), .int .i64 call, .int .i64 part, .int .u32 arg, .int .u32 val]] w (MPF w g (f0 + j * 38) (doDuo s ⟨who, ((j : Nat) : Int), call, part, arg, val⟩).1 (doDuo s ⟨who, ((j : Nat) : Int), call, part, arg, val⟩).2) := by
  obtain ⟨a, ha⟩ : ∃ a, a = (doDuo s ⟨who, ((j : Nat) : Int), call, part, arg, val⟩).1 := ⟨_, rfl⟩
  obtain ⟨s', hs'⟩ : ∃ s', s' = (doDuo s ⟨who, ((j : Nat) : Int), call, part, arg, val⟩).2 := ⟨_, rfl⟩
  have hcon : ∀ W, Seg W g (f0 + j * 38) s → Calls Tryd.prog 15 #[.pointer (some ⟨g, f0 + j * 38, none⟩), .agg #[.int .i64 who, .int .i64 ((j : Nat) : Int), .int .i64 call, .int .i64 part, .int .u32 arg, .int .u32 val]] W (MPF W g (f0 + j * 38) a s') := fun W hW => by
    rw [ha, hs']
    exact duo_any W g (f0 + j * 38) s ⟨who, ((j : Nat) : Int), call, part, arg, val⟩ hW
  rw [← ha, ← hs']
  clear ha hs'
  have hlt := hS.lt
  have hmlt : mb < w.heap.size := (Array.getElem?_eq_some_iff.1 hM).1
  obtain ⟨bX, bZ, bB, bS⟩ := blk2 w (.cells #[.int .i64 who, .int .i64 ((j : Nat) : Int), .int .i64 call, .int .i64 part, .int .u32 arg, .int .u32 val] 32) (.cells #[.int .u32 0, .slice none 0 0] 50)
  have HS := Lib.hid hS
  have HM := Lib.hid hM
  have HT := Lib.hid T
  have m0 : w.cell? ⟨mb, 0, none⟩ = some (.int .i64 th) := cell_of_row w mb 0 _ _ _ hM
  have m1 : w.cell? ⟨mb, 1, none⟩ = some (.slice (some ⟨g, f0, none⟩) n cap) := cell_of_row w mb 1 _ _ _ hM
  have g1 : decide (((j : Nat) : Int) < 0) = false := decide_eq_false (by omega)
  have g2 : decide (((n : Nat) : Int) ≤ ((j : Nat) : Int)) = false := decide_eq_false (by omega)
  have g3 : decide (n ≤ j) = false := decide_eq_false (by omega)
  have dA : decide (AskP s.o.k s.o.n s.o.a s.o.b call th who) = true := decide_eq_true hP
  have wr0 : IntKind.u64.wrap arg = arg := by rw [IntKind.wrap_u64]; omega
  have wr1 : IntKind.u64.wrap s.o.n = s.o.n := by rw [IntKind.wrap_u64]; obtain ⟨⟨_, _, h⟩, _⟩ := hP; omega
  have q0 : (call == 4) = false := by have h := hP.2.2.2; unfold MayP at h; simp; omega
  have q1 : (s.o.k != 13) = true := by simp; omega
  have q2 : (part != 0) = false := by simp; omega
  have q3 : (s.o.k == 6) = true := by simp; omega
  clear hM hS T p0 p1 hP
  go_enter Tryd.func9, Tryd.ntmps9
  go_wp2_with fail
  go_quiet (fail)
  go_wp2_with fail
  go_quiet (fail)
  go_wp2_with fail
  have h0S := holdM bX ((bB.block _ hmlt).trans HM.out) (Seg.below HS.out bB)
  refine wp_region_held_drew (S := fun w' => w'.cell? ⟨w.heap.size, 0, none⟩ = some (.int .i64 who) ∧ w'.cell? ⟨w.heap.size, 2, none⟩ = some (.int .i64 call) ∧ w'.cell? ⟨w.heap.size, 4, none⟩ = some (.int .u32 arg) ∧ w'.cell? ⟨mb, 0, none⟩ = some (.int .i64 th) ∧ w'.cell? ⟨g, f0 + j * 38, none⟩ = some (.int .i64 s.o.k) ∧ w'.cell? ⟨g, f0 + j * 38 + 1, none⟩ = some (.int .i64 s.o.n) ∧ w'.cell? ⟨g, f0 + j * 38 + 2, none⟩ = some (.int .i64 s.o.a) ∧ w'.cell? ⟨g, f0 + j * 38 + 3, none⟩ = some (.int .i64 s.o.b)) (by kernel_rfl) h0S (fun hHeld => ?_)
  refine wpAnyH_take (i := 0) (v := ?_) rfl (by kernel_rfl) (by kernel_rfl) (by kernel_rfl) (fun _ _ _ h => h) (Or.inl ⟨by rfl, ?_⟩) (by assumption) ?_
  rotate_left
  · (intro w hSw; (try dsimp only at hSw); go_simp; try with_reducible rfl)
  try simp only [Act.put, List.getElem_toArray, List.getElem_cons_succ, List.getElem_cons_zero, List.setIfInBounds_toArray, List.set_cons_zero, List.set_cons_succ]
  refine wpAnyH_take (i := 1) (v := ?_) rfl (by kernel_rfl) (by kernel_rfl) (by kernel_rfl) (fun _ _ _ h => h) (Or.inl ⟨by rfl, ?_⟩) (by assumption) ?_
  rotate_left
  · (intro w hSw; (try dsimp only at hSw); go_simp; try with_reducible rfl)
  try simp only [Act.put, List.getElem_toArray, List.getElem_cons_succ, List.getElem_cons_zero, List.setIfInBounds_toArray, List.set_cons_zero, List.set_cons_succ]
  refine wpAnyH_take (i := 2) (v := ?_) rfl (by kernel_rfl) (by kernel_rfl) (by kernel_rfl) (fun _ _ _ h => h) (Or.inl ⟨by rfl, ?_⟩) (by assumption) ?_
  rotate_left
  · (intro w hSw; (try dsimp only at hSw); go_simp; try with_reducible rfl)
  try simp only [Act.put, List.getElem_toArray, List.getElem_cons_succ, List.getElem_cons_zero, List.setIfInBounds_toArray, List.set_cons_zero, List.set_cons_succ]
  refine wpAnyH_take (i := 3) (v := ?_) rfl (by kernel_rfl) (by kernel_rfl) (by kernel_rfl) (fun _ _ _ h => h) (Or.inl ⟨by rfl, ?_⟩) (by assumption) ?_
  rotate_left
  · (intro w hSw; (try dsimp only at hSw); go_simp; try with_reducible rfl)
  try simp only [Act.put, List.getElem_toArray, List.getElem_cons_succ, List.getElem_cons_zero, List.setIfInBounds_toArray, List.set_cons_zero, List.set_cons_succ]
  refine wpAnyH_take (i := 4) (v := ?_) rfl (by kernel_rfl) (by kernel_rfl) (by kernel_rfl) (fun _ _ _ h => h) (Or.inl ⟨by rfl, ?_⟩) (by assumption) ?_
  rotate_left
  · (intro w hSw; (try dsimp only at hSw); go_simp; try with_reducible rfl)
  try simp only [Act.put, List.getElem_toArray, List.getElem_cons_succ, List.getElem_cons_zero, List.setIfInBounds_toArray, List.set_cons_zero, List.set_cons_succ]
  refine wpAnyH_take (i := 5) (v := ?_) rfl (by kernel_rfl) (by kernel_rfl) (by kernel_rfl) (fun _ _ _ h => h) (Or.inl ⟨by rfl, ?_⟩) (by assumption) ?_
  rotate_left
  · (intro w hSw; (try dsimp only at hSw); go_simp; try with_reducible rfl)
  try simp only [Act.put, List.getElem_toArray, List.getElem_cons_succ, List.getElem_cons_zero, List.setIfInBounds_toArray, List.set_cons_zero, List.set_cons_succ]
  refine wpAnyH_take (i := 6) (v := ?_) rfl (by kernel_rfl) (by kernel_rfl) (by kernel_rfl) (fun _ _ _ h => h) (Or.inl ⟨by rfl, ?_⟩) (by assumption) ?_
  rotate_left
  · (intro w hSw; (try dsimp only at hSw); go_simp; try with_reducible rfl)
  try simp only [Act.put, List.getElem_toArray, List.getElem_cons_succ, List.getElem_cons_zero, List.setIfInBounds_toArray, List.set_cons_zero, List.set_cons_succ]
  refine wpAnyH_take (i := 7) (v := ?_) rfl (by kernel_rfl) (by kernel_rfl) (by kernel_rfl) (fun _ _ _ h => h) (Or.inl ⟨by rfl, ?_⟩) (by assumption) ?_
  rotate_left
  · (intro w hSw; (try dsimp only at hSw); go_simp; try with_reducible rfl)
  try simp only [Act.put, List.getElem_toArray, List.getElem_cons_succ, List.getElem_cons_zero, List.setIfInBounds_toArray, List.set_cons_zero, List.set_cons_succ]
  refine wpAnyH_take (i := 8) (v := ?_) rfl (by kernel_rfl) (by kernel_rfl) (by kernel_rfl) (fun _ _ _ h => h) (Or.inl ⟨by rfl, ?_⟩) (by assumption) ?_
  rotate_left
  · (intro w hSw; (try dsimp only at hSw); go_simp; try with_reducible rfl)
  try simp only [Act.put, List.getElem_toArray, List.getElem_cons_succ, List.getElem_cons_zero, List.setIfInBounds_toArray, List.set_cons_zero, List.set_cons_succ]
  refine wpAnyH_take (i := 9) (v := ?_) rfl (by kernel_rfl) (by kernel_rfl) (by kernel_rfl) (fun _ _ _ h => h) (Or.inl ⟨by rfl, ?_⟩) (by assumption) ?_
  rotate_left
  · (intro w hSw; (try dsimp only at hSw); go_simp; try with_reducible rfl)
  try simp only [Act.put, List.getElem_toArray, List.getElem_cons_succ, List.getElem_cons_zero, List.setIfInBounds_toArray, List.set_cons_zero, List.set_cons_succ]
  refine wpAnyH_take (i := 10) (v := ?_) rfl (by kernel_rfl) (by kernel_rfl) (by kernel_rfl) (fun _ _ _ h => h) (Or.inl ⟨by rfl, ?_⟩) (by assumption) ?_
  rotate_left
  · (intro w hSw; (try dsimp only at hSw); go_simp; try with_reducible rfl)
  try simp only [Act.put, List.getElem_toArray, List.getElem_cons_succ, List.getElem_cons_zero, List.setIfInBounds_toArray, List.set_cons_zero, List.set_cons_succ]
  refine wpAnyH_take (i := 11) (v := ?_) rfl (by kernel_rfl) (by kernel_rfl) (by kernel_rfl) (fun _ _ _ h => h) (Or.inl ⟨by rfl, ?_⟩) (by assumption) ?_
  rotate_left
  · (intro w hSw; (try dsimp only at hSw); go_simp; try with_reducible rfl)
  try simp only [Act.put, List.getElem_toArray, List.getElem_cons_succ, List.getElem_cons_zero, List.setIfInBounds_toArray, List.set_cons_zero, List.set_cons_succ]
  refine wpAnyH_ready (rs := [12]) (by kernel_rfl) (by simp) ?_
  refine AllReadyH.cons rfl (fun K hK => ?_) AllReadyH.nil
  go_simp
  (go_at_call 14; refine (spinMay_any _ (by first | exact (HT.out.below bB (Nat.le_refl _)) | exact TabO.below (HT.out.below bB (Nat.le_refl _)) (bl_drewN (Below.refl _ _) _) (Nat.le_refl _) | exact TabO.below (HT.out.below bB (Nat.le_refl _)) (bl_drew (bl_drewN (Below.refl _ _) _)) (Nat.le_refl _)) _ _ _ _ _ _ _).mono ?_; rintro e wN ⟨he, hbN⟩; rw [dA] at he; subst he; have hbW2 : Below (((w.alloc (.cells #[.int .i64 who, .int .i64 ((j : Nat) : Int), .int .i64 call, .int .i64 part, .int .u32 arg, .int .u32 val] 32)).alloc (.cells #[.int .u32 0, .slice none 0 0] 50))).heap.size (((w.alloc (.cells #[.int .i64 who, .int .i64 ((j : Nat) : Int), .int .i64 call, .int .i64 part, .int .u32 arg, .int .u32 val] 32)).alloc (.cells #[.int .u32 0, .slice none 0 0] 50))) wN := ⟨hbN.os, hbN.tape, hbN.output, hbN.size, hbN.block⟩; have hbWN := bB.trans (hbW2.mono bB.size); have bXN := obj_keep bX hbW2; have hMN := (hbWN.block _ hmlt).trans HM.out; have hSN := Seg.below HS.out hbWN)
  go_wp2_with fail
  refine hK.out _ _ (holdM bXN hMN hSN) (fun hHeld2 => ?_)
  clear hK K hHeld
  refine wpAnyH_take (i := 13) (v := ?_) rfl (by kernel_rfl) (by kernel_rfl) (by kernel_rfl) (fun _ _ _ h => h) (Or.inl ⟨by rfl, ?_⟩) (by assumption) ?_
  rotate_left
  · (intro w hSw; (try dsimp only at hSw); go_simp; try with_reducible rfl)
  try simp only [Act.put, List.getElem_toArray, List.getElem_cons_succ, List.getElem_cons_zero, List.setIfInBounds_toArray, List.set_cons_zero, List.set_cons_succ]
  refine wpAnyH_take (i := 14) (v := ?_) rfl (by kernel_rfl) (by kernel_rfl) (by kernel_rfl) (fun _ _ _ h => h) (Or.inl ⟨by rfl, ?_⟩) (by assumption) ?_
  rotate_left
  · (intro w hSw; (try dsimp only at hSw); go_simp; try with_reducible rfl)
  try simp only [Act.put, List.getElem_toArray, List.getElem_cons_succ, List.getElem_cons_zero, List.setIfInBounds_toArray, List.set_cons_zero, List.set_cons_succ]
  refine wpAnyH_take (i := 15) (v := ?_) rfl (by kernel_rfl) (by kernel_rfl) (by kernel_rfl) (fun _ _ _ h => h) (Or.inl ⟨by rfl, ?_⟩) (by assumption) ?_
  rotate_left
  · (intro w hSw; (try dsimp only at hSw); go_simp; try with_reducible rfl)
  try simp only [Act.put, List.getElem_toArray, List.getElem_cons_succ, List.getElem_cons_zero, List.setIfInBounds_toArray, List.set_cons_zero, List.set_cons_succ]
  refine wpAnyH_take (i := 16) (v := ?_) rfl (by kernel_rfl) (by kernel_rfl) (by kernel_rfl) (fun _ _ _ h => h) (Or.inl ⟨by rfl, ?_⟩) (by assumption) ?_
  rotate_left
  · (intro w hSw; (try dsimp only at hSw); go_simp; try with_reducible rfl)
  try simp only [Act.put, List.getElem_toArray, List.getElem_cons_succ, List.getElem_cons_zero, List.setIfInBounds_toArray, List.set_cons_zero, List.set_cons_succ]
  refine wpAnyH_take (i := 17) (v := ?_) rfl (by kernel_rfl) (by kernel_rfl) (by kernel_rfl) (fun _ _ _ h => h) (Or.inl ⟨by rfl, ?_⟩) (by assumption) ?_
  rotate_left
  · (intro w hSw; (try dsimp only at hSw); go_simp; try with_reducible rfl)
  try simp only [Act.put, List.getElem_toArray, List.getElem_cons_succ, List.getElem_cons_zero, List.setIfInBounds_toArray, List.set_cons_zero, List.set_cons_succ]
  refine wpAnyH_take (i := 18) (v := ?_) rfl (by kernel_rfl) (by kernel_rfl) (by kernel_rfl) (fun _ _ _ h => h) (Or.inl ⟨by rfl, ?_⟩) (by assumption) ?_
  rotate_left
  · (intro w hSw; (try dsimp only at hSw); go_simp; try with_reducible rfl)
  try simp only [Act.put, List.getElem_toArray, List.getElem_cons_succ, List.getElem_cons_zero, List.setIfInBounds_toArray, List.set_cons_zero, List.set_cons_succ]
  refine wpAnyH_take (i := 19) (v := undef) rfl (by kernel_rfl) (by kernel_rfl) (by kernel_rfl) (fun _ _ _ h => h) (Or.inr ⟨by kernel_rfl, rfl⟩) (by assumption) ?_
  try simp only [Act.put, List.getElem_toArray, List.getElem_cons_succ, List.getElem_cons_zero, List.setIfInBounds_toArray, List.set_cons_zero, List.set_cons_succ]
  refine wpAnyH_take (i := 20) (v := undef) rfl (by kernel_rfl) (by kernel_rfl) (by kernel_rfl) (fun _ _ _ h => h) (Or.inr ⟨by kernel_rfl, rfl⟩) (by assumption) ?_
  try simp only [Act.put, List.getElem_toArray, List.getElem_cons_succ, List.getElem_cons_zero, List.setIfInBounds_toArray, List.set_cons_zero, List.set_cons_succ]
  refine wpAnyH_take (i := 21) (v := undef) rfl (by kernel_rfl) (by kernel_rfl) (by kernel_rfl) (fun _ _ _ h => h) (Or.inr ⟨by kernel_rfl, rfl⟩) (by assumption) ?_
  try simp only [Act.put, List.getElem_toArray, List.getElem_cons_succ, List.getElem_cons_zero, List.setIfInBounds_toArray, List.set_cons_zero, List.set_cons_succ]
  refine wpAnyH_take (i := 22) (v := undef) rfl (by kernel_rfl) (by kernel_rfl) (by kernel_rfl) (fun _ _ _ h => h) (Or.inr ⟨by kernel_rfl, rfl⟩) (by assumption) ?_
  try simp only [Act.put, List.getElem_toArray, List.getElem_cons_succ, List.getElem_cons_zero, List.setIfInBounds_toArray, List.set_cons_zero, List.set_cons_succ]
  refine wpAnyH_take (i := 23) (v := undef) rfl (by kernel_rfl) (by kernel_rfl) (by kernel_rfl) (fun _ _ _ h => h) (Or.inr ⟨by kernel_rfl, rfl⟩) (by assumption) ?_
  try simp only [Act.put, List.getElem_toArray, List.getElem_cons_succ, List.getElem_cons_zero, List.setIfInBounds_toArray, List.set_cons_zero, List.set_cons_succ]
  refine wpAnyH_take (i := 24) (v := undef) rfl (by kernel_rfl) (by kernel_rfl) (by kernel_rfl) (fun _ _ _ h => h) (Or.inr ⟨by kernel_rfl, rfl⟩) (by assumption) ?_
  try simp only [Act.put, List.getElem_toArray, List.getElem_cons_succ, List.getElem_cons_zero, List.setIfInBounds_toArray, List.set_cons_zero, List.set_cons_succ]
  refine wpAnyH_take (i := 25) (v := undef) rfl (by kernel_rfl) (by kernel_rfl) (by kernel_rfl) (fun _ _ _ h => h) (Or.inr ⟨by kernel_rfl, rfl⟩) (by assumption) ?_
  try simp only [Act.put, List.getElem_toArray, List.getElem_cons_succ, List.getElem_cons_zero, List.setIfInBounds_toArray, List.set_cons_zero, List.set_cons_succ]
  refine wpAnyH_take (i := 26) (v := undef) rfl (by kernel_rfl) (by kernel_rfl) (by kernel_rfl) (fun _ _ _ h => h) (Or.inr ⟨by kernel_rfl, rfl⟩) (by assumption) ?_
  try simp only [Act.put, List.getElem_toArray, List.getElem_cons_succ, List.getElem_cons_zero, List.setIfInBounds_toArray, List.set_cons_zero, List.set_cons_succ]
  refine wpAnyH_take (i := 27) (v := undef) rfl (by kernel_rfl) (by kernel_rfl) (by kernel_rfl) (fun _ _ _ h => h) (Or.inr ⟨by kernel_rfl, rfl⟩) (by assumption) ?_
  try simp only [Act.put, List.getElem_toArray, List.getElem_cons_succ, List.getElem_cons_zero, List.setIfInBounds_toArray, List.set_cons_zero, List.set_cons_succ]
  refine wpAnyH_take (i := 28) (v := undef) rfl (by kernel_rfl) (by kernel_rfl) (by kernel_rfl) (fun _ _ _ h => h) (Or.inr ⟨by kernel_rfl, rfl⟩) (by assumption) ?_
  try simp only [Act.put, List.getElem_toArray, List.getElem_cons_succ, List.getElem_cons_zero, List.setIfInBounds_toArray, List.set_cons_zero, List.set_cons_succ]
  refine wpAnyH_take (i := 29) (v := ?_) rfl (by kernel_rfl) (by kernel_rfl) (by kernel_rfl) (fun _ _ _ h => h) (Or.inl ⟨by rfl, ?_⟩) (by assumption) ?_
  rotate_left
  · (intro w hSw; (try dsimp only at hSw); go_simp; try with_reducible rfl)
  try simp only [Act.put, List.getElem_toArray, List.getElem_cons_succ, List.getElem_cons_zero, List.setIfInBounds_toArray, List.set_cons_zero, List.set_cons_succ]
  refine wpAnyH_take (i := 30) (v := ?_) rfl (by kernel_rfl) (by kernel_rfl) (by kernel_rfl) (fun _ _ _ h => h) (Or.inl ⟨by rfl, ?_⟩) (by assumption) ?_
  rotate_left
  · (intro w hSw; (try dsimp only at hSw); go_simp; try with_reducible rfl)
  try simp only [Act.put, List.getElem_toArray, List.getElem_cons_succ, List.getElem_cons_zero, List.setIfInBounds_toArray, List.set_cons_zero, List.set_cons_succ]
  refine wpAnyH_done (by kernel_rfl) ?_ _
  have bZN := obj_keep bZ hbW2
  have hkx := cells6 bXN
  obtain ⟨xc0, xc1, xc2, xc3, xc4, xc5⟩ := hkx
  have zc0 : wN.cell? ⟨w.heap.size + 1, 0, none⟩ = some (.int .u32 0) := cell_of_row wN (w.heap.size + 1) 0 _ _ _ bZN
  have zc1 : wN.cell? ⟨w.heap.size + 1, 1, none⟩ = some (.slice none 0 0) := cell_of_row wN (w.heap.size + 1) 1 _ _ _ bZN
  have zf0 : wN.frozen? ⟨w.heap.size + 1, 0, none⟩ = false := frozen_of_row _ _ _ _ _ bZN
  have zf1 : wN.frozen? ⟨w.heap.size + 1, 1, none⟩ = false := frozen_of_row _ _ _ _ _ bZN
  have hsN : w.heap.size + 1 < wN.heap.size := (Array.getElem?_eq_some_iff.1 bZN).1
  have hsX : w.heap.size < wN.heap.size := by omega
  have hsg : g < wN.heap.size := hSN.lt
  have oc0 : wN.cell? ⟨g, f0 + j * 38, none⟩ = some (.int .i64 s.o.k) := (hSN.at 0 (by decide)).1.trans s.cells_at.1
  have HSN := Lib.hid hSN
  have HMN := Lib.hid hMN
  have HBN := Lib.hid hbWN
  have HZN := Lib.hid bZN
  clear hSN hMN hbWN bZN bXN hbW2
  go_wp2_with (go_at_call 15; refine (hcon _ HSN.out).mono ?_; rintro e wU ⟨dv, rfl, hRd, hFr, hU⟩; obtain ⟨dA, dc, rfl⟩ := hRd.form; have bR : wU.heap[w.heap.size + 1]? = some (.cells #[.int .u32 0, .slice none 0 0] 50) := (hU.1.block _ hsN (by omega)).trans HZN.out; have rc0 : wU.cell? ⟨w.heap.size + 1, 0, none⟩ = some (.int .u32 0) := cell_of_row wU (w.heap.size + 1) 0 _ _ _ bR; have rc1 : wU.cell? ⟨w.heap.size + 1, 1, none⟩ = some (.slice none 0 0) := cell_of_row wU (w.heap.size + 1) 1 _ _ _ bR; have rf0 : wU.frozen? ⟨w.heap.size + 1, 0, none⟩ = false := frozen_of_row _ _ _ _ _ bR; have rf1 : wU.frozen? ⟨w.heap.size + 1, 1, none⟩ = false := frozen_of_row _ _ _ _ _ bR)
  refine bodyPost_ret (results_ans2 rfl _ _ (w.heap.size + 1) _ _ (set2_row bR _ _) rfl) rfl ?_
  exact MPF.lift hlt HBN.out (by omega) hsN hRd hFr hU

set_option maxHeartbeats 2000000 in
theorem doM_duo7 (w : World) (T : TabO w) (mb g f0 n cap j : Nat) (th : Int) (s : St) (who call part arg val : Int) (hM : w.heap[mb]? = some (.cells #[.int .i64 th, .slice (some ⟨g, f0, none⟩) n cap] 56 (0, 0))) (hS : Seg w g (f0 + j * 38) s) (hj : j < n) (hx0 : 0 ≤ arg) (hx1 : arg ≤ 4294967295) (hP : AskP s.o.k s.o.n s.o.a s.o.b call th who) (p0 : part = 0) (p1 : s.o.k = 7) :
    Calls Tryd.prog 9 #[.pointer (some ⟨mb, 0, none⟩), .agg #[.int .i64 who, .int .i64 ((j : Nat) : Int), .int .i64 call, .int .i64 part, .int .u32 arg, .int .u32 val]] w (MPF w g (f0 + j * 38) (doDuo s ⟨who, ((j : Nat) : Int), call, part, arg, val⟩).1 (doDuo s ⟨who, ((j : Nat) : Int), call, part, arg, val⟩).2) := by
  obtain ⟨a, ha⟩ : ∃ a, a = (doDuo s ⟨who, ((j : Nat) : Int), call, part, arg, val⟩).1 := ⟨_, rfl⟩
  obtain ⟨s', hs'⟩ : ∃ s', s' = (doDuo s ⟨who, ((j : Nat) : Int), call, part, arg, val⟩).2 := ⟨_, rfl⟩
  have hcon : ∀ W, Seg W g (f0 + j * 38) s → Calls Tryd.prog 15 #[.pointer (some ⟨g, f0 + j * 38, none⟩), .agg #[.int .i64 who, .int .i64 ((j : Nat) : Int), .int .i64 call, .int .i64 part, .int .u32 arg, .int .u32 val]] W (MPF W g (f0 + j * 38) a s') := fun W hW => by
    rw [ha, hs']
    exact duo_any W g (f0 + j * 38) s ⟨who, ((j : Nat) : Int), call, part, arg, val⟩ hW
  rw [← ha, ← hs']
  clear ha hs'
  have hlt := hS.lt
  have hmlt : mb < w.heap.size := (Array.getElem?_eq_some_iff.1 hM).1
  obtain ⟨bX, bZ, bB, bS⟩ := blk2 w (.cells #[.int .i64 who, .int .i64 ((j : Nat) : Int), .int .i64 call, .int .i64 part, .int .u32 arg, .int .u32 val] 32) (.cells #[.int .u32 0, .slice none 0 0] 50)
  have HS := Lib.hid hS
  have HM := Lib.hid hM
  have HT := Lib.hid T
  have m0 : w.cell? ⟨mb, 0, none⟩ = some (.int .i64 th) := cell_of_row w mb 0 _ _ _ hM
  have m1 : w.cell? ⟨mb, 1, none⟩ = some (.slice (some ⟨g, f0, none⟩) n cap) := cell_of_row w mb 1 _ _ _ hM
  have g1 : decide (((j : Nat) : Int) < 0) = false := decide_eq_false (by omega)
  have g2 : decide (((n : Nat) : Int) ≤ ((j : Nat) : Int)) = false := decide_eq_false (by omega)
  have g3 : decide (n ≤ j) = false := decide_eq_false (by omega)
  have dA : decide (AskP s.o.k s.o.n s.o.a s.o.b call th who) = true := decide_eq_true hP
  have wr0 : IntKind.u64.wrap arg = arg := by rw [IntKind.wrap_u64]; omega
  have wr1 : IntKind.u64.wrap s.o.n = s.o.n := by rw [IntKind.wrap_u64]; obtain ⟨⟨_, _, h⟩, _⟩ := hP; omega
  have q0 : (call == 4) = false := by have h := hP.2.2.2; unfold MayP at h; simp; omega
  have q1 : (s.o.k != 13) = true := by simp; omega
  have q2 : (part != 0) = false := by simp; omega
  have q3 : (s.o.k == 6) = false := by simp; omega
  have q4 : (s.o.k == 7) = true := by simp; omega
  clear hM hS T p0 p1 hP
  go_enter Tryd.func9, Tryd.ntmps9
  go_wp2_with fail
  go_quiet (fail)
  go_wp2_with fail
  go_quiet (fail)
  go_wp2_with fail
  have h0S := holdM bX ((bB.block _ hmlt).trans HM.out) (Seg.below HS.out bB)
  refine wp_region_held_drew (S := fun w' => w'.cell? ⟨w.heap.size, 0, none⟩ = some (.int .i64 who) ∧ w'.cell? ⟨w.heap.size, 2, none⟩ = some (.int .i64 call) ∧ w'.cell? ⟨w.heap.size, 4, none⟩ = some (.int .u32 arg) ∧ w'.cell? ⟨mb, 0, none⟩ = some (.int .i64 th) ∧ w'.cell? ⟨g, f0 + j * 38, none⟩ = some (.int .i64 s.o.k) ∧ w'.cell? ⟨g, f0 + j * 38 + 1, none⟩ = some (.int .i64 s.o.n) ∧ w'.cell? ⟨g, f0 + j * 38 + 2, none⟩ = some (.int .i64 s.o.a) ∧ w'.cell? ⟨g, f0 + j * 38 + 3, none⟩ = some (.int .i64 s.o.b)) (by kernel_rfl) h0S (fun hHeld => ?_)
  refine wpAnyH_take (i := 0) (v := ?_) rfl (by kernel_rfl) (by kernel_rfl) (by kernel_rfl) (fun _ _ _ h => h) (Or.inl ⟨by rfl, ?_⟩) (by assumption) ?_
  rotate_left
  · (intro w hSw; (try dsimp only at hSw); go_simp; try with_reducible rfl)
  try simp only [Act.put, List.getElem_toArray, List.getElem_cons_succ, List.getElem_cons_zero, List.setIfInBounds_toArray, List.set_cons_zero, List.set_cons_succ]
  refine wpAnyH_take (i := 1) (v := ?_) rfl (by kernel_rfl) (by kernel_rfl) (by kernel_rfl) (fun _ _ _ h => h) (Or.inl ⟨by rfl, ?_⟩) (by assumption) ?_
  rotate_left
  · (intro w hSw; (try dsimp only at hSw); go_simp; try with_reducible rfl)
  try simp only [Act.put, List.getElem_toArray, List.getElem_cons_succ, List.getElem_cons_zero, List.setIfInBounds_toArray, List.set_cons_zero, List.set_cons_succ]
  refine wpAnyH_take (i := 2) (v := ?_) rfl (by kernel_rfl) (by kernel_rfl) (by kernel_rfl) (fun _ _ _ h => h) (Or.inl ⟨by rfl, ?_⟩) (by assumption) ?_
  rotate_left
  · (intro w hSw; (try dsimp only at hSw); go_simp; try with_reducible rfl)
  try simp only [Act.put, List.getElem_toArray, List.getElem_cons_succ, List.getElem_cons_zero, List.setIfInBounds_toArray, List.set_cons_zero, List.set_cons_succ]
  refine wpAnyH_take (i := 3) (v := ?_) rfl (by kernel_rfl) (by kernel_rfl) (by kernel_rfl) (fun _ _ _ h => h) (Or.inl ⟨by rfl, ?_⟩) (by assumption) ?_
  rotate_left
  · (intro w hSw; (try dsimp only at hSw); go_simp; try with_reducible rfl)
  try simp only [Act.put, List.getElem_toArray, List.getElem_cons_succ, List.getElem_cons_zero, List.setIfInBounds_toArray, List.set_cons_zero, List.set_cons_succ]
  refine wpAnyH_take (i := 4) (v := ?_) rfl (by kernel_rfl) (by kernel_rfl) (by kernel_rfl) (fun _ _ _ h => h) (Or.inl ⟨by rfl, ?_⟩) (by assumption) ?_
  rotate_left
  · (intro w hSw; (try dsimp only at hSw); go_simp; try with_reducible rfl)
  try simp only [Act.put, List.getElem_toArray, List.getElem_cons_succ, List.getElem_cons_zero, List.setIfInBounds_toArray, List.set_cons_zero, List.set_cons_succ]
  refine wpAnyH_take (i := 5) (v := ?_) rfl (by kernel_rfl) (by kernel_rfl) (by kernel_rfl) (fun _ _ _ h => h) (Or.inl ⟨by rfl, ?_⟩) (by assumption) ?_
  rotate_left
  · (intro w hSw; (try dsimp only at hSw); go_simp; try with_reducible rfl)
  try simp only [Act.put, List.getElem_toArray, List.getElem_cons_succ, List.getElem_cons_zero, List.setIfInBounds_toArray, List.set_cons_zero, List.set_cons_succ]
  refine wpAnyH_take (i := 6) (v := ?_) rfl (by kernel_rfl) (by kernel_rfl) (by kernel_rfl) (fun _ _ _ h => h) (Or.inl ⟨by rfl, ?_⟩) (by assumption) ?_
  rotate_left
  · (intro w hSw; (try dsimp only at hSw); go_simp; try with_reducible rfl)
  try simp only [Act.put, List.getElem_toArray, List.getElem_cons_succ, List.getElem_cons_zero, List.setIfInBounds_toArray, List.set_cons_zero, List.set_cons_succ]
  refine wpAnyH_take (i := 7) (v := ?_) rfl (by kernel_rfl) (by kernel_rfl) (by kernel_rfl) (fun _ _ _ h => h) (Or.inl ⟨by rfl, ?_⟩) (by assumption) ?_
  rotate_left
  · (intro w hSw; (try dsimp only at hSw); go_simp; try with_reducible rfl)
  try simp only [Act.put, List.getElem_toArray, List.getElem_cons_succ, List.getElem_cons_zero, List.setIfInBounds_toArray, List.set_cons_zero, List.set_cons_succ]
  refine wpAnyH_take (i := 8) (v := ?_) rfl (by kernel_rfl) (by kernel_rfl) (by kernel_rfl) (fun _ _ _ h => h) (Or.inl ⟨by rfl, ?_⟩) (by assumption) ?_
  rotate_left
  · (intro w hSw; (try dsimp only at hSw); go_simp; try with_reducible rfl)
  try simp only [Act.put, List.getElem_toArray, List.getElem_cons_succ, List.getElem_cons_zero, List.setIfInBounds_toArray, List.set_cons_zero, List.set_cons_succ]
  refine wpAnyH_take (i := 9) (v := ?_) rfl (by kernel_rfl) (by kernel_rfl) (by kernel_rfl) (fun _ _ _ h => h) (Or.inl ⟨by rfl, ?_⟩) (by assumption) ?_
  rotate_left
  · (intro w hSw; (try dsimp only at hSw); go_simp; try with_reducible rfl)
  try simp only [Act.put, List.getElem_toArray, List.getElem_cons_succ, List.getElem_cons_zero, List.setIfInBounds_toArray, List.set_cons_zero, List.set_cons_succ]
  refine wpAnyH_take (i := 10) (v := ?_) rfl (by kernel_rfl) (by kernel_rfl) (by kernel_rfl) (fun _ _ _ h => h) (Or.inl ⟨by rfl, ?_⟩) (by assumption) ?_
  rotate_left
  · (intro w hSw; (try dsimp only at hSw); go_simp; try with_reducible rfl)
  try simp only [Act.put, List.getElem_toArray, List.getElem_cons_succ, List.getElem_cons_zero, List.setIfInBounds_toArray, List.set_cons_zero, List.set_cons_succ]
  refine wpAnyH_take (i := 11) (v := ?_) rfl (by kernel_rfl) (by kernel_rfl) (by kernel_rfl) (fun _ _ _ h => h) (Or.inl ⟨by rfl, ?_⟩) (by assumption) ?_
  rotate_left
  · (intro w hSw; (try dsimp only at hSw); go_simp; try with_reducible rfl)
  try simp only [Act.put, List.getElem_toArray, List.getElem_cons_succ, List.getElem_cons_zero, List.setIfInBounds_toArray, List.set_cons_zero, List.set_cons_succ]
  refine wpAnyH_ready (rs := [12]) (by kernel_rfl) (by simp) ?_
  refine AllReadyH.cons rfl (fun K hK => ?_) AllReadyH.nil
  go_simp
  (go_at_call 14; refine (spinMay_any _ (by first | exact (HT.out.below bB (Nat.le_refl _)) | exact TabO.below (HT.out.below bB (Nat.le_refl _)) (bl_drewN (Below.refl _ _) _) (Nat.le_refl _) | exact TabO.below (HT.out.below bB (Nat.le_refl _)) (bl_drew (bl_drewN (Below.refl _ _) _)) (Nat.le_refl _)) _ _ _ _ _ _ _).mono ?_; rintro e wN ⟨he, hbN⟩; rw [dA] at he; subst he; have hbW2 : Below (((w.alloc (.cells #[.int .i64 who, .int .i64 ((j : Nat) : Int), .int .i64 call, .int .i64 part, .int .u32 arg, .int .u32 val] 32)).alloc (.cells #[.int .u32 0, .slice none 0 0] 50))).heap.size (((w.alloc (.cells #[.int .i64 who, .int .i64 ((j : Nat) : Int), .int .i64 call, .int .i64 part, .int .u32 arg, .int .u32 val] 32)).alloc (.cells #[.int .u32 0, .slice none 0 0] 50))) wN := ⟨hbN.os, hbN.tape, hbN.output, hbN.size, hbN.block⟩; have hbWN := bB.trans (hbW2.mono bB.size); have bXN := obj_keep bX hbW2; have hMN := (hbWN.block _ hmlt).trans HM.out; have hSN := Seg.below HS.out hbWN)
  go_wp2_with fail
  refine hK.out _ _ (holdM bXN hMN hSN) (fun hHeld2 => ?_)
  clear hK K hHeld
  refine wpAnyH_take (i := 13) (v := ?_) rfl (by kernel_rfl) (by kernel_rfl) (by kernel_rfl) (fun _ _ _ h => h) (Or.inl ⟨by rfl, ?_⟩) (by assumption) ?_
  rotate_left
  · (intro w hSw; (try dsimp only at hSw); go_simp; try with_reducible rfl)
  try simp only [Act.put, List.getElem_toArray, List.getElem_cons_succ, List.getElem_cons_zero, List.setIfInBounds_toArray, List.set_cons_zero, List.set_cons_succ]
  refine wpAnyH_take (i := 14) (v := ?_) rfl (by kernel_rfl) (by kernel_rfl) (by kernel_rfl) (fun _ _ _ h => h) (Or.inl ⟨by rfl, ?_⟩) (by assumption) ?_
  rotate_left
  · (intro w hSw; (try dsimp only at hSw); go_simp; try with_reducible rfl)
  try simp only [Act.put, List.getElem_toArray, List.getElem_cons_succ, List.getElem_cons_zero, List.setIfInBounds_toArray, List.set_cons_zero, List.set_cons_succ]
  refine wpAnyH_take (i := 15) (v := ?_) rfl (by kernel_rfl) (by kernel_rfl) (by kernel_rfl) (fun _ _ _ h => h) (Or.inl ⟨by rfl, ?_⟩) (by assumption) ?_
  rotate_left
  · (intro w hSw; (try dsimp only at hSw); go_simp; try with_reducible rfl)
  try simp only [Act.put, List.getElem_toArray, List.getElem_cons_succ, List.getElem_cons_zero, List.setIfInBounds_toArray, List.set_cons_zero, List.set_cons_succ]
  refine wpAnyH_take (i := 16) (v := ?_) rfl (by kernel_rfl) (by kernel_rfl) (by kernel_rfl) (fun _ _ _ h => h) (Or.inl ⟨by rfl, ?_⟩) (by assumption) ?_
  rotate_left
  · (intro w hSw; (try dsimp only at hSw); go_simp; try with_reducible rfl)
  try simp only [Act.put, List.getElem_toArray, List.getElem_cons_succ, List.getElem_cons_zero, List.setIfInBounds_toArray, List.set_cons_zero, List.set_cons_succ]
  refine wpAnyH_take (i := 17) (v := ?_) rfl (by kernel_rfl) (by kernel_rfl) (by kernel_rfl) (fun _ _ _ h => h) (Or.inl ⟨by rfl, ?_⟩) (by assumption) ?_
  rotate_left
  · (intro w hSw; (try dsimp only at hSw); go_simp; try with_reducible rfl)
  try simp only [Act.put, List.getElem_toArray, List.getElem_cons_succ, List.getElem_cons_zero, List.setIfInBounds_toArray, List.set_cons_zero, List.set_cons_succ]
  refine wpAnyH_take (i := 18) (v := ?_) rfl (by kernel_rfl) (by kernel_rfl) (by kernel_rfl) (fun _ _ _ h => h) (Or.inl ⟨by rfl, ?_⟩) (by assumption) ?_
  rotate_left
  · (intro w hSw; (try dsimp only at hSw); go_simp; try with_reducible rfl)
  try simp only [Act.put, List.getElem_toArray, List.getElem_cons_succ, List.getElem_cons_zero, List.setIfInBounds_toArray, List.set_cons_zero, List.set_cons_succ]
  refine wpAnyH_take (i := 19) (v := undef) rfl (by kernel_rfl) (by kernel_rfl) (by kernel_rfl) (fun _ _ _ h => h) (Or.inr ⟨by kernel_rfl, rfl⟩) (by assumption) ?_
  try simp only [Act.put, List.getElem_toArray, List.getElem_cons_succ, List.getElem_cons_zero, List.setIfInBounds_toArray, List.set_cons_zero, List.set_cons_succ]
  refine wpAnyH_take (i := 20) (v := undef) rfl (by kernel_rfl) (by kernel_rfl) (by kernel_rfl) (fun _ _ _ h => h) (Or.inr ⟨by kernel_rfl, rfl⟩) (by assumption) ?_
  try simp only [Act.put, List.getElem_toArray, List.getElem_cons_succ, List.getElem_cons_zero, List.setIfInBounds_toArray, List.set_cons_zero, List.set_cons_succ]
  refine wpAnyH_take (i := 21) (v := undef) rfl (by kernel_rfl) (by kernel_rfl) (by kernel_rfl) (fun _ _ _ h => h) (Or.inr ⟨by kernel_rfl, rfl⟩) (by assumption) ?_
  try simp only [Act.put, List.getElem_toArray, List.getElem_cons_succ, List.getElem_cons_zero, List.setIfInBounds_toArray, List.set_cons_zero, List.set_cons_succ]
  refine wpAnyH_take (i := 22) (v := undef) rfl (by kernel_rfl) (by kernel_rfl) (by kernel_rfl) (fun _ _ _ h => h) (Or.inr ⟨by kernel_rfl, rfl⟩) (by assumption) ?_
  try simp only [Act.put, List.getElem_toArray, List.getElem_cons_succ, List.getElem_cons_zero, List.setIfInBounds_toArray, List.set_cons_zero, List.set_cons_succ]
  refine wpAnyH_take (i := 23) (v := undef) rfl (by kernel_rfl) (by kernel_rfl) (by kernel_rfl) (fun _ _ _ h => h) (Or.inr ⟨by kernel_rfl, rfl⟩) (by assumption) ?_
  try simp only [Act.put, List.getElem_toArray, List.getElem_cons_succ, List.getElem_cons_zero, List.setIfInBounds_toArray, List.set_cons_zero, List.set_cons_succ]
  refine wpAnyH_take (i := 24) (v := undef) rfl (by kernel_rfl) (by kernel_rfl) (by kernel_rfl) (fun _ _ _ h => h) (Or.inr ⟨by kernel_rfl, rfl⟩) (by assumption) ?_
  try simp only [Act.put, List.getElem_toArray, List.getElem_cons_succ, List.getElem_cons_zero, List.setIfInBounds_toArray, List.set_cons_zero, List.set_cons_succ]
  refine wpAnyH_take (i := 25) (v := undef) rfl (by kernel_rfl) (by kernel_rfl) (by kernel_rfl) (fun _ _ _ h => h) (Or.inr ⟨by kernel_rfl, rfl⟩) (by assumption) ?_
  try simp only [Act.put, List.getElem_toArray, List.getElem_cons_succ, List.getElem_cons_zero, List.setIfInBounds_toArray, List.set_cons_zero, List.set_cons_succ]
  refine wpAnyH_take (i := 26) (v := undef) rfl (by kernel_rfl) (by kernel_rfl) (by kernel_rfl) (fun _ _ _ h => h) (Or.inr ⟨by kernel_rfl, rfl⟩) (by assumption) ?_
  try simp only [Act.put, List.getElem_toArray, List.getElem_cons_succ, List.getElem_cons_zero, List.setIfInBounds_toArray, List.set_cons_zero, List.set_cons_succ]
  refine wpAnyH_take (i := 27) (v := undef) rfl (by kernel_rfl) (by kernel_rfl) (by kernel_rfl) (fun _ _ _ h => h) (Or.inr ⟨by kernel_rfl, rfl⟩) (by assumption) ?_
  try simp only [Act.put, List.getElem_toArray, List.getElem_cons_succ, List.getElem_cons_zero, List.setIfInBounds_toArray, List.set_cons_zero, List.set_cons_succ]
  refine wpAnyH_take (i := 28) (v := undef) rfl (by kernel_rfl) (by kernel_rfl) (by kernel_rfl) (fun _ _ _ h => h) (Or.inr ⟨by kernel_rfl, rfl⟩) (by assumption) ?_
  try simp only [Act.put, List.getElem_toArray, List.getElem_cons_succ, List.getElem_cons_zero, List.setIfInBounds_toArray, List.set_cons_zero, List.set_cons_succ]
  refine wpAnyH_take (i := 29) (v := ?_) rfl (by kernel_rfl) (by kernel_rfl) (by kernel_rfl) (fun _ _ _ h => h) (Or.inl ⟨by rfl, ?_⟩) (by assumption) ?_
  rotate_left
  · (intro w hSw; (try dsimp only at hSw); go_simp; try with_reducible rfl)
  try simp only [Act.put, List.getElem_toArray, List.getElem_cons_succ, List.getElem_cons_zero, List.setIfInBounds_toArray, List.set_cons_zero, List.set_cons_succ]
  refine wpAnyH_take (i := 30) (v := ?_) rfl (by kernel_rfl) (by kernel_rfl) (by kernel_rfl) (fun _ _ _ h => h) (Or.inl ⟨by rfl, ?_⟩) (by assumption) ?_
  rotate_left
  · (intro w hSw; (try dsimp only at hSw); go_simp; try with_reducible rfl)
  try simp only [Act.put, List.getElem_toArray, List.getElem_cons_succ, List.getElem_cons_zero, List.setIfInBounds_toArray, List.set_cons_zero, List.set_cons_succ]
  refine wpAnyH_done (by kernel_rfl) ?_ _
  have bZN := obj_keep bZ hbW2
  have hkx := cells6 bXN
  obtain ⟨xc0, xc1, xc2, xc3, xc4, xc5⟩ := hkx
  have zc0 : wN.cell? ⟨w.heap.size + 1, 0, none⟩ = some (.int .u32 0) := cell_of_row wN (w.heap.size + 1) 0 _ _ _ bZN
  have zc1 : wN.cell? ⟨w.heap.size + 1, 1, none⟩ = some (.slice none 0 0) := cell_of_row wN (w.heap.size + 1) 1 _ _ _ bZN
  have zf0 : wN.frozen? ⟨w.heap.size + 1, 0, none⟩ = false := frozen_of_row _ _ _ _ _ bZN
  have zf1 : wN.frozen? ⟨w.heap.size + 1, 1, none⟩ = false := frozen_of_row _ _ _ _ _ bZN
  have hsN : w.heap.size + 1 < wN.heap.size := (Array.getElem?_eq_some_iff.1 bZN).1
  have hsX : w.heap.size < wN.heap.size := by omega
  have hsg : g < wN.heap.size := hSN.lt
  have oc0 : wN.cell? ⟨g, f0 + j * 38, none⟩ = some (.int .i64 s.o.k) := (hSN.at 0 (by decide)).1.trans s.cells_at.1
  have HSN := Lib.hid hSN
  have HMN := Lib.hid hMN
  have HBN := Lib.hid hbWN
  have HZN := Lib.hid bZN
  clear hSN hMN hbWN bZN bXN hbW2
  go_wp2_with (go_at_call 15; refine (hcon _ HSN.out).mono ?_; rintro e wU ⟨dv, rfl, hRd, hFr, hU⟩; obtain ⟨dA, dc, rfl⟩ := hRd.form; have bR : wU.heap[w.heap.size + 1]? = some (.cells #[.int .u32 0, .slice none 0 0] 50) := (hU.1.block _ hsN (by omega)).trans HZN.out; have rc0 : wU.cell? ⟨w.heap.size + 1, 0, none⟩ = some (.int .u32 0) := cell_of_row wU (w.heap.size + 1) 0 _ _ _ bR; have rc1 : wU.cell? ⟨w.heap.size + 1, 1, none⟩ = some (.slice none 0 0) := cell_of_row wU (w.heap.size + 1) 1 _ _ _ bR; have rf0 : wU.frozen? ⟨w.heap.size + 1, 0, none⟩ = false := frozen_of_row _ _ _ _ _ bR; have rf1 : wU.frozen? ⟨w.heap.size + 1, 1, none⟩ = false := frozen_of_row _ _ _ _ _ bR)
  refine bodyPost_ret (results_ans2 rfl _ _ (w.heap.size + 1) _ _ (set2_row bR _ _) rfl) rfl ?_
  exact MPF.lift hlt HBN.out (by omega) hsN hRd hFr hU

set_option maxHeartbeats 2000000 in
theorem doM_seq4 (w : World) (T : TabO w) (mb g f0 n cap j : Nat) (th : Int) (s : St) (who call part arg val : Int) (hM : w.heap[mb]? = some (.cells #[.int .i64 th, .slice (some ⟨g, f0, none⟩) n cap] 56 (0, 0))) (hS : Seg w g (f0 + j * 38) s) (hj : j < n) (hx0 : 0 ≤ arg) (hx1 : arg ≤ 4294967295) (hP : AskP s.o.k s.o.n s.o.a s.o.b call th who) (p0 : part = 0) (p1 : s.o.k = 9) (p2 : call = 4) (p3 : arg < s.o.n) :
    Calls Tryd.prog 9 #[.pointer (some ⟨mb, 0, none⟩), .agg #[.int .i64 who, .int .i64 ((j : Nat) : Int), .int .i64 call, .int .i64 part, .int .u32 arg, .int .u32 val]] w (MPF w g (f0 + j * 38) (doSeq s ⟨who, ((j : Nat) : Int), call, part, arg, val⟩).1 (doSeq s ⟨who, ((j : Nat) : Int), call, part, arg, val⟩).2) := by
  obtain ⟨a, ha⟩ : ∃ a, a = (doSeq s ⟨who, ((j : Nat) : Int), call, part, arg, val⟩).1 := ⟨_, rfl⟩
  obtain ⟨s', hs'⟩ : ∃ s', s' = (doSeq s ⟨who, ((j : Nat) : Int), call, part, arg, val⟩).2 := ⟨_, rfl⟩
  have hcon : ∀ W, Seg W g (f0 + j * 38) s → Calls Tryd.prog 16 #[.pointer (some ⟨g, f0 + j * 38, none⟩), .agg #[.int .i64 who, .int .i64 ((j : Nat) : Int), .int .i64 call, .int .i64 part, .int .u32 arg, .int .u32 val]] W (MPF W g (f0 + j * 38) a s') := fun W hW => by
    rw [ha, hs']
    exact seq_any W g (f0 + j * 38) s ⟨who, ((j : Nat) : Int), call, part, arg, val⟩ hW (fun e => absurd (e.symm.trans p2) (by decide)) (fun _ => ⟨arg.toNat, (by show arg = _; omega), (by obtain ⟨⟨_, _, h⟩, _⟩ := hP; omega)⟩)
  rw [← ha, ← hs']
  clear ha hs'
  have hlt := hS.lt
  have hmlt : mb < w.heap.size := (Array.getElem?_eq_some_iff.1 hM).1
  obtain ⟨bX, bZ, bB, bS⟩ := blk2 w (.cells #[.int .i64 who, .int .i64 ((j : Nat) : Int), .int .i64 call, .int .i64 part, .int .u32 arg, .int .u32 val] 32) (.cells #[.int .u32 0, .slice none 0 0] 50)
  have HS := Lib.hid hS
  have HM := Lib.hid hM
  have HT := Lib.hid T
  have m0 : w.cell? ⟨mb, 0, none⟩ = some (.int .i64 th) := cell_of_row w mb 0 _ _ _ hM
  have m1 : w.cell? ⟨mb, 1, none⟩ = some (.slice (some ⟨g, f0, none⟩) n cap) := cell_of_row w mb 1 _ _ _ hM
  have g1 : decide (((j : Nat) : Int) < 0) = false := decide_eq_false (by omega)
  have g2 : decide (((n : Nat) : Int) ≤ ((j : Nat) : Int)) = false := decide_eq_false (by omega)
  have g3 : decide (n ≤ j) = false := decide_eq_false (by omega)
  have dA : decide (AskP s.o.k s.o.n s.o.a s.o.b call th who) = true := decide_eq_true hP
  have wr0 : IntKind.u64.wrap arg = arg := by rw [IntKind.wrap_u64]; omega
  have wr1 : IntKind.u64.wrap s.o.n = s.o.n := by rw [IntKind.wrap_u64]; obtain ⟨⟨_, _, h⟩, _⟩ := hP; omega
  have q0 : (call == 4) = true := by simp; omega
  have q1 : decide (s.o.n ≤ arg) = false := by exact decide_eq_false (by omega)
  have q2 : (s.o.k != 13) = true := by simp; omega
  have q3 : (part != 0) = false := by simp; omega
  have q4 : (s.o.k == 6) = false := by simp; omega
  have q5 : (s.o.k == 7) = false := by simp; omega
  have q6 : (s.o.k == 9) = true := by simp; omega
  clear hM hS T p0 p1 p2 p3 hP
  go_enter Tryd.func9, Tryd.ntmps9
  go_wp2_with fail
  go_quiet (fail)
  go_wp2_with fail
  go_quiet (fail)
  go_wp2_with fail
  have h0S := holdM bX ((bB.block _ hmlt).trans HM.out) (Seg.below HS.out bB)
  refine wp_region_held_drew (S := fun w' => w'.cell? ⟨w.heap.size, 0, none⟩ = some (.int .i64 who) ∧ w'.cell? ⟨w.heap.size, 2, none⟩ = some (.int .i64 call) ∧ w'.cell? ⟨w.heap.size, 4, none⟩ = some (.int .u32 arg) ∧ w'.cell? ⟨mb, 0, none⟩ = some (.int .i64 th) ∧ w'.cell? ⟨g, f0 + j * 38, none⟩ = some (.int .i64 s.o.k) ∧ w'.cell? ⟨g, f0 + j * 38 + 1, none⟩ = some (.int .i64 s.o.n) ∧ w'.cell? ⟨g, f0 + j * 38 + 2, none⟩ = some (.int .i64 s.o.a) ∧ w'.cell? ⟨g, f0 + j * 38 + 3, none⟩ = some (.int .i64 s.o.b)) (by kernel_rfl) h0S (fun hHeld => ?_)
  refine wpAnyH_take (i := 0) (v := ?_) rfl (by kernel_rfl) (by kernel_rfl) (by kernel_rfl) (fun _ _ _ h => h) (Or.inl ⟨by rfl, ?_⟩) (by assumption) ?_
  rotate_left
  · (intro w hSw; (try dsimp only at hSw); go_simp; try with_reducible rfl)
  try simp only [Act.put, List.getElem_toArray, List.getElem_cons_succ, List.getElem_cons_zero, List.setIfInBounds_toArray, List.set_cons_zero, List.set_cons_succ]
  refine wpAnyH_take (i := 1) (v := ?_) rfl (by kernel_rfl) (by kernel_rfl) (by kernel_rfl) (fun _ _ _ h => h) (Or.inl ⟨by rfl, ?_⟩) (by assumption) ?_
  rotate_left
  · (intro w hSw; (try dsimp only at hSw); go_simp; try with_reducible rfl)
  try simp only [Act.put, List.getElem_toArray, List.getElem_cons_succ, List.getElem_cons_zero, List.setIfInBounds_toArray, List.set_cons_zero, List.set_cons_succ]
  refine wpAnyH_take (i := 2) (v := ?_) rfl (by kernel_rfl) (by kernel_rfl) (by kernel_rfl) (fun _ _ _ h => h) (Or.inl ⟨by rfl, ?_⟩) (by assumption) ?_
  rotate_left
  · (intro w hSw; (try dsimp only at hSw); go_simp; try with_reducible rfl)
  try simp only [Act.put, List.getElem_toArray, List.getElem_cons_succ, List.getElem_cons_zero, List.setIfInBounds_toArray, List.set_cons_zero, List.set_cons_succ]
  refine wpAnyH_take (i := 3) (v := ?_) rfl (by kernel_rfl) (by kernel_rfl) (by kernel_rfl) (fun _ _ _ h => h) (Or.inl ⟨by rfl, ?_⟩) (by assumption) ?_
  rotate_left
  · (intro w hSw; (try dsimp only at hSw); go_simp; try with_reducible rfl)
  try simp only [Act.put, List.getElem_toArray, List.getElem_cons_succ, List.getElem_cons_zero, List.setIfInBounds_toArray, List.set_cons_zero, List.set_cons_succ]
  refine wpAnyH_take (i := 4) (v := ?_) rfl (by kernel_rfl) (by kernel_rfl) (by kernel_rfl) (fun _ _ _ h => h) (Or.inl ⟨by rfl, ?_⟩) (by assumption) ?_
  rotate_left
  · (intro w hSw; (try dsimp only at hSw); go_simp; try with_reducible rfl)
  try simp only [Act.put, List.getElem_toArray, List.getElem_cons_succ, List.getElem_cons_zero, List.setIfInBounds_toArray, List.set_cons_zero, List.set_cons_succ]
  refine wpAnyH_take (i := 5) (v := ?_) rfl (by kernel_rfl) (by kernel_rfl) (by kernel_rfl) (fun _ _ _ h => h) (Or.inl ⟨by rfl, ?_⟩) (by assumption) ?_
  rotate_left
  · (intro w hSw; (try dsimp only at hSw); go_simp; try with_reducible rfl)
  try simp only [Act.put, List.getElem_toArray, List.getElem_cons_succ, List.getElem_cons_zero, List.setIfInBounds_toArray, List.set_cons_zero, List.set_cons_succ]
  refine wpAnyH_take (i := 6) (v := ?_) rfl (by kernel_rfl) (by kernel_rfl) (by kernel_rfl) (fun _ _ _ h => h) (Or.inl ⟨by rfl, ?_⟩) (by assumption) ?_
  rotate_left
  · (intro w hSw; (try dsimp only at hSw); go_simp; try with_reducible rfl)
  try simp only [Act.put, List.getElem_toArray, List.getElem_cons_succ, List.getElem_cons_zero, List.setIfInBounds_toArray, List.set_cons_zero, List.set_cons_succ]
  refine wpAnyH_take (i := 7) (v := ?_) rfl (by kernel_rfl) (by kernel_rfl) (by kernel_rfl) (fun _ _ _ h => h) (Or.inl ⟨by rfl, ?_⟩) (by assumption) ?_
  rotate_left
  · (intro w hSw; (try dsimp only at hSw); go_simp; try with_reducible rfl)
  try simp only [Act.put, List.getElem_toArray, List.getElem_cons_succ, List.getElem_cons_zero, List.setIfInBounds_toArray, List.set_cons_zero, List.set_cons_succ]
  refine wpAnyH_take (i := 8) (v := ?_) rfl (by kernel_rfl) (by kernel_rfl) (by kernel_rfl) (fun _ _ _ h => h) (Or.inl ⟨by rfl, ?_⟩) (by assumption) ?_
  rotate_left
  · (intro w hSw; (try dsimp only at hSw); go_simp; try with_reducible rfl)
  try simp only [Act.put, List.getElem_toArray, List.getElem_cons_succ, List.getElem_cons_zero, List.setIfInBounds_toArray, List.set_cons_zero, List.set_cons_succ]
  refine wpAnyH_take (i := 9) (v := ?_) rfl (by kernel_rfl) (by kernel_rfl) (by kernel_rfl) (fun _ _ _ h => h) (Or.inl ⟨by rfl, ?_⟩) (by assumption) ?_
  rotate_left
  · (intro w hSw; (try dsimp only at hSw); go_simp; try with_reducible rfl)
  try simp only [Act.put, List.getElem_toArray, List.getElem_cons_succ, List.getElem_cons_zero, List.setIfInBounds_toArray, List.set_cons_zero, List.set_cons_succ]
  refine wpAnyH_take (i := 10) (v := ?_) rfl (by kernel_rfl) (by kernel_rfl) (by kernel_rfl) (fun _ _ _ h => h) (Or.inl ⟨by rfl, ?_⟩) (by assumption) ?_
  rotate_left
  · (intro w hSw; (try dsimp only at hSw); go_simp; try with_reducible rfl)
  try simp only [Act.put, List.getElem_toArray, List.getElem_cons_succ, List.getElem_cons_zero, List.setIfInBounds_toArray, List.set_cons_zero, List.set_cons_succ]
  refine wpAnyH_take (i := 11) (v := ?_) rfl (by kernel_rfl) (by kernel_rfl) (by kernel_rfl) (fun _ _ _ h => h) (Or.inl ⟨by rfl, ?_⟩) (by assumption) ?_
  rotate_left
  · (intro w hSw; (try dsimp only at hSw); go_simp; try with_reducible rfl)
  try simp only [Act.put, List.getElem_toArray, List.getElem_cons_succ, List.getElem_cons_zero, List.setIfInBounds_toArray, List.set_cons_zero, List.set_cons_succ]
  refine wpAnyH_ready (rs := [12]) (by kernel_rfl) (by simp) ?_
  refine AllReadyH.cons rfl (fun K hK => ?_) AllReadyH.nil
  go_simp
  (go_at_call 14; refine (spinMay_any _ (by first | exact (HT.out.below bB (Nat.le_refl _)) | exact TabO.below (HT.out.below bB (Nat.le_refl _)) (bl_drewN (Below.refl _ _) _) (Nat.le_refl _) | exact TabO.below (HT.out.below bB (Nat.le_refl _)) (bl_drew (bl_drewN (Below.refl _ _) _)) (Nat.le_refl _)) _ _ _ _ _ _ _).mono ?_; rintro e wN ⟨he, hbN⟩; rw [dA] at he; subst he; have hbW2 : Below (((w.alloc (.cells #[.int .i64 who, .int .i64 ((j : Nat) : Int), .int .i64 call, .int .i64 part, .int .u32 arg, .int .u32 val] 32)).alloc (.cells #[.int .u32 0, .slice none 0 0] 50))).heap.size (((w.alloc (.cells #[.int .i64 who, .int .i64 ((j : Nat) : Int), .int .i64 call, .int .i64 part, .int .u32 arg, .int .u32 val] 32)).alloc (.cells #[.int .u32 0, .slice none 0 0] 50))) wN := ⟨hbN.os, hbN.tape, hbN.output, hbN.size, hbN.block⟩; have hbWN := bB.trans (hbW2.mono bB.size); have bXN := obj_keep bX hbW2; have hMN := (hbWN.block _ hmlt).trans HM.out; have hSN := Seg.below HS.out hbWN)
  go_wp2_with fail
  refine hK.out _ _ (holdM bXN hMN hSN) (fun hHeld2 => ?_)
  clear hK K hHeld
  refine wpAnyH_take (i := 13) (v := ?_) rfl (by kernel_rfl) (by kernel_rfl) (by kernel_rfl) (fun _ _ _ h => h) (Or.inl ⟨by rfl, ?_⟩) (by assumption) ?_
  rotate_left
  · (intro w hSw; (try dsimp only at hSw); go_simp; try with_reducible rfl)
  try simp only [Act.put, List.getElem_toArray, List.getElem_cons_succ, List.getElem_cons_zero, List.setIfInBounds_toArray, List.set_cons_zero, List.set_cons_succ]
  refine wpAnyH_take (i := 14) (v := ?_) rfl (by kernel_rfl) (by kernel_rfl) (by kernel_rfl) (fun _ _ _ h => h) (Or.inl ⟨by rfl, ?_⟩) (by assumption) ?_
  rotate_left
  · (intro w hSw; (try dsimp only at hSw); go_simp; try with_reducible rfl)
  try simp only [Act.put, List.getElem_toArray, List.getElem_cons_succ, List.getElem_cons_zero, List.setIfInBounds_toArray, List.set_cons_zero, List.set_cons_succ]
  refine wpAnyH_take (i := 15) (v := ?_) rfl (by kernel_rfl) (by kernel_rfl) (by kernel_rfl) (fun _ _ _ h => h) (Or.inl ⟨by rfl, ?_⟩) (by assumption) ?_
  rotate_left
  · (intro w hSw; (try dsimp only at hSw); go_simp; try with_reducible rfl)
  try simp only [Act.put, List.getElem_toArray, List.getElem_cons_succ, List.getElem_cons_zero, List.setIfInBounds_toArray, List.set_cons_zero, List.set_cons_succ]
  refine wpAnyH_take (i := 16) (v := ?_) rfl (by kernel_rfl) (by kernel_rfl) (by kernel_rfl) (fun _ _ _ h => h) (Or.inl ⟨by rfl, ?_⟩) (by assumption) ?_
  rotate_left
  · (intro w hSw; (try dsimp only at hSw); go_simp; try with_reducible rfl)
  try simp only [Act.put, List.getElem_toArray, List.getElem_cons_succ, List.getElem_cons_zero, List.setIfInBounds_toArray, List.set_cons_zero, List.set_cons_succ]
  refine wpAnyH_take (i := 17) (v := ?_) rfl (by kernel_rfl) (by kernel_rfl) (by kernel_rfl) (fun _ _ _ h => h) (Or.inl ⟨by rfl, ?_⟩) (by assumption) ?_
  rotate_left
  · (intro w hSw; (try dsimp only at hSw); go_simp; try with_reducible rfl)
  try simp only [Act.put, List.getElem_toArray, List.getElem_cons_succ, List.getElem_cons_zero, List.setIfInBounds_toArray, List.set_cons_zero, List.set_cons_succ]
  refine wpAnyH_take (i := 18) (v := ?_) rfl (by kernel_rfl) (by kernel_rfl) (by kernel_rfl) (fun _ _ _ h => h) (Or.inl ⟨by rfl, ?_⟩) (by assumption) ?_
  rotate_left
  · (intro w hSw; (try dsimp only at hSw); go_simp; try with_reducible rfl)
  try simp only [Act.put, List.getElem_toArray, List.getElem_cons_succ, List.getElem_cons_zero, List.setIfInBounds_toArray, List.set_cons_zero, List.set_cons_succ]
  refine wpAnyH_take (i := 19) (v := ?_) rfl (by kernel_rfl) (by kernel_rfl) (by kernel_rfl) (fun _ _ _ h => h) (Or.inl ⟨by rfl, ?_⟩) (by assumption) ?_
  rotate_left
  · (intro w hSw; (try dsimp only at hSw); go_simp; try with_reducible rfl)
  try simp only [Act.put, List.getElem_toArray, List.getElem_cons_succ, List.getElem_cons_zero, List.setIfInBounds_toArray, List.set_cons_zero, List.set_cons_succ]
  refine wpAnyH_take (i := 20) (v := ?_) rfl (by kernel_rfl) (by kernel_rfl) (by kernel_rfl) (fun _ _ _ h => h) (Or.inl ⟨by rfl, ?_⟩) (by assumption) ?_
  rotate_left
  · (intro w hSw; (try dsimp only at hSw); go_simp; try with_reducible rfl)
  try simp only [Act.put, List.getElem_toArray, List.getElem_cons_succ, List.getElem_cons_zero, List.setIfInBounds_toArray, List.set_cons_zero, List.set_cons_succ]
  refine wpAnyH_take (i := 21) (v := ?_) rfl (by kernel_rfl) (by kernel_rfl) (by kernel_rfl) (fun _ _ _ h => h) (Or.inl ⟨by rfl, ?_⟩) (by assumption) ?_
  rotate_left
  · (intro w hSw; (try dsimp only at hSw); go_simp; try with_reducible rfl)
  try simp only [Act.put, List.getElem_toArray, List.getElem_cons_succ, List.getElem_cons_zero, List.setIfInBounds_toArray, List.set_cons_zero, List.set_cons_succ]
  refine wpAnyH_take (i := 22) (v := ?_) rfl (by kernel_rfl) (by kernel_rfl) (by kernel_rfl) (fun _ _ _ h => h) (Or.inl ⟨by rfl, ?_⟩) (by assumption) ?_
  rotate_left
  · (intro w hSw; (try dsimp only at hSw); go_simp; try with_reducible rfl)
  try simp only [Act.put, List.getElem_toArray, List.getElem_cons_succ, List.getElem_cons_zero, List.setIfInBounds_toArray, List.set_cons_zero, List.set_cons_succ]
  refine wpAnyH_take (i := 23) (v := ?_) rfl (by kernel_rfl) (by kernel_rfl) (by kernel_rfl) (fun _ _ _ h => h) (Or.inl ⟨by rfl, ?_⟩) (by assumption) ?_
  rotate_left
  · (intro w hSw; (try dsimp only at hSw); go_simp; try with_reducible rfl)
  try simp only [Act.put, List.getElem_toArray, List.getElem_cons_succ, List.getElem_cons_zero, List.setIfInBounds_toArray, List.set_cons_zero, List.set_cons_succ]
  refine wpAnyH_take (i := 24) (v := ?_) rfl (by kernel_rfl) (by kernel_rfl) (by kernel_rfl) (fun _ _ _ h => h) (Or.inl ⟨by rfl, ?_⟩) (by assumption) ?_
  rotate_left
  · (intro w hSw; (try dsimp only at hSw); go_simp; try with_reducible rfl)
  try simp only [Act.put, List.getElem_toArray, List.getElem_cons_succ, List.getElem_cons_zero, List.setIfInBounds_toArray, List.set_cons_zero, List.set_cons_succ]
  refine wpAnyH_take (i := 25) (v := ?_) rfl (by kernel_rfl) (by kernel_rfl) (by kernel_rfl) (fun _ _ _ h => h) (Or.inl ⟨by rfl, ?_⟩) (by assumption) ?_
  rotate_left
  · (intro w hSw; (try dsimp only at hSw); go_simp; try with_reducible rfl)
  try simp only [Act.put, List.getElem_toArray, List.getElem_cons_succ, List.getElem_cons_zero, List.setIfInBounds_toArray, List.set_cons_zero, List.set_cons_succ]
  refine wpAnyH_take (i := 26) (v := ?_) rfl (by kernel_rfl) (by kernel_rfl) (by kernel_rfl) (fun _ _ _ h => h) (Or.inl ⟨by rfl, ?_⟩) (by assumption) ?_
  rotate_left
  · (intro w hSw; (try dsimp only at hSw); go_simp; try with_reducible rfl)
  try simp only [Act.put, List.getElem_toArray, List.getElem_cons_succ, List.getElem_cons_zero, List.setIfInBounds_toArray, List.set_cons_zero, List.set_cons_succ]
  refine wpAnyH_take (i := 27) (v := ?_) rfl (by kernel_rfl) (by kernel_rfl) (by kernel_rfl) (fun _ _ _ h => h) (Or.inl ⟨by rfl, ?_⟩) (by assumption) ?_
  rotate_left
  · (intro w hSw; (try dsimp only at hSw); go_simp; try with_reducible rfl)
  try simp only [Act.put, List.getElem_toArray, List.getElem_cons_succ, List.getElem_cons_zero, List.setIfInBounds_toArray, List.set_cons_zero, List.set_cons_succ]
  refine wpAnyH_take (i := 28) (v := ?_) rfl (by kernel_rfl) (by kernel_rfl) (by kernel_rfl) (fun _ _ _ h => h) (Or.inl ⟨by rfl, ?_⟩) (by assumption) ?_
  rotate_left
  · (intro w hSw; (try dsimp only at hSw); go_simp; try with_reducible rfl)
  try simp only [Act.put, List.getElem_toArray, List.getElem_cons_succ, List.getElem_cons_zero, List.setIfInBounds_toArray, List.set_cons_zero, List.set_cons_succ]
  refine wpAnyH_take (i := 29) (v := ?_) rfl (by kernel_rfl) (by kernel_rfl) (by kernel_rfl) (fun _ _ _ h => h) (Or.inl ⟨by rfl, ?_⟩) (by assumption) ?_
  rotate_left
  · (intro w hSw; (try dsimp only at hSw); go_simp; try with_reducible rfl)
  try simp only [Act.put, List.getElem_toArray, List.getElem_cons_succ, List.getElem_cons_zero, List.setIfInBounds_toArray, List.set_cons_zero, List.set_cons_succ]
  refine wpAnyH_take (i := 30) (v := ?_) rfl (by kernel_rfl) (by kernel_rfl) (by kernel_rfl) (fun _ _ _ h => h) (Or.inl ⟨by rfl, ?_⟩) (by assumption) ?_
  rotate_left
  · (intro w hSw; (try dsimp only at hSw); go_simp; try with_reducible rfl)
  try simp only [Act.put, List.getElem_toArray, List.getElem_cons_succ, List.getElem_cons_zero, List.setIfInBounds_toArray, List.set_cons_zero, List.set_cons_succ]
  refine wpAnyH_done (by kernel_rfl) ?_ _
  have bZN := obj_keep bZ hbW2
  have hkx := cells6 bXN
  obtain ⟨xc0, xc1, xc2, xc3, xc4, xc5⟩ := hkx
  have zc0 : wN.cell? ⟨w.heap.size + 1, 0, none⟩ = some (.int .u32 0) := cell_of_row wN (w.heap.size + 1) 0 _ _ _ bZN
  have zc1 : wN.cell? ⟨w.heap.size + 1, 1, none⟩ = some (.slice none 0 0) := cell_of_row wN (w.heap.size + 1) 1 _ _ _ bZN
  have zf0 : wN.frozen? ⟨w.heap.size + 1, 0, none⟩ = false := frozen_of_row _ _ _ _ _ bZN
  have zf1 : wN.frozen? ⟨w.heap.size + 1, 1, none⟩ = false := frozen_of_row _ _ _ _ _ bZN
  have hsN : w.heap.size + 1 < wN.heap.size := (Array.getElem?_eq_some_iff.1 bZN).1
  have hsX : w.heap.size < wN.heap.size := by omega
  have hsg : g < wN.heap.size := hSN.lt
  have oc0 : wN.cell? ⟨g, f0 + j * 38, none⟩ = some (.int .i64 s.o.k) := (hSN.at 0 (by decide)).1.trans s.cells_at.1
  have HSN := Lib.hid hSN
  have HMN := Lib.hid hMN
  have HBN := Lib.hid hbWN
  have HZN := Lib.hid bZN
  clear hSN hMN hbWN bZN bXN hbW2
  go_wp2_with (go_at_call 16; refine (hcon _ HSN.out).mono ?_; rintro e wU ⟨dv, rfl, hRd, hFr, hU⟩; obtain ⟨dA, dc, rfl⟩ := hRd.form; have bR : wU.heap[w.heap.size + 1]? = some (.cells #[.int .u32 0, .slice none 0 0] 50) := (hU.1.block _ hsN (by omega)).trans HZN.out; have rc0 : wU.cell? ⟨w.heap.size + 1, 0, none⟩ = some (.int .u32 0) := cell_of_row wU (w.heap.size + 1) 0 _ _ _ bR; have rc1 : wU.cell? ⟨w.heap.size + 1, 1, none⟩ = some (.slice none 0 0) := cell_of_row wU (w.heap.size + 1) 1 _ _ _ bR; have rf0 : wU.frozen? ⟨w.heap.size + 1, 0, none⟩ = false := frozen_of_row _ _ _ _ _ bR; have rf1 : wU.frozen? ⟨w.heap.size + 1, 1, none⟩ = false := frozen_of_row _ _ _ _ _ bR)
  refine bodyPost_ret (results_ans2 rfl _ _ (w.heap.size + 1) _ _ (set2_row bR _ _) rfl) rfl ?_
  exact MPF.lift hlt HBN.out (by omega) hsN hRd hFr hU

set_option maxHeartbeats 2000000 in
theorem doM_seq (w : World) (T : TabO w) (mb g f0 n cap j : Nat) (th : Int) (s : St) (who call part arg val : Int) (hM : w.heap[mb]? = some (.cells #[.int .i64 th, .slice (some ⟨g, f0, none⟩) n cap] 56 (0, 0))) (hS : Seg w g (f0 + j * 38) s) (hj : j < n) (hx0 : 0 ≤ arg) (hx1 : arg ≤ 4294967295) (hP : AskP s.o.k s.o.n s.o.a s.o.b call th who) (p0 : part = 0) (p1 : s.o.k = 9) (p2 : call ≠ 4) :
    Calls Tryd.prog 9 #[.pointer (some ⟨mb, 0, none⟩), .agg #[.int .i64 who, .int .i64 ((j : Nat) : Int), .int .i64 call, .int .i64 part, .int .u32 arg, .int .u32 val]] w (MPF w g (f0 + j * 38) (doSeq s ⟨who, ((j : Nat) : Int), call, part, arg, val⟩).1 (doSeq s ⟨who, ((j : Nat) : Int), call, part, arg, val⟩).2) := by
  obtain ⟨a, ha⟩ : ∃ a, a = (doSeq s ⟨who, ((j : Nat) : Int), call, part, arg, val⟩).1 := ⟨_, rfl⟩
  obtain ⟨s', hs'⟩ : ∃ s', s' = (doSeq s ⟨who, ((j : Nat) : Int), call, part, arg, val⟩).2 := ⟨_, rfl⟩
  have hcon : ∀ W, Seg W g (f0 + j * 38) s → Calls Tryd.prog 16 #[.pointer (some ⟨g, f0 + j * 38, none⟩), .agg #[.int .i64 who, .int .i64 ((j : Nat) : Int), .int .i64 call, .int .i64 part, .int .u32 arg, .int .u32 val]] W (MPF W g (f0 + j * 38) a s') := fun W hW => by
    rw [ha, hs']
    exact seq_any W g (f0 + j * 38) s ⟨who, ((j : Nat) : Int), call, part, arg, val⟩ hW (fun _ => ⟨s.o.n.toNat, (by obtain ⟨⟨_, _, h⟩, _⟩ := hP; omega), (by obtain ⟨⟨_, _, h⟩, _⟩ := hP; omega), (by obtain ⟨⟨_, _, h⟩, _⟩ := hP; omega)⟩) (fun e => absurd e p2)
  rw [← ha, ← hs']
  clear ha hs'
  have hlt := hS.lt
  have hmlt : mb < w.heap.size := (Array.getElem?_eq_some_iff.1 hM).1
  obtain ⟨bX, bZ, bB, bS⟩ := blk2 w (.cells #[.int .i64 who, .int .i64 ((j : Nat) : Int), .int .i64 call, .int .i64 part, .int .u32 arg, .int .u32 val] 32) (.cells #[.int .u32 0, .slice none 0 0] 50)
  have HS := Lib.hid hS
  have HM := Lib.hid hM
  have HT := Lib.hid T
  have m0 : w.cell? ⟨mb, 0, none⟩ = some (.int .i64 th) := cell_of_row w mb 0 _ _ _ hM
  have m1 : w.cell? ⟨mb, 1, none⟩ = some (.slice (some ⟨g, f0, none⟩) n cap) := cell_of_row w mb 1 _ _ _ hM
  have g1 : decide (((j : Nat) : Int) < 0) = false := decide_eq_false (by omega)
  have g2 : decide (((n : Nat) : Int) ≤ ((j : Nat) : Int)) = false := decide_eq_false (by omega)
  have g3 : decide (n ≤ j) = false := decide_eq_false (by omega)
  have dA : decide (AskP s.o.k s.o.n s.o.a s.o.b call th who) = true := decide_eq_true hP
  have wr0 : IntKind.u64.wrap arg = arg := by rw [IntKind.wrap_u64]; omega
  have wr1 : IntKind.u64.wrap s.o.n = s.o.n := by rw [IntKind.wrap_u64]; obtain ⟨⟨_, _, h⟩, _⟩ := hP; omega
  have q0 : (call == 4) = false := by simp; omega
  have q1 : (s.o.k != 13) = true := by simp; omega
  have q2 : (part != 0) = false := by simp; omega
  have q3 : (s.o.k == 6) = false := by simp; omega
  have q4 : (s.o.k == 7) = false := by simp; omega
  have q5 : (s.o.k == 9) = true := by simp; omega
  clear hM hS T p0 p1 p2 hP
  go_enter Tryd.func9, Tryd.ntmps9
  go_wp2_with fail
  go_quiet (fail)
  go_wp2_with fail
  go_quiet (fail)
  go_wp2_with fail
  have h0S := holdM bX ((bB.block _ hmlt).trans HM.out) (Seg.below HS.out bB)
  refine wp_region_held_drew (S := fun w' => w'.cell? ⟨w.heap.size, 0, none⟩ = some (.int .i64 who) ∧ w'.cell? ⟨w.heap.size, 2, none⟩ = some (.int .i64 call) ∧ w'.cell? ⟨w.heap.size, 4, none⟩ = some (.int .u32 arg) ∧ w'.cell? ⟨mb, 0, none⟩ = some (.int .i64 th) ∧ w'.cell? ⟨g, f0 + j * 38, none⟩ = some (.int .i64 s.o.k) ∧ w'.cell? ⟨g, f0 + j * 38 + 1, none⟩ = some (.int .i64 s.o.n) ∧ w'.cell? ⟨g, f0 + j * 38 + 2, none⟩ = some (.int .i64 s.o.a) ∧ w'.cell? ⟨g, f0 + j * 38 + 3, none⟩ = some (.int .i64 s.o.b)) (by kernel_rfl) h0S (fun hHeld => ?_)
  refine wpAnyH_take (i := 0) (v := ?_) rfl (by kernel_rfl) (by kernel_rfl) (by kernel_rfl) (fun _ _ _ h => h) (Or.inl ⟨by rfl, ?_⟩) (by assumption) ?_
  rotate_left
  · (intro w hSw; (try dsimp only at hSw); go_simp; try with_reducible rfl)
  try simp only [Act.put, List.getElem_toArray, List.getElem_cons_succ, List.getElem_cons_zero, List.setIfInBounds_toArray, List.set_cons_zero, List.set_cons_succ]
  refine wpAnyH_take (i := 1) (v := ?_) rfl (by kernel_rfl) (by kernel_rfl) (by kernel_rfl) (fun _ _ _ h => h) (Or.inl ⟨by rfl, ?_⟩) (by assumption) ?_
  rotate_left
  · (intro w hSw; (try dsimp only at hSw); go_simp; try with_reducible rfl)
  try simp only [Act.put, List.getElem_toArray, List.getElem_cons_succ, List.getElem_cons_zero, List.setIfInBounds_toArray, List.set_cons_zero, List.set_cons_succ]
  refine wpAnyH_take (i := 2) (v := ?_) rfl (by kernel_rfl) (by kernel_rfl) (by kernel_rfl) (fun _ _ _ h => h) (Or.inl ⟨by rfl, ?_⟩) (by assumption) ?_
  rotate_left
  · (intro w hSw; (try dsimp only at hSw); go_simp; try with_reducible rfl)
  try simp only [Act.put, List.getElem_toArray, List.getElem_cons_succ, List.getElem_cons_zero, List.setIfInBounds_toArray, List.set_cons_zero, List.set_cons_succ]
  refine wpAnyH_take (i := 3) (v := ?_) rfl (by kernel_rfl) (by kernel_rfl) (by kernel_rfl) (fun _ _ _ h => h) (Or.inl ⟨by rfl, ?_⟩) (by assumption) ?_
  rotate_left
  · (intro w hSw; (try dsimp only at hSw); go_simp; try with_reducible rfl)
  try simp only [Act.put, List.getElem_toArray, List.getElem_cons_succ, List.getElem_cons_zero, List.setIfInBounds_toArray, List.set_cons_zero, List.set_cons_succ]
  refine wpAnyH_take (i := 4) (v := ?_) rfl (by kernel_rfl) (by kernel_rfl) (by kernel_rfl) (fun _ _ _ h => h) (Or.inl ⟨by rfl, ?_⟩) (by assumption) ?_
  rotate_left
  · (intro w hSw; (try dsimp only at hSw); go_simp; try with_reducible rfl)
  try simp only [Act.put, List.getElem_toArray, List.getElem_cons_succ, List.getElem_cons_zero, List.setIfInBounds_toArray, List.set_cons_zero, List.set_cons_succ]
  refine wpAnyH_take (i := 5) (v := ?_) rfl (by kernel_rfl) (by kernel_rfl) (by kernel_rfl) (fun _ _ _ h => h) (Or.inl ⟨by rfl, ?_⟩) (by assumption) ?_
  rotate_left
  · (intro w hSw; (try dsimp only at hSw); go_simp; try with_reducible rfl)
  try simp only [Act.put, List.getElem_toArray, List.getElem_cons_succ, List.getElem_cons_zero, List.setIfInBounds_toArray, List.set_cons_zero, List.set_cons_succ]
  refine wpAnyH_take (i := 6) (v := ?_) rfl (by kernel_rfl) (by kernel_rfl) (by kernel_rfl) (fun _ _ _ h => h) (Or.inl ⟨by rfl, ?_⟩) (by assumption) ?_
  rotate_left
  · (intro w hSw; (try dsimp only at hSw); go_simp; try with_reducible rfl)
  try simp only [Act.put, List.getElem_toArray, List.getElem_cons_succ, List.getElem_cons_zero, List.setIfInBounds_toArray, List.set_cons_zero, List.set_cons_succ]
  refine wpAnyH_take (i := 7) (v := ?_) rfl (by kernel_rfl) (by kernel_rfl) (by kernel_rfl) (fun _ _ _ h => h) (Or.inl ⟨by rfl, ?_⟩) (by assumption) ?_
  rotate_left
  · (intro w hSw; (try dsimp only at hSw); go_simp; try with_reducible rfl)
  try simp only [Act.put, List.getElem_toArray, List.getElem_cons_succ, List.getElem_cons_zero, List.setIfInBounds_toArray, List.set_cons_zero, List.set_cons_succ]
  refine wpAnyH_take (i := 8) (v := ?_) rfl (by kernel_rfl) (by kernel_rfl) (by kernel_rfl) (fun _ _ _ h => h) (Or.inl ⟨by rfl, ?_⟩) (by assumption) ?_
  rotate_left
  · (intro w hSw; (try dsimp only at hSw); go_simp; try with_reducible rfl)
  try simp only [Act.put, List.getElem_toArray, List.getElem_cons_succ, List.getElem_cons_zero, List.setIfInBounds_toArray, List.set_cons_zero, List.set_cons_succ]
  refine wpAnyH_take (i := 9) (v := ?_) rfl (by kernel_rfl) (by kernel_rfl) (by kernel_rfl) (fun _ _ _ h => h) (Or.inl ⟨by rfl, ?_⟩) (by assumption) ?_
  rotate_left
  · (intro w hSw; (try dsimp only at hSw); go_simp; try with_reducible rfl)
  try simp only [Act.put, List.getElem_toArray, List.getElem_cons_succ, List.getElem_cons_zero, List.setIfInBounds_toArray, List.set_cons_zero, List.set_cons_succ]
  refine wpAnyH_take (i := 10) (v := ?_) rfl (by kernel_rfl) (by kernel_rfl) (by kernel_rfl) (fun _ _ _ h => h) (Or.inl ⟨by rfl, ?_⟩) (by assumption) ?_
  rotate_left
  · (intro w hSw; (try dsimp only at hSw); go_simp; try with_reducible rfl)
  try simp only [Act.put, List.getElem_toArray, List.getElem_cons_succ, List.getElem_cons_zero, List.setIfInBounds_toArray, List.set_cons_zero, List.set_cons_succ]
  refine wpAnyH_take (i := 11) (v := ?_) rfl (by kernel_rfl) (by kernel_rfl) (by kernel_rfl) (fun _ _ _ h => h) (Or.inl ⟨by rfl, ?_⟩) (by assumption) ?_
  rotate_left
  · (intro w hSw; (try dsimp only at hSw); go_simp; try with_reducible rfl)
  try simp only [Act.put, List.getElem_toArray, List.getElem_cons_succ, List.getElem_cons_zero, List.setIfInBounds_toArray, List.set_cons_zero, List.set_cons_succ]
  refine wpAnyH_ready (rs := [12]) (by kernel_rfl) (by simp) ?_
  refine AllReadyH.cons rfl (fun K hK => ?_) AllReadyH.nil
  go_simp
  (go_at_call 14; refine (spinMay_any _ (by first | exact (HT.out.below bB (Nat.le_refl _)) | exact TabO.below (HT.out.below bB (Nat.le_refl _)) (bl_drewN (Below.refl _ _) _) (Nat.le_refl _) | exact TabO.below (HT.out.below bB (Nat.le_refl _)) (bl_drew (bl_drewN (Below.refl _ _) _)) (Nat.le_refl _)) _ _ _ _ _ _ _).mono ?_; rintro e wN ⟨he, hbN⟩; rw [dA] at he; subst he; have hbW2 : Below (((w.alloc (.cells #[.int .i64 who, .int .i64 ((j : Nat) : Int), .int .i64 call, .int .i64 part, .int .u32 arg, .int .u32 val] 32)).alloc (.cells #[.int .u32 0, .slice none 0 0] 50))).heap.size (((w.alloc (.cells #[.int .i64 who, .int .i64 ((j : Nat) : Int), .int .i64 call, .int .i64 part, .int .u32 arg, .int .u32 val] 32)).alloc (.cells #[.int .u32 0, .slice none 0 0] 50))) wN := ⟨hbN.os, hbN.tape, hbN.output, hbN.size, hbN.block⟩; have hbWN := bB.trans (hbW2.mono bB.size); have bXN := obj_keep bX hbW2; have hMN := (hbWN.block _ hmlt).trans HM.out; have hSN := Seg.below HS.out hbWN)
  go_wp2_with fail
  refine hK.out _ _ (holdM bXN hMN hSN) (fun hHeld2 => ?_)
  clear hK K hHeld
  refine wpAnyH_take (i := 13) (v := ?_) rfl (by kernel_rfl) (by kernel_rfl) (by kernel_rfl) (fun _ _ _ h => h) (Or.inl ⟨by rfl, ?_⟩) (by assumption) ?_
  rotate_left
  · (intro w hSw; (try dsimp only at hSw); go_simp; try with_reducible rfl)
  try simp only [Act.put, List.getElem_toArray, List.getElem_cons_succ, List.getElem_cons_zero, List.setIfInBounds_toArray, List.set_cons_zero, List.set_cons_succ]
  refine wpAnyH_take (i := 14) (v := ?_) rfl (by kernel_rfl) (by kernel_rfl) (by kernel_rfl) (fun _ _ _ h => h) (Or.inl ⟨by rfl, ?_⟩) (by assumption) ?_
  rotate_left
  · (intro w hSw; (try dsimp only at hSw); go_simp; try with_reducible rfl)
  try simp only [Act.put, List.getElem_toArray, List.getElem_cons_succ, List.getElem_cons_zero, List.setIfInBounds_toArray, List.set_cons_zero, List.set_cons_succ]
  refine wpAnyH_take (i := 15) (v := ?_) rfl (by kernel_rfl) (by kernel_rfl) (by kernel_rfl) (fun _ _ _ h => h) (Or.inl ⟨by rfl, ?_⟩) (by assumption) ?_
  rotate_left
  · (intro w hSw; (try dsimp only at hSw); go_simp; try with_reducible rfl)
  try simp only [Act.put, List.getElem_toArray, List.getElem_cons_succ, List.getElem_cons_zero, List.setIfInBounds_toArray, List.set_cons_zero, List.set_cons_succ]
  refine wpAnyH_take (i := 16) (v := ?_) rfl (by kernel_rfl) (by kernel_rfl) (by kernel_rfl) (fun _ _ _ h => h) (Or.inl ⟨by rfl, ?_⟩) (by assumption) ?_
  rotate_left
  · (intro w hSw; (try dsimp only at hSw); go_simp; try with_reducible rfl)
  try simp only [Act.put, List.getElem_toArray, List.getElem_cons_succ, List.getElem_cons_zero, List.setIfInBounds_toArray, List.set_cons_zero, List.set_cons_succ]
  refine wpAnyH_take (i := 17) (v := ?_) rfl (by kernel_rfl) (by kernel_rfl) (by kernel_rfl) (fun _ _ _ h => h) (Or.inl ⟨by rfl, ?_⟩) (by assumption) ?_
  rotate_left
  · (intro w hSw; (try dsimp only at hSw); go_simp; try with_reducible rfl)
  try simp only [Act.put, List.getElem_toArray, List.getElem_cons_succ, List.getElem_cons_zero, List.setIfInBounds_toArray, List.set_cons_zero, List.set_cons_succ]
  refine wpAnyH_take (i := 18) (v := ?_) rfl (by kernel_rfl) (by kernel_rfl) (by kernel_rfl) (fun _ _ _ h => h) (Or.inl ⟨by rfl, ?_⟩) (by assumption) ?_
  rotate_left
  · (intro w hSw; (try dsimp only at hSw); go_simp; try with_reducible rfl)
  try simp only [Act.put, List.getElem_toArray, List.getElem_cons_succ, List.getElem_cons_zero, List.setIfInBounds_toArray, List.set_cons_zero, List.set_cons_succ]
  refine wpAnyH_take (i := 19) (v := undef) rfl (by kernel_rfl) (by kernel_rfl) (by kernel_rfl) (fun _ _ _ h => h) (Or.inr ⟨by kernel_rfl, rfl⟩) (by assumption) ?_
  try simp only [Act.put, List.getElem_toArray, List.getElem_cons_succ, List.getElem_cons_zero, List.setIfInBounds_toArray, List.set_cons_zero, List.set_cons_succ]
  refine wpAnyH_take (i := 20) (v := undef) rfl (by kernel_rfl) (by kernel_rfl) (by kernel_rfl) (fun _ _ _ h => h) (Or.inr ⟨by kernel_rfl, rfl⟩) (by assumption) ?_
  try simp only [Act.put, List.getElem_toArray, List.getElem_cons_succ, List.getElem_cons_zero, List.setIfInBounds_toArray, List.set_cons_zero, List.set_cons_succ]
  refine wpAnyH_take (i := 21) (v := undef) rfl (by kernel_rfl) (by kernel_rfl) (by kernel_rfl) (fun _ _ _ h => h) (Or.inr ⟨by kernel_rfl, rfl⟩) (by assumption) ?_
  try simp only [Act.put, List.getElem_toArray, List.getElem_cons_succ, List.getElem_cons_zero, List.setIfInBounds_toArray, List.set_cons_zero, List.set_cons_succ]
  refine wpAnyH_take (i := 22) (v := undef) rfl (by kernel_rfl) (by kernel_rfl) (by kernel_rfl) (fun _ _ _ h => h) (Or.inr ⟨by kernel_rfl, rfl⟩) (by assumption) ?_
  try simp only [Act.put, List.getElem_toArray, List.getElem_cons_succ, List.getElem_cons_zero, List.setIfInBounds_toArray, List.set_cons_zero, List.set_cons_succ]
  refine wpAnyH_take (i := 23) (v := undef) rfl (by kernel_rfl) (by kernel_rfl) (by kernel_rfl) (fun _ _ _ h => h) (Or.inr ⟨by kernel_rfl, rfl⟩) (by assumption) ?_
  try simp only [Act.put, List.getElem_toArray, List.getElem_cons_succ, List.getElem_cons_zero, List.setIfInBounds_toArray, List.set_cons_zero, List.set_cons_succ]
  refine wpAnyH_take (i := 24) (v := undef) rfl (by kernel_rfl) (by kernel_rfl) (by kernel_rfl) (fun _ _ _ h => h) (Or.inr ⟨by kernel_rfl, rfl⟩) (by assumption) ?_
  try simp only [Act.put, List.getElem_toArray, List.getElem_cons_succ, List.getElem_cons_zero, List.setIfInBounds_toArray, List.set_cons_zero, List.set_cons_succ]
  refine wpAnyH_take (i := 25) (v := undef) rfl (by kernel_rfl) (by kernel_rfl) (by kernel_rfl) (fun _ _ _ h => h) (Or.inr ⟨by kernel_rfl, rfl⟩) (by assumption) ?_
  try simp only [Act.put, List.getElem_toArray, List.getElem_cons_succ, List.getElem_cons_zero, List.setIfInBounds_toArray, List.set_cons_zero, List.set_cons_succ]
  refine wpAnyH_take (i := 26) (v := undef) rfl (by kernel_rfl) (by kernel_rfl) (by kernel_rfl) (fun _ _ _ h => h) (Or.inr ⟨by kernel_rfl, rfl⟩) (by assumption) ?_
  try simp only [Act.put, List.getElem_toArray, List.getElem_cons_succ, List.getElem_cons_zero, List.setIfInBounds_toArray, List.set_cons_zero, List.set_cons_succ]
  refine wpAnyH_take (i := 27) (v := undef) rfl (by kernel_rfl) (by kernel_rfl) (by kernel_rfl) (fun _ _ _ h => h) (Or.inr ⟨by kernel_rfl, rfl⟩) (by assumption) ?_
  try simp only [Act.put, List.getElem_toArray, List.getElem_cons_succ, List.getElem_cons_zero, List.setIfInBounds_toArray, List.set_cons_zero, List.set_cons_succ]
  refine wpAnyH_take (i := 28) (v := undef) rfl (by kernel_rfl) (by kernel_rfl) (by kernel_rfl) (fun _ _ _ h => h) (Or.inr ⟨by kernel_rfl, rfl⟩) (by assumption) ?_
  try simp only [Act.put, List.getElem_toArray, List.getElem_cons_succ, List.getElem_cons_zero, List.setIfInBounds_toArray, List.set_cons_zero, List.set_cons_succ]
  refine wpAnyH_take (i := 29) (v := ?_) rfl (by kernel_rfl) (by kernel_rfl) (by kernel_rfl) (fun _ _ _ h => h) (Or.inl ⟨by rfl, ?_⟩) (by assumption) ?_
  rotate_left
  · (intro w hSw; (try dsimp only at hSw); go_simp; try with_reducible rfl)
  try simp only [Act.put, List.getElem_toArray, List.getElem_cons_succ, List.getElem_cons_zero, List.setIfInBounds_toArray, List.set_cons_zero, List.set_cons_succ]
  refine wpAnyH_take (i := 30) (v := ?_) rfl (by kernel_rfl) (by kernel_rfl) (by kernel_rfl) (fun _ _ _ h => h) (Or.inl ⟨by rfl, ?_⟩) (by assumption) ?_
  rotate_left
  · (intro w hSw; (try dsimp only at hSw); go_simp; try with_reducible rfl)
  try simp only [Act.put, List.getElem_toArray, List.getElem_cons_succ, List.getElem_cons_zero, List.setIfInBounds_toArray, List.set_cons_zero, List.set_cons_succ]
  refine wpAnyH_done (by kernel_rfl) ?_ _
  have bZN := obj_keep bZ hbW2
  have hkx := cells6 bXN
  obtain ⟨xc0, xc1, xc2, xc3, xc4, xc5⟩ := hkx
  have zc0 : wN.cell? ⟨w.heap.size + 1, 0, none⟩ = some (.int .u32 0) := cell_of_row wN (w.heap.size + 1) 0 _ _ _ bZN
  have zc1 : wN.cell? ⟨w.heap.size + 1, 1, none⟩ = some (.slice none 0 0) := cell_of_row wN (w.heap.size + 1) 1 _ _ _ bZN
  have zf0 : wN.frozen? ⟨w.heap.size + 1, 0, none⟩ = false := frozen_of_row _ _ _ _ _ bZN
  have zf1 : wN.frozen? ⟨w.heap.size + 1, 1, none⟩ = false := frozen_of_row _ _ _ _ _ bZN
  have hsN : w.heap.size + 1 < wN.heap.size := (Array.getElem?_eq_some_iff.1 bZN).1
  have hsX : w.heap.size < wN.heap.size := by omega
  have hsg : g < wN.heap.size := hSN.lt
  have oc0 : wN.cell? ⟨g, f0 + j * 38, none⟩ = some (.int .i64 s.o.k) := (hSN.at 0 (by decide)).1.trans s.cells_at.1
  have HSN := Lib.hid hSN
  have HMN := Lib.hid hMN
  have HBN := Lib.hid hbWN
  have HZN := Lib.hid bZN
  clear hSN hMN hbWN bZN bXN hbW2
  go_wp2_with (go_at_call 16; refine (hcon _ HSN.out).mono ?_; rintro e wU ⟨dv, rfl, hRd, hFr, hU⟩; obtain ⟨dA, dc, rfl⟩ := hRd.form; have bR : wU.heap[w.heap.size + 1]? = some (.cells #[.int .u32 0, .slice none 0 0] 50) := (hU.1.block _ hsN (by omega)).trans HZN.out; have rc0 : wU.cell? ⟨w.heap.size + 1, 0, none⟩ = some (.int .u32 0) := cell_of_row wU (w.heap.size + 1) 0 _ _ _ bR; have rc1 : wU.cell? ⟨w.heap.size + 1, 1, none⟩ = some (.slice none 0 0) := cell_of_row wU (w.heap.size + 1) 1 _ _ _ bR; have rf0 : wU.frozen? ⟨w.heap.size + 1, 0, none⟩ = false := frozen_of_row _ _ _ _ _ bR; have rf1 : wU.frozen? ⟨w.heap.size + 1, 1, none⟩ = false := frozen_of_row _ _ _ _ _ bR)
  refine bodyPost_ret (results_ans2 rfl _ _ (w.heap.size + 1) _ _ (set2_row bR _ _) rfl) rfl ?_
  exact MPF.lift hlt HBN.out (by omega) hsN hRd hFr hU

set_option maxHeartbeats 2000000 in
theorem doM_sem (w : World) (T : TabO w) (mb g f0 n cap j : Nat) (th : Int) (s : St) (who call part arg val : Int) (hM : w.heap[mb]? = some (.cells #[.int .i64 th, .slice (some ⟨g, f0, none⟩) n cap] 56 (0, 0))) (hS : Seg w g (f0 + j * 38) s) (hj : j < n) (hx0 : 0 ≤ arg) (hx1 : arg ≤ 4294967295) (hP : AskP s.o.k s.o.n s.o.a s.o.b call th who) (p0 : part = 0) (p1 : s.o.k = 11) (p2 : -1000000 ≤ s.count) (p3 : s.count ≤ 1000000) :
    Calls Tryd.prog 9 #[.pointer (some ⟨mb, 0, none⟩), .agg #[.int .i64 who, .int .i64 ((j : Nat) : Int), .int .i64 call, .int .i64 part, .int .u32 arg, .int .u32 val]] w (MPF w g (f0 + j * 38) (doSem s ⟨who, ((j : Nat) : Int), call, part, arg, val⟩).1 (doSem s ⟨who, ((j : Nat) : Int), call, part, arg, val⟩).2) := by
  obtain ⟨a, ha⟩ : ∃ a, a = (doSem s ⟨who, ((j : Nat) : Int), call, part, arg, val⟩).1 := ⟨_, rfl⟩
  obtain ⟨s', hs'⟩ : ∃ s', s' = (doSem s ⟨who, ((j : Nat) : Int), call, part, arg, val⟩).2 := ⟨_, rfl⟩
  have hcon : ∀ W, Seg W g (f0 + j * 38) s → Calls Tryd.prog 17 #[.pointer (some ⟨g, f0 + j * 38, none⟩), .agg #[.int .i64 who, .int .i64 ((j : Nat) : Int), .int .i64 call, .int .i64 part, .int .u32 arg, .int .u32 val]] W (MPF W g (f0 + j * 38) a s') := fun W hW => by
    rw [ha, hs']
    exact sem_any W g (f0 + j * 38) s ⟨who, ((j : Nat) : Int), call, part, arg, val⟩ hW p2 p3
  rw [← ha, ← hs']
  clear ha hs'
  have hlt := hS.lt
  have hmlt : mb < w.heap.size := (Array.getElem?_eq_some_iff.1 hM).1
  obtain ⟨bX, bZ, bB, bS⟩ := blk2 w (.cells #[.int .i64 who, .int .i64 ((j : Nat) : Int), .int .i64 call, .int .i64 part, .int .u32 arg, .int .u32 val] 32) (.cells #[.int .u32 0, .slice none 0 0] 50)
  have HS := Lib.hid hS
  have HM := Lib.hid hM
  have HT := Lib.hid T
  have m0 : w.cell? ⟨mb, 0, none⟩ = some (.int .i64 th) := cell_of_row w mb 0 _ _ _ hM
  have m1 : w.cell? ⟨mb, 1, none⟩ = some (.slice (some ⟨g, f0, none⟩) n cap) := cell_of_row w mb 1 _ _ _ hM
  have g1 : decide (((j : Nat) : Int) < 0) = false := decide_eq_false (by omega)
  have g2 : decide (((n : Nat) : Int) ≤ ((j : Nat) : Int)) = false := decide_eq_false (by omega)
  have g3 : decide (n ≤ j) = false := decide_eq_false (by omega)
  have dA : decide (AskP s.o.k s.o.n s.o.a s.o.b call th who) = true := decide_eq_true hP
  have wr0 : IntKind.u64.wrap arg = arg := by rw [IntKind.wrap_u64]; omega
  have wr1 : IntKind.u64.wrap s.o.n = s.o.n := by rw [IntKind.wrap_u64]; obtain ⟨⟨_, _, h⟩, _⟩ := hP; omega
  have q0 : (call == 4) = false := by have h := hP.2.2.2; unfold MayP at h; simp; omega
  have q1 : (s.o.k != 13) = true := by simp; omega
  have q2 : (part != 0) = false := by simp; omega
  have q3 : (s.o.k == 6) = false := by simp; omega
  have q4 : (s.o.k == 7) = false := by simp; omega
  have q5 : (s.o.k == 9) = false := by simp; omega
  have q6 : (s.o.k == 11) = true := by simp; omega
  clear hM hS T p0 p1 p2 p3 hP
  go_enter Tryd.func9, Tryd.ntmps9
  go_wp2_with fail
  go_quiet (fail)
  go_wp2_with fail
  go_quiet (fail)
  go_wp2_with fail
  have h0S := holdM bX ((bB.block _ hmlt).trans HM.out) (Seg.below HS.out bB)
  refine wp_region_held_drew (S := fun w' => w'.cell? ⟨w.heap.size, 0, none⟩ = some (.int .i64 who) ∧ w'.cell? ⟨w.heap.size, 2, none⟩ = some (.int .i64 call) ∧ w'.cell? ⟨w.heap.size, 4, none⟩ = some (.int .u32 arg) ∧ w'.cell? ⟨mb, 0, none⟩ = some (.int .i64 th) ∧ w'.cell? ⟨g, f0 + j * 38, none⟩ = some (.int .i64 s.o.k) ∧ w'.cell? ⟨g, f0 + j * 38 + 1, none⟩ = some (.int .i64 s.o.n) ∧ w'.cell? ⟨g, f0 + j * 38 + 2, none⟩ = some (.int .i64 s.o.a) ∧ w'.cell? ⟨g, f0 + j * 38 + 3, none⟩ = some (.int .i64 s.o.b)) (by kernel_rfl) h0S (fun hHeld => ?_)
  refine wpAnyH_take (i := 0) (v := ?_) rfl (by kernel_rfl) (by kernel_rfl) (by kernel_rfl) (fun _ _ _ h => h) (Or.inl ⟨by rfl, ?_⟩) (by assumption) ?_
  rotate_left
  · (intro w hSw; (try dsimp only at hSw); go_simp; try with_reducible rfl)
  try simp only [Act.put, List.getElem_toArray, List.getElem_cons_succ, List.getElem_cons_zero, List.setIfInBounds_toArray, List.set_cons_zero, List.set_cons_succ]
  refine wpAnyH_take (i := 1) (v := ?_) rfl (by kernel_rfl) (by kernel_rfl) (by kernel_rfl) (fun _ _ _ h => h) (Or.inl ⟨by rfl, ?_⟩) (by assumption) ?_
  rotate_left
  · (intro w hSw; (try dsimp only at hSw); go_simp; try with_reducible rfl)
  try simp only [Act.put, List.getElem_toArray, List.getElem_cons_succ, List.getElem_cons_zero, List.setIfInBounds_toArray, List.set_cons_zero, List.set_cons_succ]
  refine wpAnyH_take (i := 2) (v := ?_) rfl (by kernel_rfl) (by kernel_rfl) (by kernel_rfl) (fun _ _ _ h => h) (Or.inl ⟨by rfl, ?_⟩) (by assumption) ?_
  rotate_left
  · (intro w hSw; (try dsimp only at hSw); go_simp; try with_reducible rfl)
  try simp only [Act.put, List.getElem_toArray, List.getElem_cons_succ, List.getElem_cons_zero, List.setIfInBounds_toArray, List.set_cons_zero, List.set_cons_succ]
  refine wpAnyH_take (i := 3) (v := ?_) rfl (by kernel_rfl) (by kernel_rfl) (by kernel_rfl) (fun _ _ _ h => h) (Or.inl ⟨by rfl, ?_⟩) (by assumption) ?_
  rotate_left
  · (intro w hSw; (try dsimp only at hSw); go_simp; try with_reducible rfl)
  try simp only [Act.put, List.getElem_toArray, List.getElem_cons_succ, List.getElem_cons_zero, List.setIfInBounds_toArray, List.set_cons_zero, List.set_cons_succ]
  refine wpAnyH_take (i := 4) (v := ?_) rfl (by kernel_rfl) (by kernel_rfl) (by kernel_rfl) (fun _ _ _ h => h) (Or.inl ⟨by rfl, ?_⟩) (by assumption) ?_
  rotate_left
  · (intro w hSw; (try dsimp only at hSw); go_simp; try with_reducible rfl)
  try simp only [Act.put, List.getElem_toArray, List.getElem_cons_succ, List.getElem_cons_zero, List.setIfInBounds_toArray, List.set_cons_zero, List.set_cons_succ]
  refine wpAnyH_take (i := 5) (v := ?_) rfl (by kernel_rfl) (by kernel_rfl) (by kernel_rfl) (fun _ _ _ h => h) (Or.inl ⟨by rfl, ?_⟩) (by assumption) ?_
  rotate_left
  · (intro w hSw; (try dsimp only at hSw); go_simp; try with_reducible rfl)
  try simp only [Act.put, List.getElem_toArray, List.getElem_cons_succ, List.getElem_cons_zero, List.setIfInBounds_toArray, List.set_cons_zero, List.set_cons_succ]
  refine wpAnyH_take (i := 6) (v := ?_) rfl (by kernel_rfl) (by kernel_rfl) (by kernel_rfl) (fun _ _ _ h => h) (Or.inl ⟨by rfl, ?_⟩) (by assumption) ?_
  rotate_left
  · (intro w hSw; (try dsimp only at hSw); go_simp; try with_reducible rfl)
  try simp only [Act.put, List.getElem_toArray, List.getElem_cons_succ, List.getElem_cons_zero, List.setIfInBounds_toArray, List.set_cons_zero, List.set_cons_succ]
  refine wpAnyH_take (i := 7) (v := ?_) rfl (by kernel_rfl) (by kernel_rfl) (by kernel_rfl) (fun _ _ _ h => h) (Or.inl ⟨by rfl, ?_⟩) (by assumption) ?_
  rotate_left
  · (intro w hSw; (try dsimp only at hSw); go_simp; try with_reducible rfl)
  try simp only [Act.put, List.getElem_toArray, List.getElem_cons_succ, List.getElem_cons_zero, List.setIfInBounds_toArray, List.set_cons_zero, List.set_cons_succ]
  refine wpAnyH_take (i := 8) (v := ?_) rfl (by kernel_rfl) (by kernel_rfl) (by kernel_rfl) (fun _ _ _ h => h) (Or.inl ⟨by rfl, ?_⟩) (by assumption) ?_
  rotate_left
  · (intro w hSw; (try dsimp only at hSw); go_simp; try with_reducible rfl)
  try simp only [Act.put, List.getElem_toArray, List.getElem_cons_succ, List.getElem_cons_zero, List.setIfInBounds_toArray, List.set_cons_zero, List.set_cons_succ]
  refine wpAnyH_take (i := 9) (v := ?_) rfl (by kernel_rfl) (by kernel_rfl) (by kernel_rfl) (fun _ _ _ h => h) (Or.inl ⟨by rfl, ?_⟩) (by assumption) ?_
  rotate_left
  · (intro w hSw; (try dsimp only at hSw); go_simp; try with_reducible rfl)
  try simp only [Act.put, List.getElem_toArray, List.getElem_cons_succ, List.getElem_cons_zero, List.setIfInBounds_toArray, List.set_cons_zero, List.set_cons_succ]
  refine wpAnyH_take (i := 10) (v := ?_) rfl (by kernel_rfl) (by kernel_rfl) (by kernel_rfl) (fun _ _ _ h => h) (Or.inl ⟨by rfl, ?_⟩) (by assumption) ?_
  rotate_left
  · (intro w hSw; (try dsimp only at hSw); go_simp; try with_reducible rfl)
  try simp only [Act.put, List.getElem_toArray, List.getElem_cons_succ, List.getElem_cons_zero, List.setIfInBounds_toArray, List.set_cons_zero, List.set_cons_succ]
  refine wpAnyH_take (i := 11) (v := ?_) rfl (by kernel_rfl) (by kernel_rfl) (by kernel_rfl) (fun _ _ _ h => h) (Or.inl ⟨by rfl, ?_⟩) (by assumption) ?_
  rotate_left
  · (intro w hSw; (try dsimp only at hSw); go_simp; try with_reducible rfl)
  try simp only [Act.put, List.getElem_toArray, List.getElem_cons_succ, List.getElem_cons_zero, List.setIfInBounds_toArray, List.set_cons_zero, List.set_cons_succ]
  refine wpAnyH_ready (rs := [12]) (by kernel_rfl) (by simp) ?_
  refine AllReadyH.cons rfl (fun K hK => ?_) AllReadyH.nil
  go_simp
  (go_at_call 14; refine (spinMay_any _ (by first | exact (HT.out.below bB (Nat.le_refl _)) | exact TabO.below (HT.out.below bB (Nat.le_refl _)) (bl_drewN (Below.refl _ _) _) (Nat.le_refl _) | exact TabO.below (HT.out.below bB (Nat.le_refl _)) (bl_drew (bl_drewN (Below.refl _ _) _)) (Nat.le_refl _)) _ _ _ _ _ _ _).mono ?_; rintro e wN ⟨he, hbN⟩; rw [dA] at he; subst he; have hbW2 : Below (((w.alloc (.cells #[.int .i64 who, .int .i64 ((j : Nat) : Int), .int .i64 call, .int .i64 part, .int .u32 arg, .int .u32 val] 32)).alloc (.cells #[.int .u32 0, .slice none 0 0] 50))).heap.size (((w.alloc (.cells #[.int .i64 who, .int .i64 ((j : Nat) : Int), .int .i64 call, .int .i64 part, .int .u32 arg, .int .u32 val] 32)).alloc (.cells #[.int .u32 0, .slice none 0 0] 50))) wN := ⟨hbN.os, hbN.tape, hbN.output, hbN.size, hbN.block⟩; have hbWN := bB.trans (hbW2.mono bB.size); have bXN := obj_keep bX hbW2; have hMN := (hbWN.block _ hmlt).trans HM.out; have hSN := Seg.below HS.out hbWN)
  go_wp2_with fail
  refine hK.out _ _ (holdM bXN hMN hSN) (fun hHeld2 => ?_)
  clear hK K hHeld
  refine wpAnyH_take (i := 13) (v := ?_) rfl (by kernel_rfl) (by kernel_rfl) (by kernel_rfl) (fun _ _ _ h => h) (Or.inl ⟨by rfl, ?_⟩) (by assumption) ?_
  rotate_left
  · (intro w hSw; (try dsimp only at hSw); go_simp; try with_reducible rfl)
  try simp only [Act.put, List.getElem_toArray, List.getElem_cons_succ, List.getElem_cons_zero, List.setIfInBounds_toArray, List.set_cons_zero, List.set_cons_succ]
  refine wpAnyH_take (i := 14) (v := ?_) rfl (by kernel_rfl) (by kernel_rfl) (by kernel_rfl) (fun _ _ _ h => h) (Or.inl ⟨by rfl, ?_⟩) (by assumption) ?_
  rotate_left
  · (intro w hSw; (try dsimp only at hSw); go_simp; try with_reducible rfl)
  try simp only [Act.put, List.getElem_toArray, List.getElem_cons_succ, List.getElem_cons_zero, List.setIfInBounds_toArray, List.set_cons_zero, List.set_cons_succ]
  refine wpAnyH_take (i := 15) (v := ?_) rfl (by kernel_rfl) (by kernel_rfl) (by kernel_rfl) (fun _ _ _ h => h) (Or.inl ⟨by rfl, ?_⟩) (by assumption) ?_
  rotate_left
  · (intro w hSw; (try dsimp only at hSw); go_simp; try with_reducible rfl)
  try simp only [Act.put, List.getElem_toArray, List.getElem_cons_succ, List.getElem_cons_zero, List.setIfInBounds_toArray, List.set_cons_zero, List.set_cons_succ]
  refine wpAnyH_take (i := 16) (v := ?_) rfl (by kernel_rfl) (by kernel_rfl) (by kernel_rfl) (fun _ _ _ h => h) (Or.inl ⟨by rfl, ?_⟩) (by assumption) ?_
  rotate_left
  · (intro w hSw; (try dsimp only at hSw); go_simp; try with_reducible rfl)
  try simp only [Act.put, List.getElem_toArray, List.getElem_cons_succ, List.getElem_cons_zero, List.setIfInBounds_toArray, List.set_cons_zero, List.set_cons_succ]
  refine wpAnyH_take (i := 17) (v := ?_) rfl (by kernel_rfl) (by kernel_rfl) (by kernel_rfl) (fun _ _ _ h => h) (Or.inl ⟨by rfl, ?_⟩) (by assumption) ?_
  rotate_left
  · (intro w hSw; (try dsimp only at hSw); go_simp; try with_reducible rfl)
  try simp only [Act.put, List.getElem_toArray, List.getElem_cons_succ, List.getElem_cons_zero, List.setIfInBounds_toArray, List.set_cons_zero, List.set_cons_succ]
  refine wpAnyH_take (i := 18) (v := ?_) rfl (by kernel_rfl) (by kernel_rfl) (by kernel_rfl) (fun _ _ _ h => h) (Or.inl ⟨by rfl, ?_⟩) (by assumption) ?_
  rotate_left
  · (intro w hSw; (try dsimp only at hSw); go_simp; try with_reducible rfl)
  try simp only [Act.put, List.getElem_toArray, List.getElem_cons_succ, List.getElem_cons_zero, List.setIfInBounds_toArray, List.set_cons_zero, List.set_cons_succ]
  refine wpAnyH_take (i := 19) (v := undef) rfl (by kernel_rfl) (by kernel_rfl) (by kernel_rfl) (fun _ _ _ h => h) (Or.inr ⟨by kernel_rfl, rfl⟩) (by assumption) ?_
  try simp only [Act.put, List.getElem_toArray, List.getElem_cons_succ, List.getElem_cons_zero, List.setIfInBounds_toArray, List.set_cons_zero, List.set_cons_succ]
  refine wpAnyH_take (i := 20) (v := undef) rfl (by kernel_rfl) (by kernel_rfl) (by kernel_rfl) (fun _ _ _ h => h) (Or.inr ⟨by kernel_rfl, rfl⟩) (by assumption) ?_
  try simp only [Act.put, List.getElem_toArray, List.getElem_cons_succ, List.getElem_cons_zero, List.setIfInBounds_toArray, List.set_cons_zero, List.set_cons_succ]
  refine wpAnyH_take (i := 21) (v := undef) rfl (by kernel_rfl) (by kernel_rfl) (by kernel_rfl) (fun _ _ _ h => h) (Or.inr ⟨by kernel_rfl, rfl⟩) (by assumption) ?_
  try simp only [Act.put, List.getElem_toArray, List.getElem_cons_succ, List.getElem_cons_zero, List.setIfInBounds_toArray, List.set_cons_zero, List.set_cons_succ]
  refine wpAnyH_take (i := 22) (v := undef) rfl (by kernel_rfl) (by kernel_rfl) (by kernel_rfl) (fun _ _ _ h => h) (Or.inr ⟨by kernel_rfl, rfl⟩) (by assumption) ?_
  try simp only [Act.put, List.getElem_toArray, List.getElem_cons_succ, List.getElem_cons_zero, List.setIfInBounds_toArray, List.set_cons_zero, List.set_cons_succ]
  refine wpAnyH_take (i := 23) (v := undef) rfl (by kernel_rfl) (by kernel_rfl) (by kernel_rfl) (fun _ _ _ h => h) (Or.inr ⟨by kernel_rfl, rfl⟩) (by assumption) ?_
  try simp only [Act.put, List.getElem_toArray, List.getElem_cons_succ, List.getElem_cons_zero, List.setIfInBounds_toArray, List.set_cons_zero, List.set_cons_succ]
  refine wpAnyH_take (i := 24) (v := undef) rfl (by kernel_rfl) (by kernel_rfl) (by kernel_rfl) (fun _ _ _ h => h) (Or.inr ⟨by kernel_rfl, rfl⟩) (by assumption) ?_
  try simp only [Act.put, List.getElem_toArray, List.getElem_cons_succ, List.getElem_cons_zero, List.setIfInBounds_toArray, List.set_cons_zero, List.set_cons_succ]
  refine wpAnyH_take (i := 25) (v := undef) rfl (by kernel_rfl) (by kernel_rfl) (by kernel_rfl) (fun _ _ _ h => h) (Or.inr ⟨by kernel_rfl, rfl⟩) (by assumption) ?_
  try simp only [Act.put, List.getElem_toArray, List.getElem_cons_succ, List.getElem_cons_zero, List.setIfInBounds_toArray, List.set_cons_zero, List.set_cons_succ]
  refine wpAnyH_take (i := 26) (v := undef) rfl (by kernel_rfl) (by kernel_rfl) (by kernel_rfl) (fun _ _ _ h => h) (Or.inr ⟨by kernel_rfl, rfl⟩) (by assumption) ?_
  try simp only [Act.put, List.getElem_toArray, List.getElem_cons_succ, List.getElem_cons_zero, List.setIfInBounds_toArray, List.set_cons_zero, List.set_cons_succ]
  refine wpAnyH_take (i := 27) (v := undef) rfl (by kernel_rfl) (by kernel_rfl) (by kernel_rfl) (fun _ _ _ h => h) (Or.inr ⟨by kernel_rfl, rfl⟩) (by assumption) ?_
  try simp only [Act.put, List.getElem_toArray, List.getElem_cons_succ, List.getElem_cons_zero, List.setIfInBounds_toArray, List.set_cons_zero, List.set_cons_succ]
  refine wpAnyH_take (i := 28) (v := undef) rfl (by kernel_rfl) (by kernel_rfl) (by kernel_rfl) (fun _ _ _ h => h) (Or.inr ⟨by kernel_rfl, rfl⟩) (by assumption) ?_
  try simp only [Act.put, List.getElem_toArray, List.getElem_cons_succ, List.getElem_cons_zero, List.setIfInBounds_toArray, List.set_cons_zero, List.set_cons_succ]
  refine wpAnyH_take (i := 29) (v := ?_) rfl (by kernel_rfl) (by kernel_rfl) (by kernel_rfl) (fun _ _ _ h => h) (Or.inl ⟨by rfl, ?_⟩) (by assumption) ?_
  rotate_left
  · (intro w hSw; (try dsimp only at hSw); go_simp; try with_reducible rfl)
  try simp only [Act.put, List.getElem_toArray, List.getElem_cons_succ, List.getElem_cons_zero, List.setIfInBounds_toArray, List.set_cons_zero, List.set_cons_succ]
  refine wpAnyH_take (i := 30) (v := ?_) rfl (by kernel_rfl) (by kernel_rfl) (by kernel_rfl) (fun _ _ _ h => h) (Or.inl ⟨by rfl, ?_⟩) (by assumption) ?_
  rotate_left
  · (intro w hSw; (try dsimp only at hSw); go_simp; try with_reducible rfl)
  try simp only [Act.put, List.getElem_toArray, List.getElem_cons_succ, List.getElem_cons_zero, List.setIfInBounds_toArray, List.set_cons_zero, List.set_cons_succ]
  refine wpAnyH_done (by kernel_rfl) ?_ _
  have bZN := obj_keep bZ hbW2
  have hkx := cells6 bXN
  obtain ⟨xc0, xc1, xc2, xc3, xc4, xc5⟩ := hkx
  have zc0 : wN.cell? ⟨w.heap.size + 1, 0, none⟩ = some (.int .u32 0) := cell_of_row wN (w.heap.size + 1) 0 _ _ _ bZN
  have zc1 : wN.cell? ⟨w.heap.size + 1, 1, none⟩ = some (.slice none 0 0) := cell_of_row wN (w.heap.size + 1) 1 _ _ _ bZN
  have zf0 : wN.frozen? ⟨w.heap.size + 1, 0, none⟩ = false := frozen_of_row _ _ _ _ _ bZN
  have zf1 : wN.frozen? ⟨w.heap.size + 1, 1, none⟩ = false := frozen_of_row _ _ _ _ _ bZN
  have hsN : w.heap.size + 1 < wN.heap.size := (Array.getElem?_eq_some_iff.1 bZN).1
  have hsX : w.heap.size < wN.heap.size := by omega
  have hsg : g < wN.heap.size := hSN.lt
  have oc0 : wN.cell? ⟨g, f0 + j * 38, none⟩ = some (.int .i64 s.o.k) := (hSN.at 0 (by decide)).1.trans s.cells_at.1
  have HSN := Lib.hid hSN
  have HMN := Lib.hid hMN
  have HBN := Lib.hid hbWN
  have HZN := Lib.hid bZN
  clear hSN hMN hbWN bZN bXN hbW2
  go_wp2_with (go_at_call 17; refine (hcon _ HSN.out).mono ?_; rintro e wU ⟨dv, rfl, hRd, hFr, hU⟩; obtain ⟨dA, dc, rfl⟩ := hRd.form; have bR : wU.heap[w.heap.size + 1]? = some (.cells #[.int .u32 0, .slice none 0 0] 50) := (hU.1.block _ hsN (by omega)).trans HZN.out; have rc0 : wU.cell? ⟨w.heap.size + 1, 0, none⟩ = some (.int .u32 0) := cell_of_row wU (w.heap.size + 1) 0 _ _ _ bR; have rc1 : wU.cell? ⟨w.heap.size + 1, 1, none⟩ = some (.slice none 0 0) := cell_of_row wU (w.heap.size + 1) 1 _ _ _ bR; have rf0 : wU.frozen? ⟨w.heap.size + 1, 0, none⟩ = false := frozen_of_row _ _ _ _ _ bR; have rf1 : wU.frozen? ⟨w.heap.size + 1, 1, none⟩ = false := frozen_of_row _ _ _ _ _ bR)
  refine bodyPost_ret (results_ans2 rfl _ _ (w.heap.size + 1) _ _ (set2_row bR _ _) rfl) rfl ?_
  exact MPF.lift hlt HBN.out (by omega) hsN hRd hFr hU

set_option maxHeartbeats 2000000 in
theorem doM_cond (w : World) (T : TabO w) (mb g f0 n cap j : Nat) (th : Int) (s : St) (who call part arg val : Int) (hM : w.heap[mb]? = some (.cells #[.int .i64 th, .slice (some ⟨g, f0, none⟩) n cap] 56 (0, 0))) (hS : Seg w g (f0 + j * 38) s) (hj : j < n) (hx0 : 0 ≤ arg) (hx1 : arg ≤ 4294967295) (hP : AskP s.o.k s.o.n s.o.a s.o.b call th who) (p0 : part = 0) (p1 : s.o.k = 12) :
    Calls Tryd.prog 9 #[.pointer (some ⟨mb, 0, none⟩), .agg #[.int .i64 who, .int .i64 ((j : Nat) : Int), .int .i64 call, .int .i64 part, .int .u32 arg, .int .u32 val]] w (MPF w g (f0 + j * 38) (((some (0, []) : Ans), s)).1 (((some (0, []) : Ans), s)).2) := by
  obtain ⟨a, ha⟩ : ∃ a, a = (((some (0, []) : Ans), s)).1 := ⟨_, rfl⟩
  obtain ⟨s', hs'⟩ : ∃ s', s' = (((some (0, []) : Ans), s)).2 := ⟨_, rfl⟩
  have hcon : ∀ W, Seg W g (f0 + j * 38) s → Calls Tryd.prog 18 #[.pointer (some ⟨g, f0 + j * 38, none⟩), .agg #[.int .i64 who, .int .i64 ((j : Nat) : Int), .int .i64 call, .int .i64 part, .int .u32 arg, .int .u32 val]] W (MPF W g (f0 + j * 38) a s') := fun W hW => by
    rw [ha, hs']
    exact (cond_any W g (f0 + j * 38) s ⟨who, ((j : Nat) : Int), call, part, arg, val⟩ hW).mono (fun e w' q => q.fresh rfl)
  rw [← ha, ← hs']
  clear ha hs'
  have hlt := hS.lt
  have hmlt : mb < w.heap.size := (Array.getElem?_eq_some_iff.1 hM).1
  obtain ⟨bX, bZ, bB, bS⟩ := blk2 w (.cells #[.int .i64 who, .int .i64 ((j : Nat) : Int), .int .i64 call, .int .i64 part, .int .u32 arg, .int .u32 val] 32) (.cells #[.int .u32 0, .slice none 0 0] 50)
  have HS := Lib.hid hS
  have HM := Lib.hid hM
  have HT := Lib.hid T
  have m0 : w.cell? ⟨mb, 0, none⟩ = some (.int .i64 th) := cell_of_row w mb 0 _ _ _ hM
  have m1 : w.cell? ⟨mb, 1, none⟩ = some (.slice (some ⟨g, f0, none⟩) n cap) := cell_of_row w mb 1 _ _ _ hM
  have g1 : decide (((j : Nat) : Int) < 0) = false := decide_eq_false (by omega)
  have g2 : decide (((n : Nat) : Int) ≤ ((j : Nat) : Int)) = false := decide_eq_false (by omega)
  have g3 : decide (n ≤ j) = false := decide_eq_false (by omega)
  have dA : decide (AskP s.o.k s.o.n s.o.a s.o.b call th who) = true := decide_eq_true hP
  have wr0 : IntKind.u64.wrap arg = arg := by rw [IntKind.wrap_u64]; omega
  have wr1 : IntKind.u64.wrap s.o.n = s.o.n := by rw [IntKind.wrap_u64]; obtain ⟨⟨_, _, h⟩, _⟩ := hP; omega
  have q0 : (call == 4) = false := by have h := hP.2.2.2; unfold MayP at h; simp; omega
  have q1 : (s.o.k != 13) = true := by simp; omega
  have q2 : (part != 0) = false := by simp; omega
  have q3 : (s.o.k == 6) = false := by simp; omega
  have q4 : (s.o.k == 7) = false := by simp; omega
  have q5 : (s.o.k == 9) = false := by simp; omega
  have q6 : (s.o.k == 11) = false := by simp; omega
  have q7 : (s.o.k == 12) = true := by simp; omega
  clear hM hS T p0 p1 hP
  go_enter Tryd.func9, Tryd.ntmps9
  go_wp2_with fail
  go_quiet (fail)
  go_wp2_with fail
  go_quiet (fail)
  go_wp2_with fail
  have h0S := holdM bX ((bB.block _ hmlt).trans HM.out) (Seg.below HS.out bB)
  refine wp_region_held_drew (S := fun w' => w'.cell? ⟨w.heap.size, 0, none⟩ = some (.int .i64 who) ∧ w'.cell? ⟨w.heap.size, 2, none⟩ = some (.int .i64 call) ∧ w'.cell? ⟨w.heap.size, 4, none⟩ = some (.int .u32 arg) ∧ w'.cell? ⟨mb, 0, none⟩ = some (.int .i64 th) ∧ w'.cell? ⟨g, f0 + j * 38, none⟩ = some (.int .i64 s.o.k) ∧ w'.cell? ⟨g, f0 + j * 38 + 1, none⟩ = some (.int .i64 s.o.n) ∧ w'.cell? ⟨g, f0 + j * 38 + 2, none⟩ = some (.int .i64 s.o.a) ∧ w'.cell? ⟨g, f0 + j * 38 + 3, none⟩ = some (.int .i64 s.o.b)) (by kernel_rfl) h0S (fun hHeld => ?_)
  refine wpAnyH_take (i := 0) (v := ?_) rfl (by kernel_rfl) (by kernel_rfl) (by kernel_rfl) (fun _ _ _ h => h) (Or.inl ⟨by rfl, ?_⟩) (by assumption) ?_
  rotate_left
  · (intro w hSw; (try dsimp only at hSw); go_simp; try with_reducible rfl)
  try simp only [Act.put, List.getElem_toArray, List.getElem_cons_succ, List.getElem_cons_zero, List.setIfInBounds_toArray, List.set_cons_zero, List.set_cons_succ]
  refine wpAnyH_take (i := 1) (v := ?_) rfl (by kernel_rfl) (by kernel_rfl) (by kernel_rfl) (fun _ _ _ h => h) (Or.inl ⟨by rfl, ?_⟩) (by assumption) ?_
  rotate_left
  · (intro w hSw; (try dsimp only at hSw); go_simp; try with_reducible rfl)
  try simp only [Act.put, List.getElem_toArray, List.getElem_cons_succ, List.getElem_cons_zero, List.setIfInBounds_toArray, List.set_cons_zero, List.set_cons_succ]
  refine wpAnyH_take (i := 2) (v := ?_) rfl (by kernel_rfl) (by kernel_rfl) (by kernel_rfl) (fun _ _ _ h => h) (Or.inl ⟨by rfl, ?_⟩) (by assumption) ?_
  rotate_left
  · (intro w hSw; (try dsimp only at hSw); go_simp; try with_reducible rfl)
  try simp only [Act.put, List.getElem_toArray, List.getElem_cons_succ, List.getElem_cons_zero, List.setIfInBounds_toArray, List.set_cons_zero, List.set_cons_succ]
  refine wpAnyH_take (i := 3) (v := ?_) rfl (by kernel_rfl) (by kernel_rfl) (by kernel_rfl) (fun _ _ _ h => h) (Or.inl ⟨by rfl, ?_⟩) (by assumption) ?_
  rotate_left
  · (intro w hSw; (try dsimp only at hSw); go_simp; try with_reducible rfl)
  try simp only [Act.put, List.getElem_toArray, List.getElem_cons_succ, List.getElem_cons_zero, List.setIfInBounds_toArray, List.set_cons_zero, List.set_cons_succ]
  refine wpAnyH_take (i := 4) (v := ?_) rfl (by kernel_rfl) (by kernel_rfl) (by kernel_rfl) (fun _ _ _ h => h) (Or.inl ⟨by rfl, ?_⟩) (by assumption) ?_
  rotate_left
  · (intro w hSw; (try dsimp only at hSw); go_simp; try with_reducible rfl)
  try simp only [Act.put, List.getElem_toArray, List.getElem_cons_succ, List.getElem_cons_zero, List.setIfInBounds_toArray, List.set_cons_zero, List.set_cons_succ]
  refine wpAnyH_take (i := 5) (v := ?_) rfl (by kernel_rfl) (by kernel_rfl) (by kernel_rfl) (fun _ _ _ h => h) (Or.inl ⟨by rfl, ?_⟩) (by assumption) ?_
  rotate_left
  · (intro w hSw; (try dsimp only at hSw); go_simp; try with_reducible rfl)
  try simp only [Act.put, List.getElem_toArray, List.getElem_cons_succ, List.getElem_cons_zero, List.setIfInBounds_toArray, List.set_cons_zero, List.set_cons_succ]
  refine wpAnyH_take (i := 6) (v := ?_) rfl (by kernel_rfl) (by kernel_rfl) (by kernel_rfl) (fun _ _ _ h => h) (Or.inl ⟨by rfl, ?_⟩) (by assumption) ?_
  rotate_left
  · (intro w hSw; (try dsimp only at hSw); go_simp; try with_reducible rfl)
  try simp only [Act.put, List.getElem_toArray, List.getElem_cons_succ, List.getElem_cons_zero, List.setIfInBounds_toArray, List.set_cons_zero, List.set_cons_succ]
  refine wpAnyH_take (i := 7) (v := ?_) rfl (by kernel_rfl) (by kernel_rfl) (by kernel_rfl) (fun _ _ _ h => h) (Or.inl ⟨by rfl, ?_⟩) (by assumption) ?_
  rotate_left
  · (intro w hSw; (try dsimp only at hSw); go_simp; try with_reducible rfl)
  try simp only [Act.put, List.getElem_toArray, List.getElem_cons_succ, List.getElem_cons_zero, List.setIfInBounds_toArray, List.set_cons_zero, List.set_cons_succ]
  refine wpAnyH_take (i := 8) (v := ?_) rfl (by kernel_rfl) (by kernel_rfl) (by kernel_rfl) (fun _ _ _ h => h) (Or.inl ⟨by rfl, ?_⟩) (by assumption) ?_
  rotate_left
  · (intro w hSw; (try dsimp only at hSw); go_simp; try with_reducible rfl)
  try simp only [Act.put, List.getElem_toArray, List.getElem_cons_succ, List.getElem_cons_zero, List.setIfInBounds_toArray, List.set_cons_zero, List.set_cons_succ]
  refine wpAnyH_take (i := 9) (v := ?_) rfl (by kernel_rfl) (by kernel_rfl) (by kernel_rfl) (fun _ _ _ h => h) (Or.inl ⟨by rfl, ?_⟩) (by assumption) ?_
  rotate_left
  · (intro w hSw; (try dsimp only at hSw); go_simp; try with_reducible rfl)
  try simp only [Act.put, List.getElem_toArray, List.getElem_cons_succ, List.getElem_cons_zero, List.setIfInBounds_toArray, List.set_cons_zero, List.set_cons_succ]
  refine wpAnyH_take (i := 10) (v := ?_) rfl (by kernel_rfl) (by kernel_rfl) (by kernel_rfl) (fun _ _ _ h => h) (Or.inl ⟨by rfl, ?_⟩) (by assumption) ?_
  rotate_left
  · (intro w hSw; (try dsimp only at hSw); go_simp; try with_reducible rfl)
  try simp only [Act.put, List.getElem_toArray, List.getElem_cons_succ, List.getElem_cons_zero, List.setIfInBounds_toArray, List.set_cons_zero, List.set_cons_succ]
  refine wpAnyH_take (i := 11) (v := ?_) rfl (by kernel_rfl) (by kernel_rfl) (by kernel_rfl) (fun _ _ _ h => h) (Or.inl ⟨by rfl, ?_⟩) (by assumption) ?_
  rotate_left
  · (intro w hSw; (try dsimp only at hSw); go_simp; try with_reducible rfl)
  try simp only [Act.put, List.getElem_toArray, List.getElem_cons_succ, List.getElem_cons_zero, List.setIfInBounds_toArray, List.set_cons_zero, List.set_cons_succ]
  refine wpAnyH_ready (rs := [12]) (by kernel_rfl) (by simp) ?_
  refine AllReadyH.cons rfl (fun K hK => ?_) AllReadyH.nil
  go_simp
  (go_at_call 14; refine (spinMay_any _ (by first | exact (HT.out.below bB (Nat.le_refl _)) | exact TabO.below (HT.out.below bB (Nat.le_refl _)) (bl_drewN (Below.refl _ _) _) (Nat.le_refl _) | exact TabO.below (HT.out.below bB (Nat.le_refl _)) (bl_drew (bl_drewN (Below.refl _ _) _)) (Nat.le_refl _)) _ _ _ _ _ _ _).mono ?_; rintro e wN ⟨he, hbN⟩; rw [dA] at he; subst he; have hbW2 : Below (((w.alloc (.cells #[.int .i64 who, .int .i64 ((j : Nat) : Int), .int .i64 call, .int .i64 part, .int .u32 arg, .int .u32 val] 32)).alloc (.cells #[.int .u32 0, .slice none 0 0] 50))).heap.size (((w.alloc (.cells #[.int .i64 who, .int .i64 ((j : Nat) : Int), .int .i64 call, .int .i64 part, .int .u32 arg, .int .u32 val] 32)).alloc (.cells #[.int .u32 0, .slice none 0 0] 50))) wN := ⟨hbN.os, hbN.tape, hbN.output, hbN.size, hbN.block⟩; have hbWN := bB.trans (hbW2.mono bB.size); have bXN := obj_keep bX hbW2; have hMN := (hbWN.block _ hmlt).trans HM.out; have hSN := Seg.below HS.out hbWN)
  go_wp2_with fail
  refine hK.out _ _ (holdM bXN hMN hSN) (fun hHeld2 => ?_)
  clear hK K hHeld
  refine wpAnyH_take (i := 13) (v := ?_) rfl (by kernel_rfl) (by kernel_rfl) (by kernel_rfl) (fun _ _ _ h => h) (Or.inl ⟨by rfl, ?_⟩) (by assumption) ?_
  rotate_left
  · (intro w hSw; (try dsimp only at hSw); go_simp; try with_reducible rfl)
  try simp only [Act.put, List.getElem_toArray, List.getElem_cons_succ, List.getElem_cons_zero, List.setIfInBounds_toArray, List.set_cons_zero, List.set_cons_succ]
  refine wpAnyH_take (i := 14) (v := ?_) rfl (by kernel_rfl) (by kernel_rfl) (by kernel_rfl) (fun _ _ _ h => h) (Or.inl ⟨by rfl, ?_⟩) (by assumption) ?_
  rotate_left
  · (intro w hSw; (try dsimp only at hSw); go_simp; try with_reducible rfl)
  try simp only [Act.put, List.getElem_toArray, List.getElem_cons_succ, List.getElem_cons_zero, List.setIfInBounds_toArray, List.set_cons_zero, List.set_cons_succ]
  refine wpAnyH_take (i := 15) (v := ?_) rfl (by kernel_rfl) (by kernel_rfl) (by kernel_rfl) (fun _ _ _ h => h) (Or.inl ⟨by rfl, ?_⟩) (by assumption) ?_
  rotate_left
  · (intro w hSw; (try dsimp only at hSw); go_simp; try with_reducible rfl)
  try simp only [Act.put, List.getElem_toArray, List.getElem_cons_succ, List.getElem_cons_zero, List.setIfInBounds_toArray, List.set_cons_zero, List.set_cons_succ]
  refine wpAnyH_take (i := 16) (v := ?_) rfl (by kernel_rfl) (by kernel_rfl) (by kernel_rfl) (fun _ _ _ h => h) (Or.inl ⟨by rfl, ?_⟩) (by assumption) ?_
  rotate_left
  · (intro w hSw; (try dsimp only at hSw); go_simp; try with_reducible rfl)
  try simp only [Act.put, List.getElem_toArray, List.getElem_cons_succ, List.getElem_cons_zero, List.setIfInBounds_toArray, List.set_cons_zero, List.set_cons_succ]
  refine wpAnyH_take (i := 17) (v := ?_) rfl (by kernel_rfl) (by kernel_rfl) (by kernel_rfl) (fun _ _ _ h => h) (Or.inl ⟨by rfl, ?_⟩) (by assumption) ?_
  rotate_left
  · (intro w hSw; (try dsimp only at hSw); go_simp; try with_reducible rfl)
  try simp only [Act.put, List.getElem_toArray, List.getElem_cons_succ, List.getElem_cons_zero, List.setIfInBounds_toArray, List.set_cons_zero, List.set_cons_succ]
  refine wpAnyH_take (i := 18) (v := ?_) rfl (by kernel_rfl) (by kernel_rfl) (by kernel_rfl) (fun _ _ _ h => h) (Or.inl ⟨by rfl, ?_⟩) (by assumption) ?_
  rotate_left
  · (intro w hSw; (try dsimp only at hSw); go_simp; try with_reducible rfl)
  try simp only [Act.put, List.getElem_toArray, List.getElem_cons_succ, List.getElem_cons_zero, List.setIfInBounds_toArray, List.set_cons_zero, List.set_cons_succ]
  refine wpAnyH_take (i := 19) (v := undef) rfl (by kernel_rfl) (by kernel_rfl) (by kernel_rfl) (fun _ _ _ h => h) (Or.inr ⟨by kernel_rfl, rfl⟩) (by assumption) ?_
  try simp only [Act.put, List.getElem_toArray, List.getElem_cons_succ, List.getElem_cons_zero, List.setIfInBounds_toArray, List.set_cons_zero, List.set_cons_succ]
  refine wpAnyH_take (i := 20) (v := undef) rfl (by kernel_rfl) (by kernel_rfl) (by kernel_rfl) (fun _ _ _ h => h) (Or.inr ⟨by kernel_rfl, rfl⟩) (by assumption) ?_
  try simp only [Act.put, List.getElem_toArray, List.getElem_cons_succ, List.getElem_cons_zero, List.setIfInBounds_toArray, List.set_cons_zero, List.set_cons_succ]
  refine wpAnyH_take (i := 21) (v := undef) rfl (by kernel_rfl) (by kernel_rfl) (by kernel_rfl) (fun _ _ _ h => h) (Or.inr ⟨by kernel_rfl, rfl⟩) (by assumption) ?_
  try simp only [Act.put, List.getElem_toArray, List.getElem_cons_succ, List.getElem_cons_zero, List.setIfInBounds_toArray, List.set_cons_zero, List.set_cons_succ]
  refine wpAnyH_take (i := 22) (v := undef) rfl (by kernel_rfl) (by kernel_rfl) (by kernel_rfl) (fun _ _ _ h => h) (Or.inr ⟨by kernel_rfl, rfl⟩) (by assumption) ?_
  try simp only [Act.put, List.getElem_toArray, List.getElem_cons_succ, List.getElem_cons_zero, List.setIfInBounds_toArray, List.set_cons_zero, List.set_cons_succ]
  refine wpAnyH_take (i := 23) (v := undef) rfl (by kernel_rfl) (by kernel_rfl) (by kernel_rfl) (fun _ _ _ h => h) (Or.inr ⟨by kernel_rfl, rfl⟩) (by assumption) ?_
  try simp only [Act.put, List.getElem_toArray, List.getElem_cons_succ, List.getElem_cons_zero, List.setIfInBounds_toArray, List.set_cons_zero, List.set_cons_succ]
  refine wpAnyH_take (i := 24) (v := undef) rfl (by kernel_rfl) (by kernel_rfl) (by kernel_rfl) (fun _ _ _ h => h) (Or.inr ⟨by kernel_rfl, rfl⟩) (by assumption) ?_
  try simp only [Act.put, List.getElem_toArray, List.getElem_cons_succ, List.getElem_cons_zero, List.setIfInBounds_toArray, List.set_cons_zero, List.set_cons_succ]
  refine wpAnyH_take (i := 25) (v := undef) rfl (by kernel_rfl) (by kernel_rfl) (by kernel_rfl) (fun _ _ _ h => h) (Or.inr ⟨by kernel_rfl, rfl⟩) (by assumption) ?_
  try simp only [Act.put, List.getElem_toArray, List.getElem_cons_succ, List.getElem_cons_zero, List.setIfInBounds_toArray, List.set_cons_zero, List.set_cons_succ]
  refine wpAnyH_take (i := 26) (v := undef) rfl (by kernel_rfl) (by kernel_rfl) (by kernel_rfl) (fun _ _ _ h => h) (Or.inr ⟨by kernel_rfl, rfl⟩) (by assumption) ?_
  try simp only [Act.put, List.getElem_toArray, List.getElem_cons_succ, List.getElem_cons_zero, List.setIfInBounds_toArray, List.set_cons_zero, List.set_cons_succ]
  refine wpAnyH_take (i := 27) (v := undef) rfl (by kernel_rfl) (by kernel_rfl) (by kernel_rfl) (fun _ _ _ h => h) (Or.inr ⟨by kernel_rfl, rfl⟩) (by assumption) ?_
  try simp only [Act.put, List.getElem_toArray, List.getElem_cons_succ, List.getElem_cons_zero, List.setIfInBounds_toArray, List.set_cons_zero, List.set_cons_succ]
  refine wpAnyH_take (i := 28) (v := undef) rfl (by kernel_rfl) (by kernel_rfl) (by kernel_rfl) (fun _ _ _ h => h) (Or.inr ⟨by kernel_rfl, rfl⟩) (by assumption) ?_
  try simp only [Act.put, List.getElem_toArray, List.getElem_cons_succ, List.getElem_cons_zero, List.setIfInBounds_toArray, List.set_cons_zero, List.set_cons_succ]
  refine wpAnyH_take (i := 29) (v := ?_) rfl (by kernel_rfl) (by kernel_rfl) (by kernel_rfl) (fun _ _ _ h => h) (Or.inl ⟨by rfl, ?_⟩) (by assumption) ?_
  rotate_left
  · (intro w hSw; (try dsimp only at hSw); go_simp; try with_reducible rfl)
  try simp only [Act.put, List.getElem_toArray, List.getElem_cons_succ, List.getElem_cons_zero, List.setIfInBounds_toArray, List.set_cons_zero, List.set_cons_succ]
  refine wpAnyH_take (i := 30) (v := ?_) rfl (by kernel_rfl) (by kernel_rfl) (by kernel_rfl) (fun _ _ _ h => h) (Or.inl ⟨by rfl, ?_⟩) (by assumption) ?_
  rotate_left
  · (intro w hSw; (try dsimp only at hSw); go_simp; try with_reducible rfl)
  try simp only [Act.put, List.getElem_toArray, List.getElem_cons_succ, List.getElem_cons_zero, List.setIfInBounds_toArray, List.set_cons_zero, List.set_cons_succ]
  refine wpAnyH_done (by kernel_rfl) ?_ _
  have bZN := obj_keep bZ hbW2
  have hkx := cells6 bXN
  obtain ⟨xc0, xc1, xc2, xc3, xc4, xc5⟩ := hkx
  have zc0 : wN.cell? ⟨w.heap.size + 1, 0, none⟩ = some (.int .u32 0) := cell_of_row wN (w.heap.size + 1) 0 _ _ _ bZN
  have zc1 : wN.cell? ⟨w.heap.size + 1, 1, none⟩ = some (.slice none 0 0) := cell_of_row wN (w.heap.size + 1) 1 _ _ _ bZN
  have zf0 : wN.frozen? ⟨w.heap.size + 1, 0, none⟩ = false := frozen_of_row _ _ _ _ _ bZN
  have zf1 : wN.frozen? ⟨w.heap.size + 1, 1, none⟩ = false := frozen_of_row _ _ _ _ _ bZN
  have hsN : w.heap.size + 1 < wN.heap.size := (Array.getElem?_eq_some_iff.1 bZN).1
  have hsX : w.heap.size < wN.heap.size := by omega
  have hsg : g < wN.heap.size := hSN.lt
  have oc0 : wN.cell? ⟨g, f0 + j * 38, none⟩ = some (.int .i64 s.o.k) := (hSN.at 0 (by decide)).1.trans s.cells_at.1
  have HSN := Lib.hid hSN
  have HMN := Lib.hid hMN
  have HBN := Lib.hid hbWN
  have HZN := Lib.hid bZN
  clear hSN hMN hbWN bZN bXN hbW2
  go_wp2_with (go_at_call 18; refine (hcon _ HSN.out).mono ?_; rintro e wU ⟨dv, rfl, hRd, hFr, hU⟩; obtain ⟨dA, dc, rfl⟩ := hRd.form; have bR : wU.heap[w.heap.size + 1]? = some (.cells #[.int .u32 0, .slice none 0 0] 50) := (hU.1.block _ hsN (by omega)).trans HZN.out; have rc0 : wU.cell? ⟨w.heap.size + 1, 0, none⟩ = some (.int .u32 0) := cell_of_row wU (w.heap.size + 1) 0 _ _ _ bR; have rc1 : wU.cell? ⟨w.heap.size + 1, 1, none⟩ = some (.slice none 0 0) := cell_of_row wU (w.heap.size + 1) 1 _ _ _ bR; have rf0 : wU.frozen? ⟨w.heap.size + 1, 0, none⟩ = false := frozen_of_row _ _ _ _ _ bR; have rf1 : wU.frozen? ⟨w.heap.size + 1, 1, none⟩ = false := frozen_of_row _ _ _ _ _ bR)
  refine bodyPost_ret (results_ans2 rfl _ _ (w.heap.size + 1) _ _ (set2_row bR _ _) rfl) rfl ?_
  exact MPF.lift hlt HBN.out (by omega) hsN hRd hFr hU

set_option maxHeartbeats 2000000 in
theorem doM_bar (w : World) (T : TabO w) (mb g f0 n cap j : Nat) (th : Int) (s : St) (who call part arg val : Int) (hM : w.heap[mb]? = some (.cells #[.int .i64 th, .slice (some ⟨g, f0, none⟩) n cap] 56 (0, 0))) (hS : Seg w g (f0 + j * 38) s) (hj : j < n) (hx0 : 0 ≤ arg) (hx1 : arg ≤ 4294967295) (hP : AskP s.o.k s.o.n s.o.a s.o.b call th who) (p0 : s.o.k = 13) (p1 : BarOk s) :
    Calls Tryd.prog 9 #[.pointer (some ⟨mb, 0, none⟩), .agg #[.int .i64 who, .int .i64 ((j : Nat) : Int), .int .i64 call, .int .i64 part, .int .u32 arg, .int .u32 val]] w (MPF w g (f0 + j * 38) (doBar s ⟨who, ((j : Nat) : Int), call, part, arg, val⟩).1 (doBar s ⟨who, ((j : Nat) : Int), call, part, arg, val⟩).2) := by
  obtain ⟨a, ha⟩ : ∃ a, a = (doBar s ⟨who, ((j : Nat) : Int), call, part, arg, val⟩).1 := ⟨_, rfl⟩
  obtain ⟨s', hs'⟩ : ∃ s', s' = (doBar s ⟨who, ((j : Nat) : Int), call, part, arg, val⟩).2 := ⟨_, rfl⟩
  have hcon : ∀ W, Seg W g (f0 + j * 38) s → Calls Tryd.prog 19 #[.pointer (some ⟨g, f0 + j * 38, none⟩), .agg #[.int .i64 who, .int .i64 ((j : Nat) : Int), .int .i64 call, .int .i64 part, .int .u32 arg, .int .u32 val]] W (MPF W g (f0 + j * 38) a s') := fun W hW => by
    rw [ha, hs']
    exact bar_any W g (f0 + j * 38) s ⟨who, ((j : Nat) : Int), call, part, arg, val⟩ who.toNat (by show who = _; have := hP.2.1; omega) (by have := hP.1.2.1; have := hP.2.2.1; omega) hW hx0 hx1 (by obtain ⟨⟨_, _, h⟩, _⟩ := hP; omega) (by obtain ⟨⟨_, _, h⟩, _⟩ := hP; omega) p1
  rw [← ha, ← hs']
  clear ha hs'
  have hlt := hS.lt
  have hmlt : mb < w.heap.size := (Array.getElem?_eq_some_iff.1 hM).1
  obtain ⟨bX, bZ, bB, bS⟩ := blk2 w (.cells #[.int .i64 who, .int .i64 ((j : Nat) : Int), .int .i64 call, .int .i64 part, .int .u32 arg, .int .u32 val] 32) (.cells #[.int .u32 0, .slice none 0 0] 50)
  have HS := Lib.hid hS
  have HM := Lib.hid hM
  have HT := Lib.hid T
  have m0 : w.cell? ⟨mb, 0, none⟩ = some (.int .i64 th) := cell_of_row w mb 0 _ _ _ hM
  have m1 : w.cell? ⟨mb, 1, none⟩ = some (.slice (some ⟨g, f0, none⟩) n cap) := cell_of_row w mb 1 _ _ _ hM
  have g1 : decide (((j : Nat) : Int) < 0) = false := decide_eq_false (by omega)
  have g2 : decide (((n : Nat) : Int) ≤ ((j : Nat) : Int)) = false := decide_eq_false (by omega)
  have g3 : decide (n ≤ j) = false := decide_eq_false (by omega)
  have dA : decide (AskP s.o.k s.o.n s.o.a s.o.b call th who) = true := decide_eq_true hP
  have wr0 : IntKind.u64.wrap arg = arg := by rw [IntKind.wrap_u64]; omega
  have wr1 : IntKind.u64.wrap s.o.n = s.o.n := by rw [IntKind.wrap_u64]; obtain ⟨⟨_, _, h⟩, _⟩ := hP; omega
  have q0 : (call == 4) = false := by have h := hP.2.2.2; unfold MayP at h; simp; omega
  have q1 : (s.o.k != 13) = false := by simp; omega
  have q2 : (s.o.k == 6) = false := by simp; omega
  have q3 : (s.o.k == 7) = false := by simp; omega
  have q4 : (s.o.k == 9) = false := by simp; omega
  have q5 : (s.o.k == 11) = false := by simp; omega
  have q6 : (s.o.k == 12) = false := by simp; omega
  have q7 : (s.o.k == 13) = true := by simp; omega
  clear hM hS T p0 p1 hP
  go_enter Tryd.func9, Tryd.ntmps9
  go_wp2_with fail
  go_quiet (fail)
  go_wp2_with fail
  go_quiet (fail)
  go_wp2_with fail
  have h0S := holdM bX ((bB.block _ hmlt).trans HM.out) (Seg.below HS.out bB)
  refine wp_region_held_drew (S := fun w' => w'.cell? ⟨w.heap.size, 0, none⟩ = some (.int .i64 who) ∧ w'.cell? ⟨w.heap.size, 2, none⟩ = some (.int .i64 call) ∧ w'.cell? ⟨w.heap.size, 4, none⟩ = some (.int .u32 arg) ∧ w'.cell? ⟨mb, 0, none⟩ = some (.int .i64 th) ∧ w'.cell? ⟨g, f0 + j * 38, none⟩ = some (.int .i64 s.o.k) ∧ w'.cell? ⟨g, f0 + j * 38 + 1, none⟩ = some (.int .i64 s.o.n) ∧ w'.cell? ⟨g, f0 + j * 38 + 2, none⟩ = some (.int .i64 s.o.a) ∧ w'.cell? ⟨g, f0 + j * 38 + 3, none⟩ = some (.int .i64 s.o.b)) (by kernel_rfl) h0S (fun hHeld => ?_)
  refine wpAnyH_take (i := 0) (v := ?_) rfl (by kernel_rfl) (by kernel_rfl) (by kernel_rfl) (fun _ _ _ h => h) (Or.inl ⟨by rfl, ?_⟩) (by assumption) ?_
  rotate_left
  · (intro w hSw; (try dsimp only at hSw); go_simp; try with_reducible rfl)
  try simp only [Act.put, List.getElem_toArray, List.getElem_cons_succ, List.getElem_cons_zero, List.setIfInBounds_toArray, List.set_cons_zero, List.set_cons_succ]
  refine wpAnyH_take (i := 1) (v := ?_) rfl (by kernel_rfl) (by kernel_rfl) (by kernel_rfl) (fun _ _ _ h => h) (Or.inl ⟨by rfl, ?_⟩) (by assumption) ?_
  rotate_left
  · (intro w hSw; (try dsimp only at hSw); go_simp; try with_reducible rfl)
  try simp only [Act.put, List.getElem_toArray, List.getElem_cons_succ, List.getElem_cons_zero, List.setIfInBounds_toArray, List.set_cons_zero, List.set_cons_succ]
  refine wpAnyH_take (i := 2) (v := ?_) rfl (by kernel_rfl) (by kernel_rfl) (by kernel_rfl) (fun _ _ _ h => h) (Or.inl ⟨by rfl, ?_⟩) (by assumption) ?_
  rotate_left
  · (intro w hSw; (try dsimp only at hSw); go_simp; try with_reducible rfl)
  try simp only [Act.put, List.getElem_toArray, List.getElem_cons_succ, List.getElem_cons_zero, List.setIfInBounds_toArray, List.set_cons_zero, List.set_cons_succ]
  refine wpAnyH_take (i := 3) (v := ?_) rfl (by kernel_rfl) (by kernel_rfl) (by kernel_rfl) (fun _ _ _ h => h) (Or.inl ⟨by rfl, ?_⟩) (by assumption) ?_
  rotate_left
  · (intro w hSw; (try dsimp only at hSw); go_simp; try with_reducible rfl)
  try simp only [Act.put, List.getElem_toArray, List.getElem_cons_succ, List.getElem_cons_zero, List.setIfInBounds_toArray, List.set_cons_zero, List.set_cons_succ]
  refine wpAnyH_take (i := 4) (v := ?_) rfl (by kernel_rfl) (by kernel_rfl) (by kernel_rfl) (fun _ _ _ h => h) (Or.inl ⟨by rfl, ?_⟩) (by assumption) ?_
  rotate_left
  · (intro w hSw; (try dsimp only at hSw); go_simp; try with_reducible rfl)
  try simp only [Act.put, List.getElem_toArray, List.getElem_cons_succ, List.getElem_cons_zero, List.setIfInBounds_toArray, List.set_cons_zero, List.set_cons_succ]
  refine wpAnyH_take (i := 5) (v := ?_) rfl (by kernel_rfl) (by kernel_rfl) (by kernel_rfl) (fun _ _ _ h => h) (Or.inl ⟨by rfl, ?_⟩) (by assumption) ?_
  rotate_left
  · (intro w hSw; (try dsimp only at hSw); go_simp; try with_reducible rfl)
  try simp only [Act.put, List.getElem_toArray, List.getElem_cons_succ, List.getElem_cons_zero, List.setIfInBounds_toArray, List.set_cons_zero, List.set_cons_succ]
  refine wpAnyH_take (i := 6) (v := ?_) rfl (by kernel_rfl) (by kernel_rfl) (by kernel_rfl) (fun _ _ _ h => h) (Or.inl ⟨by rfl, ?_⟩) (by assumption) ?_
  rotate_left
  · (intro w hSw; (try dsimp only at hSw); go_simp; try with_reducible rfl)
  try simp only [Act.put, List.getElem_toArray, List.getElem_cons_succ, List.getElem_cons_zero, List.setIfInBounds_toArray, List.set_cons_zero, List.set_cons_succ]
  refine wpAnyH_take (i := 7) (v := ?_) rfl (by kernel_rfl) (by kernel_rfl) (by kernel_rfl) (fun _ _ _ h => h) (Or.inl ⟨by rfl, ?_⟩) (by assumption) ?_
  rotate_left
  · (intro w hSw; (try dsimp only at hSw); go_simp; try with_reducible rfl)
  try simp only [Act.put, List.getElem_toArray, List.getElem_cons_succ, List.getElem_cons_zero, List.setIfInBounds_toArray, List.set_cons_zero, List.set_cons_succ]
  refine wpAnyH_take (i := 8) (v := ?_) rfl (by kernel_rfl) (by kernel_rfl) (by kernel_rfl) (fun _ _ _ h => h) (Or.inl ⟨by rfl, ?_⟩) (by assumption) ?_
  rotate_left
  · (intro w hSw; (try dsimp only at hSw); go_simp; try with_reducible rfl)
  try simp only [Act.put, List.getElem_toArray, List.getElem_cons_succ, List.getElem_cons_zero, List.setIfInBounds_toArray, List.set_cons_zero, List.set_cons_succ]
  refine wpAnyH_take (i := 9) (v := ?_) rfl (by kernel_rfl) (by kernel_rfl) (by kernel_rfl) (fun _ _ _ h => h) (Or.inl ⟨by rfl, ?_⟩) (by assumption) ?_
  rotate_left
  · (intro w hSw; (try dsimp only at hSw); go_simp; try with_reducible rfl)
  try simp only [Act.put, List.getElem_toArray, List.getElem_cons_succ, List.getElem_cons_zero, List.setIfInBounds_toArray, List.set_cons_zero, List.set_cons_succ]
  refine wpAnyH_take (i := 10) (v := ?_) rfl (by kernel_rfl) (by kernel_rfl) (by kernel_rfl) (fun _ _ _ h => h) (Or.inl ⟨by rfl, ?_⟩) (by assumption) ?_
  rotate_left
  · (intro w hSw; (try dsimp only at hSw); go_simp; try with_reducible rfl)
  try simp only [Act.put, List.getElem_toArray, List.getElem_cons_succ, List.getElem_cons_zero, List.setIfInBounds_toArray, List.set_cons_zero, List.set_cons_succ]
  refine wpAnyH_take (i := 11) (v := ?_) rfl (by kernel_rfl) (by kernel_rfl) (by kernel_rfl) (fun _ _ _ h => h) (Or.inl ⟨by rfl, ?_⟩) (by assumption) ?_
  rotate_left
  · (intro w hSw; (try dsimp only at hSw); go_simp; try with_reducible rfl)
  try simp only [Act.put, List.getElem_toArray, List.getElem_cons_succ, List.getElem_cons_zero, List.setIfInBounds_toArray, List.set_cons_zero, List.set_cons_succ]
  refine wpAnyH_ready (rs := [12]) (by kernel_rfl) (by simp) ?_
  refine AllReadyH.cons rfl (fun K hK => ?_) AllReadyH.nil
  go_simp
  (go_at_call 14; refine (spinMay_any _ (by first | exact (HT.out.below bB (Nat.le_refl _)) | exact TabO.below (HT.out.below bB (Nat.le_refl _)) (bl_drewN (Below.refl _ _) _) (Nat.le_refl _) | exact TabO.below (HT.out.below bB (Nat.le_refl _)) (bl_drew (bl_drewN (Below.refl _ _) _)) (Nat.le_refl _)) _ _ _ _ _ _ _).mono ?_; rintro e wN ⟨he, hbN⟩; rw [dA] at he; subst he; have hbW2 : Below (((w.alloc (.cells #[.int .i64 who, .int .i64 ((j : Nat) : Int), .int .i64 call, .int .i64 part, .int .u32 arg, .int .u32 val] 32)).alloc (.cells #[.int .u32 0, .slice none 0 0] 50))).heap.size (((w.alloc (.cells #[.int .i64 who, .int .i64 ((j : Nat) : Int), .int .i64 call, .int .i64 part, .int .u32 arg, .int .u32 val] 32)).alloc (.cells #[.int .u32 0, .slice none 0 0] 50))) wN := ⟨hbN.os, hbN.tape, hbN.output, hbN.size, hbN.block⟩; have hbWN := bB.trans (hbW2.mono bB.size); have bXN := obj_keep bX hbW2; have hMN := (hbWN.block _ hmlt).trans HM.out; have hSN := Seg.below HS.out hbWN)
  go_wp2_with fail
  refine hK.out _ _ (holdM bXN hMN hSN) (fun hHeld2 => ?_)
  clear hK K hHeld
  refine wpAnyH_take (i := 13) (v := ?_) rfl (by kernel_rfl) (by kernel_rfl) (by kernel_rfl) (fun _ _ _ h => h) (Or.inl ⟨by rfl, ?_⟩) (by assumption) ?_
  rotate_left
  · (intro w hSw; (try dsimp only at hSw); go_simp; try with_reducible rfl)
  try simp only [Act.put, List.getElem_toArray, List.getElem_cons_succ, List.getElem_cons_zero, List.setIfInBounds_toArray, List.set_cons_zero, List.set_cons_succ]
  refine wpAnyH_take (i := 14) (v := ?_) rfl (by kernel_rfl) (by kernel_rfl) (by kernel_rfl) (fun _ _ _ h => h) (Or.inl ⟨by rfl, ?_⟩) (by assumption) ?_
  rotate_left
  · (intro w hSw; (try dsimp only at hSw); go_simp; try with_reducible rfl)
  try simp only [Act.put, List.getElem_toArray, List.getElem_cons_succ, List.getElem_cons_zero, List.setIfInBounds_toArray, List.set_cons_zero, List.set_cons_succ]
  refine wpAnyH_take (i := 15) (v := ?_) rfl (by kernel_rfl) (by kernel_rfl) (by kernel_rfl) (fun _ _ _ h => h) (Or.inl ⟨by rfl, ?_⟩) (by assumption) ?_
  rotate_left
  · (intro w hSw; (try dsimp only at hSw); go_simp; try with_reducible rfl)
  try simp only [Act.put, List.getElem_toArray, List.getElem_cons_succ, List.getElem_cons_zero, List.setIfInBounds_toArray, List.set_cons_zero, List.set_cons_succ]
  refine wpAnyH_take (i := 16) (v := ?_) rfl (by kernel_rfl) (by kernel_rfl) (by kernel_rfl) (fun _ _ _ h => h) (Or.inl ⟨by rfl, ?_⟩) (by assumption) ?_
  rotate_left
  · (intro w hSw; (try dsimp only at hSw); go_simp; try with_reducible rfl)
  try simp only [Act.put, List.getElem_toArray, List.getElem_cons_succ, List.getElem_cons_zero, List.setIfInBounds_toArray, List.set_cons_zero, List.set_cons_succ]
  refine wpAnyH_take (i := 17) (v := ?_) rfl (by kernel_rfl) (by kernel_rfl) (by kernel_rfl) (fun _ _ _ h => h) (Or.inl ⟨by rfl, ?_⟩) (by assumption) ?_
  rotate_left
  · (intro w hSw; (try dsimp only at hSw); go_simp; try with_reducible rfl)
  try simp only [Act.put, List.getElem_toArray, List.getElem_cons_succ, List.getElem_cons_zero, List.setIfInBounds_toArray, List.set_cons_zero, List.set_cons_succ]
  refine wpAnyH_take (i := 18) (v := ?_) rfl (by kernel_rfl) (by kernel_rfl) (by kernel_rfl) (fun _ _ _ h => h) (Or.inl ⟨by rfl, ?_⟩) (by assumption) ?_
  rotate_left
  · (intro w hSw; (try dsimp only at hSw); go_simp; try with_reducible rfl)
  try simp only [Act.put, List.getElem_toArray, List.getElem_cons_succ, List.getElem_cons_zero, List.setIfInBounds_toArray, List.set_cons_zero, List.set_cons_succ]
  refine wpAnyH_take (i := 19) (v := undef) rfl (by kernel_rfl) (by kernel_rfl) (by kernel_rfl) (fun _ _ _ h => h) (Or.inr ⟨by kernel_rfl, rfl⟩) (by assumption) ?_
  try simp only [Act.put, List.getElem_toArray, List.getElem_cons_succ, List.getElem_cons_zero, List.setIfInBounds_toArray, List.set_cons_zero, List.set_cons_succ]
  refine wpAnyH_take (i := 20) (v := undef) rfl (by kernel_rfl) (by kernel_rfl) (by kernel_rfl) (fun _ _ _ h => h) (Or.inr ⟨by kernel_rfl, rfl⟩) (by assumption) ?_
  try simp only [Act.put, List.getElem_toArray, List.getElem_cons_succ, List.getElem_cons_zero, List.setIfInBounds_toArray, List.set_cons_zero, List.set_cons_succ]
  refine wpAnyH_take (i := 21) (v := undef) rfl (by kernel_rfl) (by kernel_rfl) (by kernel_rfl) (fun _ _ _ h => h) (Or.inr ⟨by kernel_rfl, rfl⟩) (by assumption) ?_
  try simp only [Act.put, List.getElem_toArray, List.getElem_cons_succ, List.getElem_cons_zero, List.setIfInBounds_toArray, List.set_cons_zero, List.set_cons_succ]
  refine wpAnyH_take (i := 22) (v := undef) rfl (by kernel_rfl) (by kernel_rfl) (by kernel_rfl) (fun _ _ _ h => h) (Or.inr ⟨by kernel_rfl, rfl⟩) (by assumption) ?_
  try simp only [Act.put, List.getElem_toArray, List.getElem_cons_succ, List.getElem_cons_zero, List.setIfInBounds_toArray, List.set_cons_zero, List.set_cons_succ]
  refine wpAnyH_take (i := 23) (v := undef) rfl (by kernel_rfl) (by kernel_rfl) (by kernel_rfl) (fun _ _ _ h => h) (Or.inr ⟨by kernel_rfl, rfl⟩) (by assumption) ?_
  try simp only [Act.put, List.getElem_toArray, List.getElem_cons_succ, List.getElem_cons_zero, List.setIfInBounds_toArray, List.set_cons_zero, List.set_cons_succ]
  refine wpAnyH_take (i := 24) (v := undef) rfl (by kernel_rfl) (by kernel_rfl) (by kernel_rfl) (fun _ _ _ h => h) (Or.inr ⟨by kernel_rfl, rfl⟩) (by assumption) ?_
  try simp only [Act.put, List.getElem_toArray, List.getElem_cons_succ, List.getElem_cons_zero, List.setIfInBounds_toArray, List.set_cons_zero, List.set_cons_succ]
  refine wpAnyH_take (i := 25) (v := undef) rfl (by kernel_rfl) (by kernel_rfl) (by kernel_rfl) (fun _ _ _ h => h) (Or.inr ⟨by kernel_rfl, rfl⟩) (by assumption) ?_
  try simp only [Act.put, List.getElem_toArray, List.getElem_cons_succ, List.getElem_cons_zero, List.setIfInBounds_toArray, List.set_cons_zero, List.set_cons_succ]
  refine wpAnyH_take (i := 26) (v := undef) rfl (by kernel_rfl) (by kernel_rfl) (by kernel_rfl) (fun _ _ _ h => h) (Or.inr ⟨by kernel_rfl, rfl⟩) (by assumption) ?_
  try simp only [Act.put, List.getElem_toArray, List.getElem_cons_succ, List.getElem_cons_zero, List.setIfInBounds_toArray, List.set_cons_zero, List.set_cons_succ]
  refine wpAnyH_take (i := 27) (v := undef) rfl (by kernel_rfl) (by kernel_rfl) (by kernel_rfl) (fun _ _ _ h => h) (Or.inr ⟨by kernel_rfl, rfl⟩) (by assumption) ?_
  try simp only [Act.put, List.getElem_toArray, List.getElem_cons_succ, List.getElem_cons_zero, List.setIfInBounds_toArray, List.set_cons_zero, List.set_cons_succ]
  refine wpAnyH_take (i := 28) (v := undef) rfl (by kernel_rfl) (by kernel_rfl) (by kernel_rfl) (fun _ _ _ h => h) (Or.inr ⟨by kernel_rfl, rfl⟩) (by assumption) ?_
  try simp only [Act.put, List.getElem_toArray, List.getElem_cons_succ, List.getElem_cons_zero, List.setIfInBounds_toArray, List.set_cons_zero, List.set_cons_succ]
  refine wpAnyH_take (i := 29) (v := ?_) rfl (by kernel_rfl) (by kernel_rfl) (by kernel_rfl) (fun _ _ _ h => h) (Or.inl ⟨by rfl, ?_⟩) (by assumption) ?_
  rotate_left
  · (intro w hSw; (try dsimp only at hSw); go_simp; try with_reducible rfl)
  try simp only [Act.put, List.getElem_toArray, List.getElem_cons_succ, List.getElem_cons_zero, List.setIfInBounds_toArray, List.set_cons_zero, List.set_cons_succ]
  refine wpAnyH_take (i := 30) (v := ?_) rfl (by kernel_rfl) (by kernel_rfl) (by kernel_rfl) (fun _ _ _ h => h) (Or.inl ⟨by rfl, ?_⟩) (by assumption) ?_
  rotate_left
  · (intro w hSw; (try dsimp only at hSw); go_simp; try with_reducible rfl)
  try simp only [Act.put, List.getElem_toArray, List.getElem_cons_succ, List.getElem_cons_zero, List.setIfInBounds_toArray, List.set_cons_zero, List.set_cons_succ]
  refine wpAnyH_done (by kernel_rfl) ?_ _
  have bZN := obj_keep bZ hbW2
  have hkx := cells6 bXN
  obtain ⟨xc0, xc1, xc2, xc3, xc4, xc5⟩ := hkx
  have zc0 : wN.cell? ⟨w.heap.size + 1, 0, none⟩ = some (.int .u32 0) := cell_of_row wN (w.heap.size + 1) 0 _ _ _ bZN
  have zc1 : wN.cell? ⟨w.heap.size + 1, 1, none⟩ = some (.slice none 0 0) := cell_of_row wN (w.heap.size + 1) 1 _ _ _ bZN
  have zf0 : wN.frozen? ⟨w.heap.size + 1, 0, none⟩ = false := frozen_of_row _ _ _ _ _ bZN
  have zf1 : wN.frozen? ⟨w.heap.size + 1, 1, none⟩ = false := frozen_of_row _ _ _ _ _ bZN
  have hsN : w.heap.size + 1 < wN.heap.size := (Array.getElem?_eq_some_iff.1 bZN).1
  have hsX : w.heap.size < wN.heap.size := by omega
  have hsg : g < wN.heap.size := hSN.lt
  have oc0 : wN.cell? ⟨g, f0 + j * 38, none⟩ = some (.int .i64 s.o.k) := (hSN.at 0 (by decide)).1.trans s.cells_at.1
  have HSN := Lib.hid hSN
  have HMN := Lib.hid hMN
  have HBN := Lib.hid hbWN
  have HZN := Lib.hid bZN
  clear hSN hMN hbWN bZN bXN hbW2
  go_wp2_with (go_at_call 19; refine (hcon _ HSN.out).mono ?_; rintro e wU ⟨dv, rfl, hRd, hFr, hU⟩; obtain ⟨dA, dc, rfl⟩ := hRd.form; have bR : wU.heap[w.heap.size + 1]? = some (.cells #[.int .u32 0, .slice none 0 0] 50) := (hU.1.block _ hsN (by omega)).trans HZN.out; have rc0 : wU.cell? ⟨w.heap.size + 1, 0, none⟩ = some (.int .u32 0) := cell_of_row wU (w.heap.size + 1) 0 _ _ _ bR; have rc1 : wU.cell? ⟨w.heap.size + 1, 1, none⟩ = some (.slice none 0 0) := cell_of_row wU (w.heap.size + 1) 1 _ _ _ bR; have rf0 : wU.frozen? ⟨w.heap.size + 1, 0, none⟩ = false := frozen_of_row _ _ _ _ _ bR; have rf1 : wU.frozen? ⟨w.heap.size + 1, 1, none⟩ = false := frozen_of_row _ _ _ _ _ bR)
  refine bodyPost_ret (results_ans2 rfl _ _ (w.heap.size + 1) _ _ (set2_row bR _ _) rfl) rfl ?_
  exact MPF.lift hlt HBN.out (by omega) hsN hRd hFr hU

set_option maxHeartbeats 2000000 in
theorem doM_rw (w : World) (T : TabO w) (mb g f0 n cap j : Nat) (th : Int) (s : St) (who call part arg val : Int) (hM : w.heap[mb]? = some (.cells #[.int .i64 th, .slice (some ⟨g, f0, none⟩) n cap] 56 (0, 0))) (hS : Seg w g (f0 + j * 38) s) (hj : j < n) (hx0 : 0 ≤ arg) (hx1 : arg ≤ 4294967295) (hP : AskP s.o.k s.o.n s.o.a s.o.b call th who) (p0 : part = 0) (p1 : s.o.k = 14) :
    Calls Tryd.prog 9 #[.pointer (some ⟨mb, 0, none⟩), .agg #[.int .i64 who, .int .i64 ((j : Nat) : Int), .int .i64 call, .int .i64 part, .int .u32 arg, .int .u32 val]] w (MPF w g (f0 + j * 38) (doRw s ⟨who, ((j : Nat) : Int), call, part, arg, val⟩).1 (doRw s ⟨who, ((j : Nat) : Int), call, part, arg, val⟩).2) := by
  obtain ⟨a, ha⟩ : ∃ a, a = (doRw s ⟨who, ((j : Nat) : Int), call, part, arg, val⟩).1 := ⟨_, rfl⟩
  obtain ⟨s', hs'⟩ : ∃ s', s' = (doRw s ⟨who, ((j : Nat) : Int), call, part, arg, val⟩).2 := ⟨_, rfl⟩
  have hcon : ∀ W, Seg W g (f0 + j * 38) s → Calls Tryd.prog 20 #[.pointer (some ⟨g, f0 + j * 38, none⟩), .agg #[.int .i64 who, .int .i64 ((j : Nat) : Int), .int .i64 call, .int .i64 part, .int .u32 arg, .int .u32 val]] W (MPF W g (f0 + j * 38) a s') := fun W hW => by
    rw [ha, hs']
    exact (rwM_any W g (f0 + j * 38) s ⟨who, ((j : Nat) : Int), call, part, arg, val⟩ who.toNat (by show who = _; have := hP.2.1; omega) (by have := hP.1.2.1; have := hP.2.2.1; omega) hW).mono (fun e w' q => q.fresh (doRw_nil s _))
  rw [← ha, ← hs']
  clear ha hs'
  have hlt := hS.lt
  have hmlt : mb < w.heap.size := (Array.getElem?_eq_some_iff.1 hM).1
  obtain ⟨bX, bZ, bB, bS⟩ := blk2 w (.cells #[.int .i64 who, .int .i64 ((j : Nat) : Int), .int .i64 call, .int .i64 part, .int .u32 arg, .int .u32 val] 32) (.cells #[.int .u32 0, .slice none 0 0] 50)
  have HS := Lib.hid hS
  have HM := Lib.hid hM
  have HT := Lib.hid T
  have m0 : w.cell? ⟨mb, 0, none⟩ = some (.int .i64 th) := cell_of_row w mb 0 _ _ _ hM
  have m1 : w.cell? ⟨mb, 1, none⟩ = some (.slice (some ⟨g, f0, none⟩) n cap) := cell_of_row w mb 1 _ _ _ hM
  have g1 : decide (((j : Nat) : Int) < 0) = false := decide_eq_false (by omega)
  have g2 : decide (((n : Nat) : Int) ≤ ((j : Nat) : Int)) = false := decide_eq_false (by omega)
  have g3 : decide (n ≤ j) = false := decide_eq_false (by omega)
  have dA : decide (AskP s.o.k s.o.n s.o.a s.o.b call th who) = true := decide_eq_true hP
  have wr0 : IntKind.u64.wrap arg = arg := by rw [IntKind.wrap_u64]; omega
  have wr1 : IntKind.u64.wrap s.o.n = s.o.n := by rw [IntKind.wrap_u64]; obtain ⟨⟨_, _, h⟩, _⟩ := hP; omega
  have q0 : (call == 4) = false := by have h := hP.2.2.2; unfold MayP at h; simp; omega
  have q1 : (s.o.k != 13) = true := by simp; omega
  have q2 : (part != 0) = false := by simp; omega
  have q3 : (s.o.k == 6) = false := by simp; omega
  have q4 : (s.o.k == 7) = false := by simp; omega
  have q5 : (s.o.k == 9) = false := by simp; omega
  have q6 : (s.o.k == 11) = false := by simp; omega
  have q7 : (s.o.k == 12) = false := by simp; omega
  have q8 : (s.o.k == 13) = false := by simp; omega
  have q9 : (s.o.k == 14) = true := by simp; omega
  clear hM hS T p0 p1 hP
  go_enter Tryd.func9, Tryd.ntmps9
  go_wp2_with fail
  go_quiet (fail)
  go_wp2_with fail
  go_quiet (fail)
  go_wp2_with fail
  have h0S := holdM bX ((bB.block _ hmlt).trans HM.out) (Seg.below HS.out bB)
  refine wp_region_held_drew (S := fun w' => w'.cell? ⟨w.heap.size, 0, none⟩ = some (.int .i64 who) ∧ w'.cell? ⟨w.heap.size, 2, none⟩ = some (.int .i64 call) ∧ w'.cell? ⟨w.heap.size, 4, none⟩ = some (.int .u32 arg) ∧ w'.cell? ⟨mb, 0, none⟩ = some (.int .i64 th) ∧ w'.cell? ⟨g, f0 + j * 38, none⟩ = some (.int .i64 s.o.k) ∧ w'.cell? ⟨g, f0 + j * 38 + 1, none⟩ = some (.int .i64 s.o.n) ∧ w'.cell? ⟨g, f0 + j * 38 + 2, none⟩ = some (.int .i64 s.o.a) ∧ w'.cell? ⟨g, f0 + j * 38 + 3, none⟩ = some (.int .i64 s.o.b)) (by kernel_rfl) h0S (fun hHeld => ?_)
  refine wpAnyH_take (i := 0) (v := ?_) rfl (by kernel_rfl) (by kernel_rfl) (by kernel_rfl) (fun _ _ _ h => h) (Or.inl ⟨by rfl, ?_⟩) (by assumption) ?_
  rotate_left
  · (intro w hSw; (try dsimp only at hSw); go_simp; try with_reducible rfl)
  try simp only [Act.put, List.getElem_toArray, List.getElem_cons_succ, List.getElem_cons_zero, List.setIfInBounds_toArray, List.set_cons_zero, List.set_cons_succ]
  refine wpAnyH_take (i := 1) (v := ?_) rfl (by kernel_rfl) (by kernel_rfl) (by kernel_rfl) (fun _ _ _ h => h) (Or.inl ⟨by rfl, ?_⟩) (by assumption) ?_
  rotate_left
  · (intro w hSw; (try dsimp only at hSw); go_simp; try with_reducible rfl)
  try simp only [Act.put, List.getElem_toArray, List.getElem_cons_succ, List.getElem_cons_zero, List.setIfInBounds_toArray, List.set_cons_zero, List.set_cons_succ]
  refine wpAnyH_take (i := 2) (v := ?_) rfl (by kernel_rfl) (by kernel_rfl) (by kernel_rfl) (fun _ _ _ h => h) (Or.inl ⟨by rfl, ?_⟩) (by assumption) ?_
  rotate_left
  · (intro w hSw; (try dsimp only at hSw); go_simp; try with_reducible rfl)
  try simp only [Act.put, List.getElem_toArray, List.getElem_cons_succ, List.getElem_cons_zero, List.setIfInBounds_toArray, List.set_cons_zero, List.set_cons_succ]
  refine wpAnyH_take (i := 3) (v := ?_) rfl (by kernel_rfl) (by kernel_rfl) (by kernel_rfl) (fun _ _ _ h => h) (Or.inl ⟨by rfl, ?_⟩) (by assumption) ?_
  rotate_left
  · (intro w hSw; (try dsimp only at hSw); go_simp; try with_reducible rfl)
  try simp only [Act.put, List.getElem_toArray, List.getElem_cons_succ, List.getElem_cons_zero, List.setIfInBounds_toArray, List.set_cons_zero, List.set_cons_succ]
  refine wpAnyH_take (i := 4) (v := ?_) rfl (by kernel_rfl) (by kernel_rfl) (by kernel_rfl) (fun _ _ _ h => h) (Or.inl ⟨by rfl, ?_⟩) (by assumption) ?_
  rotate_left
  · (intro w hSw; (try dsimp only at hSw); go_simp; try with_reducible rfl)
  try simp only [Act.put, List.getElem_toArray, List.getElem_cons_succ, List.getElem_cons_zero, List.setIfInBounds_toArray, List.set_cons_zero, List.set_cons_succ]
  refine wpAnyH_take (i := 5) (v := ?_) rfl (by kernel_rfl) (by kernel_rfl) (by kernel_rfl) (fun _ _ _ h => h) (Or.inl ⟨by rfl, ?_⟩) (by assumption) ?_
  rotate_left
  · (intro w hSw; (try dsimp only at hSw); go_simp; try with_reducible rfl)
  try simp only [Act.put, List.getElem_toArray, List.getElem_cons_succ, List.getElem_cons_zero, List.setIfInBounds_toArray, List.set_cons_zero, List.set_cons_succ]
  refine wpAnyH_take (i := 6) (v := ?_) rfl (by kernel_rfl) (by kernel_rfl) (by kernel_rfl) (fun _ _ _ h => h) (Or.inl ⟨by rfl, ?_⟩) (by assumption) ?_
  rotate_left
  · (intro w hSw; (try dsimp only at hSw); go_simp; try with_reducible rfl)
  try simp only [Act.put, List.getElem_toArray, List.getElem_cons_succ, List.getElem_cons_zero, List.setIfInBounds_toArray, List.set_cons_zero, List.set_cons_succ]
  refine wpAnyH_take (i := 7) (v := ?_) rfl (by kernel_rfl) (by kernel_rfl) (by kernel_rfl) (fun _ _ _ h => h) (Or.inl ⟨by rfl, ?_⟩) (by assumption) ?_
  rotate_left
  · (intro w hSw; (try dsimp only at hSw); go_simp; try with_reducible rfl)
  try simp only [Act.put, List.getElem_toArray, List.getElem_cons_succ, List.getElem_cons_zero, List.setIfInBounds_toArray, List.set_cons_zero, List.set_cons_succ]
  refine wpAnyH_take (i := 8) (v := ?_) rfl (by kernel_rfl) (by kernel_rfl) (by kernel_rfl) (fun _ _ _ h => h) (Or.inl ⟨by rfl, ?_⟩) (by assumption) ?_
  rotate_left
  · (intro w hSw; (try dsimp only at hSw); go_simp; try with_reducible rfl)
  try simp only [Act.put, List.getElem_toArray, List.getElem_cons_succ, List.getElem_cons_zero, List.setIfInBounds_toArray, List.set_cons_zero, List.set_cons_succ]
  refine wpAnyH_take (i := 9) (v := ?_) rfl (by kernel_rfl) (by kernel_rfl) (by kernel_rfl) (fun _ _ _ h => h) (Or.inl ⟨by rfl, ?_⟩) (by assumption) ?_
  rotate_left
  · (intro w hSw; (try dsimp only at hSw); go_simp; try with_reducible rfl)
  try simp only [Act.put, List.getElem_toArray, List.getElem_cons_succ, List.getElem_cons_zero, List.setIfInBounds_toArray, List.set_cons_zero, List.set_cons_succ]
  refine wpAnyH_take (i := 10) (v := ?_) rfl (by kernel_rfl) (by kernel_rfl) (by kernel_rfl) (fun _ _ _ h => h) (Or.inl ⟨by rfl, ?_⟩) (by assumption) ?_
  rotate_left
  · (intro w hSw; (try dsimp only at hSw); go_simp; try with_reducible rfl)
  try simp only [Act.put, List.getElem_toArray, List.getElem_cons_succ, List.getElem_cons_zero, List.setIfInBounds_toArray, List.set_cons_zero, List.set_cons_succ]
  refine wpAnyH_take (i := 11) (v := ?_) rfl (by kernel_rfl) (by kernel_rfl) (by kernel_rfl) (fun _ _ _ h => h) (Or.inl ⟨by rfl, ?_⟩) (by assumption) ?_
  rotate_left
  · (intro w hSw; (try dsimp only at hSw); go_simp; try with_reducible rfl)
  try simp only [Act.put, List.getElem_toArray, List.getElem_cons_succ, List.getElem_cons_zero, List.setIfInBounds_toArray, List.set_cons_zero, List.set_cons_succ]
  refine wpAnyH_ready (rs := [12]) (by kernel_rfl) (by simp) ?_
  refine AllReadyH.cons rfl (fun K hK => ?_) AllReadyH.nil
  go_simp
  (go_at_call 14; refine (spinMay_any _ (by first | exact (HT.out.below bB (Nat.le_refl _)) | exact TabO.below (HT.out.below bB (Nat.le_refl _)) (bl_drewN (Below.refl _ _) _) (Nat.le_refl _) | exact TabO.below (HT.out.below bB (Nat.le_refl _)) (bl_drew (bl_drewN (Below.refl _ _) _)) (Nat.le_refl _)) _ _ _ _ _ _ _).mono ?_; rintro e wN ⟨he, hbN⟩; rw [dA] at he; subst he; have hbW2 : Below (((w.alloc (.cells #[.int .i64 who, .int .i64 ((j : Nat) : Int), .int .i64 call, .int .i64 part, .int .u32 arg, .int .u32 val] 32)).alloc (.cells #[.int .u32 0, .slice none 0 0] 50))).heap.size (((w.alloc (.cells #[.int .i64 who, .int .i64 ((j : Nat) : Int), .int .i64 call, .int .i64 part, .int .u32 arg, .int .u32 val] 32)).alloc (.cells #[.int .u32 0, .slice none 0 0] 50))) wN := ⟨hbN.os, hbN.tape, hbN.output, hbN.size, hbN.block⟩; have hbWN := bB.trans (hbW2.mono bB.size); have bXN := obj_keep bX hbW2; have hMN := (hbWN.block _ hmlt).trans HM.out; have hSN := Seg.below HS.out hbWN)
  go_wp2_with fail
  refine hK.out _ _ (holdM bXN hMN hSN) (fun hHeld2 => ?_)
  clear hK K hHeld
  refine wpAnyH_take (i := 13) (v := ?_) rfl (by kernel_rfl) (by kernel_rfl) (by kernel_rfl) (fun _ _ _ h => h) (Or.inl ⟨by rfl, ?_⟩) (by assumption) ?_
  rotate_left
  · (intro w hSw; (try dsimp only at hSw); go_simp; try with_reducible rfl)
  try simp only [Act.put, List.getElem_toArray, List.getElem_cons_succ, List.getElem_cons_zero, List.setIfInBounds_toArray, List.set_cons_zero, List.set_cons_succ]
  refine wpAnyH_take (i := 14) (v := ?_) rfl (by kernel_rfl) (by kernel_rfl) (by kernel_rfl) (fun _ _ _ h => h) (Or.inl ⟨by rfl, ?_⟩) (by assumption) ?_
  rotate_left
  · (intro w hSw; (try dsimp only at hSw); go_simp; try with_reducible rfl)
  try simp only [Act.put, List.getElem_toArray, List.getElem_cons_succ, List.getElem_cons_zero, List.setIfInBounds_toArray, List.set_cons_zero, List.set_cons_succ]
  refine wpAnyH_take (i := 15) (v := ?_) rfl (by kernel_rfl) (by kernel_rfl) (by kernel_rfl) (fun _ _ _ h => h) (Or.inl ⟨by rfl, ?_⟩) (by assumption) ?_
  rotate_left
  · (intro w hSw; (try dsimp only at hSw); go_simp; try with_reducible rfl)
  try simp only [Act.put, List.getElem_toArray, List.getElem_cons_succ, List.getElem_cons_zero, List.setIfInBounds_toArray, List.set_cons_zero, List.set_cons_succ]
  refine wpAnyH_take (i := 16) (v := ?_) rfl (by kernel_rfl) (by kernel_rfl) (by kernel_rfl) (fun _ _ _ h => h) (Or.inl ⟨by rfl, ?_⟩) (by assumption) ?_
  rotate_left
  · (intro w hSw; (try dsimp only at hSw); go_simp; try with_reducible rfl)
  try simp only [Act.put, List.getElem_toArray, List.getElem_cons_succ, List.getElem_cons_zero, List.setIfInBounds_toArray, List.set_cons_zero, List.set_cons_succ]
  refine wpAnyH_take (i := 17) (v := ?_) rfl (by kernel_rfl) (by kernel_rfl) (by kernel_rfl) (fun _ _ _ h => h) (Or.inl ⟨by rfl, ?_⟩) (by assumption) ?_
  rotate_left
  · (intro w hSw; (try dsimp only at hSw); go_simp; try with_reducible rfl)
  try simp only [Act.put, List.getElem_toArray, List.getElem_cons_succ, List.getElem_cons_zero, List.setIfInBounds_toArray, List.set_cons_zero, List.set_cons_succ]
  refine wpAnyH_take (i := 18) (v := ?_) rfl (by kernel_rfl) (by kernel_rfl) (by kernel_rfl) (fun _ _ _ h => h) (Or.inl ⟨by rfl, ?_⟩) (by assumption) ?_
  rotate_left
  · (intro w hSw; (try dsimp only at hSw); go_simp; try with_reducible rfl)
  try simp only [Act.put, List.getElem_toArray, List.getElem_cons_succ, List.getElem_cons_zero, List.setIfInBounds_toArray, List.set_cons_zero, List.set_cons_succ]
  refine wpAnyH_take (i := 19) (v := undef) rfl (by kernel_rfl) (by kernel_rfl) (by kernel_rfl) (fun _ _ _ h => h) (Or.inr ⟨by kernel_rfl, rfl⟩) (by assumption) ?_
  try simp only [Act.put, List.getElem_toArray, List.getElem_cons_succ, List.getElem_cons_zero, List.setIfInBounds_toArray, List.set_cons_zero, List.set_cons_succ]
  refine wpAnyH_take (i := 20) (v := undef) rfl (by kernel_rfl) (by kernel_rfl) (by kernel_rfl) (fun _ _ _ h => h) (Or.inr ⟨by kernel_rfl, rfl⟩) (by assumption) ?_
  try simp only [Act.put, List.getElem_toArray, List.getElem_cons_succ, List.getElem_cons_zero, List.setIfInBounds_toArray, List.set_cons_zero, List.set_cons_succ]
  refine wpAnyH_take (i := 21) (v := undef) rfl (by kernel_rfl) (by kernel_rfl) (by kernel_rfl) (fun _ _ _ h => h) (Or.inr ⟨by kernel_rfl, rfl⟩) (by assumption) ?_
  try simp only [Act.put, List.getElem_toArray, List.getElem_cons_succ, List.getElem_cons_zero, List.setIfInBounds_toArray, List.set_cons_zero, List.set_cons_succ]
  refine wpAnyH_take (i := 22) (v := undef) rfl (by kernel_rfl) (by kernel_rfl) (by kernel_rfl) (fun _ _ _ h => h) (Or.inr ⟨by kernel_rfl, rfl⟩) (by assumption) ?_
  try simp only [Act.put, List.getElem_toArray, List.getElem_cons_succ, List.getElem_cons_zero, List.setIfInBounds_toArray, List.set_cons_zero, List.set_cons_succ]
  refine wpAnyH_take (i := 23) (v := undef) rfl (by kernel_rfl) (by kernel_rfl) (by kernel_rfl) (fun _ _ _ h => h) (Or.inr ⟨by kernel_rfl, rfl⟩) (by assumption) ?_
  try simp only [Act.put, List.getElem_toArray, List.getElem_cons_succ, List.getElem_cons_zero, List.setIfInBounds_toArray, List.set_cons_zero, List.set_cons_succ]
  refine wpAnyH_take (i := 24) (v := undef) rfl (by kernel_rfl) (by kernel_rfl) (by kernel_rfl) (fun _ _ _ h => h) (Or.inr ⟨by kernel_rfl, rfl⟩) (by assumption) ?_
  try simp only [Act.put, List.getElem_toArray, List.getElem_cons_succ, List.getElem_cons_zero, List.setIfInBounds_toArray, List.set_cons_zero, List.set_cons_succ]
  refine wpAnyH_take (i := 25) (v := undef) rfl (by kernel_rfl) (by kernel_rfl) (by kernel_rfl) (fun _ _ _ h => h) (Or.inr ⟨by kernel_rfl, rfl⟩) (by assumption) ?_
  try simp only [Act.put, List.getElem_toArray, List.getElem_cons_succ, List.getElem_cons_zero, List.setIfInBounds_toArray, List.set_cons_zero, List.set_cons_succ]
  refine wpAnyH_take (i := 26) (v := undef) rfl (by kernel_rfl) (by kernel_rfl) (by kernel_rfl) (fun _ _ _ h => h) (Or.inr ⟨by kernel_rfl, rfl⟩) (by assumption) ?_
  try simp only [Act.put, List.getElem_toArray, List.getElem_cons_succ, List.getElem_cons_zero, List.setIfInBounds_toArray, List.set_cons_zero, List.set_cons_succ]
  refine wpAnyH_take (i := 27) (v := undef) rfl (by kernel_rfl) (by kernel_rfl) (by kernel_rfl) (fun _ _ _ h => h) (Or.inr ⟨by kernel_rfl, rfl⟩) (by assumption) ?_
  try simp only [Act.put, List.getElem_toArray, List.getElem_cons_succ, List.getElem_cons_zero, List.setIfInBounds_toArray, List.set_cons_zero, List.set_cons_succ]
  refine wpAnyH_take (i := 28) (v := undef) rfl (by kernel_rfl) (by kernel_rfl) (by kernel_rfl) (fun _ _ _ h => h) (Or.inr ⟨by kernel_rfl, rfl⟩) (by assumption) ?_
  try simp only [Act.put, List.getElem_toArray, List.getElem_cons_succ, List.getElem_cons_zero, List.setIfInBounds_toArray, List.set_cons_zero, List.set_cons_succ]
  refine wpAnyH_take (i := 29) (v := ?_) rfl (by kernel_rfl) (by kernel_rfl) (by kernel_rfl) (fun _ _ _ h => h) (Or.inl ⟨by rfl, ?_⟩) (by assumption) ?_
  rotate_left
  · (intro w hSw; (try dsimp only at hSw); go_simp; try with_reducible rfl)
  try simp only [Act.put, List.getElem_toArray, List.getElem_cons_succ, List.getElem_cons_zero, List.setIfInBounds_toArray, List.set_cons_zero, List.set_cons_succ]
  refine wpAnyH_take (i := 30) (v := ?_) rfl (by kernel_rfl) (by kernel_rfl) (by kernel_rfl) (fun _ _ _ h => h) (Or.inl ⟨by rfl, ?_⟩) (by assumption) ?_
  rotate_left
  · (intro w hSw; (try dsimp only at hSw); go_simp; try with_reducible rfl)
  try simp only [Act.put, List.getElem_toArray, List.getElem_cons_succ, List.getElem_cons_zero, List.setIfInBounds_toArray, List.set_cons_zero, List.set_cons_succ]
  refine wpAnyH_done (by kernel_rfl) ?_ _
  have bZN := obj_keep bZ hbW2
  have hkx := cells6 bXN
  obtain ⟨xc0, xc1, xc2, xc3, xc4, xc5⟩ := hkx
  have zc0 : wN.cell? ⟨w.heap.size + 1, 0, none⟩ = some (.int .u32 0) := cell_of_row wN (w.heap.size + 1) 0 _ _ _ bZN
  have zc1 : wN.cell? ⟨w.heap.size + 1, 1, none⟩ = some (.slice none 0 0) := cell_of_row wN (w.heap.size + 1) 1 _ _ _ bZN
  have zf0 : wN.frozen? ⟨w.heap.size + 1, 0, none⟩ = false := frozen_of_row _ _ _ _ _ bZN
  have zf1 : wN.frozen? ⟨w.heap.size + 1, 1, none⟩ = false := frozen_of_row _ _ _ _ _ bZN
  have hsN : w.heap.size + 1 < wN.heap.size := (Array.getElem?_eq_some_iff.1 bZN).1
  have hsX : w.heap.size < wN.heap.size := by omega
  have hsg : g < wN.heap.size := hSN.lt
  have oc0 : wN.cell? ⟨g, f0 + j * 38, none⟩ = some (.int .i64 s.o.k) := (hSN.at 0 (by decide)).1.trans s.cells_at.1
  have HSN := Lib.hid hSN
  have HMN := Lib.hid hMN
  have HBN := Lib.hid hbWN
  have HZN := Lib.hid bZN
  clear hSN hMN hbWN bZN bXN hbW2
  go_wp2_with (go_at_call 20; refine (hcon _ HSN.out).mono ?_; rintro e wU ⟨dv, rfl, hRd, hFr, hU⟩; obtain ⟨dA, dc, rfl⟩ := hRd.form; have bR : wU.heap[w.heap.size + 1]? = some (.cells #[.int .u32 0, .slice none 0 0] 50) := (hU.1.block _ hsN (by omega)).trans HZN.out; have rc0 : wU.cell? ⟨w.heap.size + 1, 0, none⟩ = some (.int .u32 0) := cell_of_row wU (w.heap.size + 1) 0 _ _ _ bR; have rc1 : wU.cell? ⟨w.heap.size + 1, 1, none⟩ = some (.slice none 0 0) := cell_of_row wU (w.heap.size + 1) 1 _ _ _ bR; have rf0 : wU.frozen? ⟨w.heap.size + 1, 0, none⟩ = false := frozen_of_row _ _ _ _ _ bR; have rf1 : wU.frozen? ⟨w.heap.size + 1, 1, none⟩ = false := frozen_of_row _ _ _ _ _ bR)
  refine bodyPost_ret (results_ans2 rfl _ _ (w.heap.size + 1) _ _ (set2_row bR _ _) rfl) rfl ?_
  exact MPF.lift hlt HBN.out (by omega) hsN hRd hFr hU

set_option maxHeartbeats 2000000 in
theorem doM_once (w : World) (T : TabO w) (mb g f0 n cap j : Nat) (th : Int) (s : St) (who call part arg val : Int) (hM : w.heap[mb]? = some (.cells #[.int .i64 th, .slice (some ⟨g, f0, none⟩) n cap] 56 (0, 0))) (hS : Seg w g (f0 + j * 38) s) (hj : j < n) (hx0 : 0 ≤ arg) (hx1 : arg ≤ 4294967295) (hP : AskP s.o.k s.o.n s.o.a s.o.b call th who) (p0 : part = 0) (p1 : s.o.k = 15) :
    Calls Tryd.prog 9 #[.pointer (some ⟨mb, 0, none⟩), .agg #[.int .i64 who, .int .i64 ((j : Nat) : Int), .int .i64 call, .int .i64 part, .int .u32 arg, .int .u32 val]] w (MPF w g (f0 + j * 38) (doOnce s ⟨who, ((j : Nat) : Int), call, part, arg, val⟩).1 (doOnce s ⟨who, ((j : Nat) : Int), call, part, arg, val⟩).2) := by
  obtain ⟨a, ha⟩ : ∃ a, a = (doOnce s ⟨who, ((j : Nat) : Int), call, part, arg, val⟩).1 := ⟨_, rfl⟩
  obtain ⟨s', hs'⟩ : ∃ s', s' = (doOnce s ⟨who, ((j : Nat) : Int), call, part, arg, val⟩).2 := ⟨_, rfl⟩
  have hcon : ∀ W, Seg W g (f0 + j * 38) s → Calls Tryd.prog 21 #[.pointer (some ⟨g, f0 + j * 38, none⟩), .agg #[.int .i64 who, .int .i64 ((j : Nat) : Int), .int .i64 call, .int .i64 part, .int .u32 arg, .int .u32 val]] W (MPF W g (f0 + j * 38) a s') := fun W hW => by
    rw [ha, hs']
    exact once_any W g (f0 + j * 38) s ⟨who, ((j : Nat) : Int), call, part, arg, val⟩ hW
  rw [← ha, ← hs']
  clear ha hs'
  have hlt := hS.lt
  have hmlt : mb < w.heap.size := (Array.getElem?_eq_some_iff.1 hM).1
  obtain ⟨bX, bZ, bB, bS⟩ := blk2 w (.cells #[.int .i64 who, .int .i64 ((j : Nat) : Int), .int .i64 call, .int .i64 part, .int .u32 arg, .int .u32 val] 32) (.cells #[.int .u32 0, .slice none 0 0] 50)
  have HS := Lib.hid hS
  have HM := Lib.hid hM
  have HT := Lib.hid T
  have m0 : w.cell? ⟨mb, 0, none⟩ = some (.int .i64 th) := cell_of_row w mb 0 _ _ _ hM
  have m1 : w.cell? ⟨mb, 1, none⟩ = some (.slice (some ⟨g, f0, none⟩) n cap) := cell_of_row w mb 1 _ _ _ hM
  have g1 : decide (((j : Nat) : Int) < 0) = false := decide_eq_false (by omega)
  have g2 : decide (((n : Nat) : Int) ≤ ((j : Nat) : Int)) = false := decide_eq_false (by omega)
  have g3 : decide (n ≤ j) = false := decide_eq_false (by omega)
  have dA : decide (AskP s.o.k s.o.n s.o.a s.o.b call th who) = true := decide_eq_true hP
  have wr0 : IntKind.u64.wrap arg = arg := by rw [IntKind.wrap_u64]; omega
  have wr1 : IntKind.u64.wrap s.o.n = s.o.n := by rw [IntKind.wrap_u64]; obtain ⟨⟨_, _, h⟩, _⟩ := hP; omega
  have q0 : (call == 4) = false := by have h := hP.2.2.2; unfold MayP at h; simp; omega
  have q1 : (s.o.k != 13) = true := by simp; omega
  have q2 : (part != 0) = false := by simp; omega
  have q3 : (s.o.k == 6) = false := by simp; omega
  have q4 : (s.o.k == 7) = false := by simp; omega
  have q5 : (s.o.k == 9) = false := by simp; omega
  have q6 : (s.o.k == 11) = false := by simp; omega
  have q7 : (s.o.k == 12) = false := by simp; omega
  have q8 : (s.o.k == 13) = false := by simp; omega
  have q9 : (s.o.k == 14) = false := by simp; omega
  have q10 : (s.o.k == 15) = true := by simp; omega
  clear hM hS T p0 p1 hP
  go_enter Tryd.func9, Tryd.ntmps9
  go_wp2_with fail
  go_quiet (fail)
  go_wp2_with fail
  go_quiet (fail)
  go_wp2_with fail
  have h0S := holdM bX ((bB.block _ hmlt).trans HM.out) (Seg.below HS.out bB)
  refine wp_region_held_drew (S := fun w' => w'.cell? ⟨w.heap.size, 0, none⟩ = some (.int .i64 who) ∧ w'.cell? ⟨w.heap.size, 2, none⟩ = some (.int .i64 call) ∧ w'.cell? ⟨w.heap.size, 4, none⟩ = some (.int .u32 arg) ∧ w'.cell? ⟨mb, 0, none⟩ = some (.int .i64 th) ∧ w'.cell? ⟨g, f0 + j * 38, none⟩ = some (.int .i64 s.o.k) ∧ w'.cell? ⟨g, f0 + j * 38 + 1, none⟩ = some (.int .i64 s.o.n) ∧ w'.cell? ⟨g, f0 + j * 38 + 2, none⟩ = some (.int .i64 s.o.a) ∧ w'.cell? ⟨g, f0 + j * 38 + 3, none⟩ = some (.int .i64 s.o.b)) (by kernel_rfl) h0S (fun hHeld => ?_)
  refine wpAnyH_take (i := 0) (v := ?_) rfl (by kernel_rfl) (by kernel_rfl) (by kernel_rfl) (fun _ _ _ h => h) (Or.inl ⟨by rfl, ?_⟩) (by assumption) ?_
  rotate_left
  · (intro w hSw; (try dsimp only at hSw); go_simp; try with_reducible rfl)
  try simp only [Act.put, List.getElem_toArray, List.getElem_cons_succ, List.getElem_cons_zero, List.setIfInBounds_toArray, List.set_cons_zero, List.set_cons_succ]
  refine wpAnyH_take (i := 1) (v := ?_) rfl (by kernel_rfl) (by kernel_rfl) (by kernel_rfl) (fun _ _ _ h => h) (Or.inl ⟨by rfl, ?_⟩) (by assumption) ?_
  rotate_left
  · (intro w hSw; (try dsimp only at hSw); go_simp; try with_reducible rfl)
  try simp only [Act.put, List.getElem_toArray, List.getElem_cons_succ, List.getElem_cons_zero, List.setIfInBounds_toArray, List.set_cons_zero, List.set_cons_succ]
  refine wpAnyH_take (i := 2) (v := ?_) rfl (by kernel_rfl) (by kernel_rfl) (by kernel_rfl) (fun _ _ _ h => h) (Or.inl ⟨by rfl, ?_⟩) (by assumption) ?_
  rotate_left
  · (intro w hSw; (try dsimp only at hSw); go_simp; try with_reducible rfl)
  try simp only [Act.put, List.getElem_toArray, List.getElem_cons_succ, List.getElem_cons_zero, List.setIfInBounds_toArray, List.set_cons_zero, List.set_cons_succ]
  refine wpAnyH_take (i := 3) (v := ?_) rfl (by kernel_rfl) (by kernel_rfl) (by kernel_rfl) (fun _ _ _ h => h) (Or.inl ⟨by rfl, ?_⟩) (by assumption) ?_
  rotate_left
  · (intro w hSw; (try dsimp only at hSw); go_simp; try with_reducible rfl)
  try simp only [Act.put, List.getElem_toArray, List.getElem_cons_succ, List.getElem_cons_zero, List.setIfInBounds_toArray, List.set_cons_zero, List.set_cons_succ]
  refine wpAnyH_take (i := 4) (v := ?_) rfl (by kernel_rfl) (by kernel_rfl) (by kernel_rfl) (fun _ _ _ h => h) (Or.inl ⟨by rfl, ?_⟩) (by assumption) ?_
  rotate_left
  · (intro w hSw; (try dsimp only at hSw); go_simp; try with_reducible rfl)
  try simp only [Act.put, List.getElem_toArray, List.getElem_cons_succ, List.getElem_cons_zero, List.setIfInBounds_toArray, List.set_cons_zero, List.set_cons_succ]
  refine wpAnyH_take (i := 5) (v := ?_) rfl (by kernel_rfl) (by kernel_rfl) (by kernel_rfl) (fun _ _ _ h => h) (Or.inl ⟨by rfl, ?_⟩) (by assumption) ?_
  rotate_left
  · (intro w hSw; (try dsimp only at hSw); go_simp; try with_reducible rfl)
  try simp only [Act.put, List.getElem_toArray, List.getElem_cons_succ, List.getElem_cons_zero, List.setIfInBounds_toArray, List.set_cons_zero, List.set_cons_succ]
  refine wpAnyH_take (i := 6) (v := ?_) rfl (by kernel_rfl) (by kernel_rfl) (by kernel_rfl) (fun _ _ _ h => h) (Or.inl ⟨by rfl, ?_⟩) (by assumption) ?_
  rotate_left
  · (intro w hSw; (try dsimp only at hSw); go_simp; try with_reducible rfl)
  try simp only [Act.put, List.getElem_toArray, List.getElem_cons_succ, List.getElem_cons_zero, List.setIfInBounds_toArray, List.set_cons_zero, List.set_cons_succ]
  refine wpAnyH_take (i := 7) (v := ?_) rfl (by kernel_rfl) (by kernel_rfl) (by kernel_rfl) (fun _ _ _ h => h) (Or.inl ⟨by rfl, ?_⟩) (by assumption) ?_
  rotate_left
  · (intro w hSw; (try dsimp only at hSw); go_simp; try with_reducible rfl)
  try simp only [Act.put, List.getElem_toArray, List.getElem_cons_succ, List.getElem_cons_zero, List.setIfInBounds_toArray, List.set_cons_zero, List.set_cons_succ]
  refine wpAnyH_take (i := 8) (v := ?_) rfl (by kernel_rfl) (by kernel_rfl) (by kernel_rfl) (fun _ _ _ h => h) (Or.inl ⟨by rfl, ?_⟩) (by assumption) ?_
  rotate_left
  · (intro w hSw; (try dsimp only at hSw); go_simp; try with_reducible rfl)
  try simp only [Act.put, List.getElem_toArray, List.getElem_cons_succ, List.getElem_cons_zero, List.setIfInBounds_toArray, List.set_cons_zero, List.set_cons_succ]
  refine wpAnyH_take (i := 9) (v := ?_) rfl (by kernel_rfl) (by kernel_rfl) (by kernel_rfl) (fun _ _ _ h => h) (Or.inl ⟨by rfl, ?_⟩) (by assumption) ?_
  rotate_left
  · (intro w hSw; (try dsimp only at hSw); go_simp; try with_reducible rfl)
  try simp only [Act.put, List.getElem_toArray, List.getElem_cons_succ, List.getElem_cons_zero, List.setIfInBounds_toArray, List.set_cons_zero, List.set_cons_succ]
  refine wpAnyH_take (i := 10) (v := ?_) rfl (by kernel_rfl) (by kernel_rfl) (by kernel_rfl) (fun _ _ _ h => h) (Or.inl ⟨by rfl, ?_⟩) (by assumption) ?_
  rotate_left
  · (intro w hSw; (try dsimp only at hSw); go_simp; try with_reducible rfl)
  try simp only [Act.put, List.getElem_toArray, List.getElem_cons_succ, List.getElem_cons_zero, List.setIfInBounds_toArray, List.set_cons_zero, List.set_cons_succ]
  refine wpAnyH_take (i := 11) (v := ?_) rfl (by kernel_rfl) (by kernel_rfl) (by kernel_rfl) (fun _ _ _ h => h) (Or.inl ⟨by rfl, ?_⟩) (by assumption) ?_
  rotate_left
  · (intro w hSw; (try dsimp only at hSw); go_simp; try with_reducible rfl)
  try simp only [Act.put, List.getElem_toArray, List.getElem_cons_succ, List.getElem_cons_zero, List.setIfInBounds_toArray, List.set_cons_zero, List.set_cons_succ]
  refine wpAnyH_ready (rs := [12]) (by kernel_rfl) (by simp) ?_
  refine AllReadyH.cons rfl (fun K hK => ?_) AllReadyH.nil
  go_simp
  (go_at_call 14; refine (spinMay_any _ (by first | exact (HT.out.below bB (Nat.le_refl _)) | exact TabO.below (HT.out.below bB (Nat.le_refl _)) (bl_drewN (Below.refl _ _) _) (Nat.le_refl _) | exact TabO.below (HT.out.below bB (Nat.le_refl _)) (bl_drew (bl_drewN (Below.refl _ _) _)) (Nat.le_refl _)) _ _ _ _ _ _ _).mono ?_; rintro e wN ⟨he, hbN⟩; rw [dA] at he; subst he; have hbW2 : Below (((w.alloc (.cells #[.int .i64 who, .int .i64 ((j : Nat) : Int), .int .i64 call, .int .i64 part, .int .u32 arg, .int .u32 val] 32)).alloc (.cells #[.int .u32 0, .slice none 0 0] 50))).heap.size (((w.alloc (.cells #[.int .i64 who, .int .i64 ((j : Nat) : Int), .int .i64 call, .int .i64 part, .int .u32 arg, .int .u32 val] 32)).alloc (.cells #[.int .u32 0, .slice none 0 0] 50))) wN := ⟨hbN.os, hbN.tape, hbN.output, hbN.size, hbN.block⟩; have hbWN := bB.trans (hbW2.mono bB.size); have bXN := obj_keep bX hbW2; have hMN := (hbWN.block _ hmlt).trans HM.out; have hSN := Seg.below HS.out hbWN)
  go_wp2_with fail
  refine hK.out _ _ (holdM bXN hMN hSN) (fun hHeld2 => ?_)
  clear hK K hHeld
  refine wpAnyH_take (i := 13) (v := ?_) rfl (by kernel_rfl) (by kernel_rfl) (by kernel_rfl) (fun _ _ _ h => h) (Or.inl ⟨by rfl, ?_⟩) (by assumption) ?_
  rotate_left
  · (intro w hSw; (try dsimp only at hSw); go_simp; try with_reducible rfl)
  try simp only [Act.put, List.getElem_toArray, List.getElem_cons_succ, List.getElem_cons_zero, List.setIfInBounds_toArray, List.set_cons_zero, List.set_cons_succ]
  refine wpAnyH_take (i := 14) (v := ?_) rfl (by kernel_rfl) (by kernel_rfl) (by kernel_rfl) (fun _ _ _ h => h) (Or.inl ⟨by rfl, ?_⟩) (by assumption) ?_
  rotate_left
  · (intro w hSw; (try dsimp only at hSw); go_simp; try with_reducible rfl)
  try simp only [Act.put, List.getElem_toArray, List.getElem_cons_succ, List.getElem_cons_zero, List.setIfInBounds_toArray, List.set_cons_zero, List.set_cons_succ]
  refine wpAnyH_take (i := 15) (v := ?_) rfl (by kernel_rfl) (by kernel_rfl) (by kernel_rfl) (fun _ _ _ h => h) (Or.inl ⟨by rfl, ?_⟩) (by assumption) ?_
  rotate_left
  · (intro w hSw; (try dsimp only at hSw); go_simp; try with_reducible rfl)
  try simp only [Act.put, List.getElem_toArray, List.getElem_cons_succ, List.getElem_cons_zero, List.setIfInBounds_toArray, List.set_cons_zero, List.set_cons_succ]
  refine wpAnyH_take (i := 16) (v := ?_) rfl (by kernel_rfl) (by kernel_rfl) (by kernel_rfl) (fun _ _ _ h => h) (Or.inl ⟨by rfl, ?_⟩) (by assumption) ?_
  rotate_left
  · (intro w hSw; (try dsimp only at hSw); go_simp; try with_reducible rfl)
  try simp only [Act.put, List.getElem_toArray, List.getElem_cons_succ, List.getElem_cons_zero, List.setIfInBounds_toArray, List.set_cons_zero, List.set_cons_succ]
  refine wpAnyH_take (i := 17) (v := ?_) rfl (by kernel_rfl) (by kernel_rfl) (by kernel_rfl) (fun _ _ _ h => h) (Or.inl ⟨by rfl, ?_⟩) (by assumption) ?_
  rotate_left
  · (intro w hSw; (try dsimp only at hSw); go_simp; try with_reducible rfl)
  try simp only [Act.put, List.getElem_toArray, List.getElem_cons_succ, List.getElem_cons_zero, List.setIfInBounds_toArray, List.set_cons_zero, List.set_cons_succ]
  refine wpAnyH_take (i := 18) (v := ?_) rfl (by kernel_rfl) (by kernel_rfl) (by kernel_rfl) (fun _ _ _ h => h) (Or.inl ⟨by rfl, ?_⟩) (by assumption) ?_
  rotate_left
  · (intro w hSw; (try dsimp only at hSw); go_simp; try with_reducible rfl)
  try simp only [Act.put, List.getElem_toArray, List.getElem_cons_succ, List.getElem_cons_zero, List.setIfInBounds_toArray, List.set_cons_zero, List.set_cons_succ]
  refine wpAnyH_take (i := 19) (v := undef) rfl (by kernel_rfl) (by kernel_rfl) (by kernel_rfl) (fun _ _ _ h => h) (Or.inr ⟨by kernel_rfl, rfl⟩) (by assumption) ?_
  try simp only [Act.put, List.getElem_toArray, List.getElem_cons_succ, List.getElem_cons_zero, List.setIfInBounds_toArray, List.set_cons_zero, List.set_cons_succ]
  refine wpAnyH_take (i := 20) (v := undef) rfl (by kernel_rfl) (by kernel_rfl) (by kernel_rfl) (fun _ _ _ h => h) (Or.inr ⟨by kernel_rfl, rfl⟩) (by assumption) ?_
  try simp only [Act.put, List.getElem_toArray, List.getElem_cons_succ, List.getElem_cons_zero, List.setIfInBounds_toArray, List.set_cons_zero, List.set_cons_succ]
  refine wpAnyH_take (i := 21) (v := undef) rfl (by kernel_rfl) (by kernel_rfl) (by kernel_rfl) (fun _ _ _ h => h) (Or.inr ⟨by kernel_rfl, rfl⟩) (by assumption) ?_
  try simp only [Act.put, List.getElem_toArray, List.getElem_cons_succ, List.getElem_cons_zero, List.setIfInBounds_toArray, List.set_cons_zero, List.set_cons_succ]
  refine wpAnyH_take (i := 22) (v := undef) rfl (by kernel_rfl) (by kernel_rfl) (by kernel_rfl) (fun _ _ _ h => h) (Or.inr ⟨by kernel_rfl, rfl⟩) (by assumption) ?_
  try simp only [Act.put, List.getElem_toArray, List.getElem_cons_succ, List.getElem_cons_zero, List.setIfInBounds_toArray, List.set_cons_zero, List.set_cons_succ]
  refine wpAnyH_take (i := 23) (v := undef) rfl (by kernel_rfl) (by kernel_rfl) (by kernel_rfl) (fun _ _ _ h => h) (Or.inr ⟨by kernel_rfl, rfl⟩) (by assumption) ?_
  try simp only [Act.put, List.getElem_toArray, List.getElem_cons_succ, List.getElem_cons_zero, List.setIfInBounds_toArray, List.set_cons_zero, List.set_cons_succ]
  refine wpAnyH_take (i := 24) (v := undef) rfl (by kernel_rfl) (by kernel_rfl) (by kernel_rfl) (fun _ _ _ h => h) (Or.inr ⟨by kernel_rfl, rfl⟩) (by assumption) ?_
  try simp only [Act.put, List.getElem_toArray, List.getElem_cons_succ, List.getElem_cons_zero, List.setIfInBounds_toArray, List.set_cons_zero, List.set_cons_succ]
  refine wpAnyH_take (i := 25) (v := undef) rfl (by kernel_rfl) (by kernel_rfl) (by kernel_rfl) (fun _ _ _ h => h) (Or.inr ⟨by kernel_rfl, rfl⟩) (by assumption) ?_
  try simp only [Act.put, List.getElem_toArray, List.getElem_cons_succ, List.getElem_cons_zero, List.setIfInBounds_toArray, List.set_cons_zero, List.set_cons_succ]
  refine wpAnyH_take (i := 26) (v := undef) rfl (by kernel_rfl) (by kernel_rfl) (by kernel_rfl) (fun _ _ _ h => h) (Or.inr ⟨by kernel_rfl, rfl⟩) (by assumption) ?_
  try simp only [Act.put, List.getElem_toArray, List.getElem_cons_succ, List.getElem_cons_zero, List.setIfInBounds_toArray, List.set_cons_zero, List.set_cons_succ]
  refine wpAnyH_take (i := 27) (v := undef) rfl (by kernel_rfl) (by kernel_rfl) (by kernel_rfl) (fun _ _ _ h => h) (Or.inr ⟨by kernel_rfl, rfl⟩) (by assumption) ?_
  try simp only [Act.put, List.getElem_toArray, List.getElem_cons_succ, List.getElem_cons_zero, List.setIfInBounds_toArray, List.set_cons_zero, List.set_cons_succ]
  refine wpAnyH_take (i := 28) (v := undef) rfl (by kernel_rfl) (by kernel_rfl) (by kernel_rfl) (fun _ _ _ h => h) (Or.inr ⟨by kernel_rfl, rfl⟩) (by assumption) ?_
  try simp only [Act.put, List.getElem_toArray, List.getElem_cons_succ, List.getElem_cons_zero, List.setIfInBounds_toArray, List.set_cons_zero, List.set_cons_succ]
  refine wpAnyH_take (i := 29) (v := ?_) rfl (by kernel_rfl) (by kernel_rfl) (by kernel_rfl) (fun _ _ _ h => h) (Or.inl ⟨by rfl, ?_⟩) (by assumption) ?_
  rotate_left
  · (intro w hSw; (try dsimp only at hSw); go_simp; try with_reducible rfl)
  try simp only [Act.put, List.getElem_toArray, List.getElem_cons_succ, List.getElem_cons_zero, List.setIfInBounds_toArray, List.set_cons_zero, List.set_cons_succ]
  refine wpAnyH_take (i := 30) (v := ?_) rfl (by kernel_rfl) (by kernel_rfl) (by kernel_rfl) (fun _ _ _ h => h) (Or.inl ⟨by rfl, ?_⟩) (by assumption) ?_
  rotate_left
  · (intro w hSw; (try dsimp only at hSw); go_simp; try with_reducible rfl)
  try simp only [Act.put, List.getElem_toArray, List.getElem_cons_succ, List.getElem_cons_zero, List.setIfInBounds_toArray, List.set_cons_zero, List.set_cons_succ]
  refine wpAnyH_done (by kernel_rfl) ?_ _
  have bZN := obj_keep bZ hbW2
  have hkx := cells6 bXN
  obtain ⟨xc0, xc1, xc2, xc3, xc4, xc5⟩ := hkx
  have zc0 : wN.cell? ⟨w.heap.size + 1, 0, none⟩ = some (.int .u32 0) := cell_of_row wN (w.heap.size + 1) 0 _ _ _ bZN
  have zc1 : wN.cell? ⟨w.heap.size + 1, 1, none⟩ = some (.slice none 0 0) := cell_of_row wN (w.heap.size + 1) 1 _ _ _ bZN
  have zf0 : wN.frozen? ⟨w.heap.size + 1, 0, none⟩ = false := frozen_of_row _ _ _ _ _ bZN
  have zf1 : wN.frozen? ⟨w.heap.size + 1, 1, none⟩ = false := frozen_of_row _ _ _ _ _ bZN
  have hsN : w.heap.size + 1 < wN.heap.size := (Array.getElem?_eq_some_iff.1 bZN).1
  have hsX : w.heap.size < wN.heap.size := by omega
  have hsg : g < wN.heap.size := hSN.lt
  have oc0 : wN.cell? ⟨g, f0 + j * 38, none⟩ = some (.int .i64 s.o.k) := (hSN.at 0 (by decide)).1.trans s.cells_at.1
  have HSN := Lib.hid hSN
  have HMN := Lib.hid hMN
  have HBN := Lib.hid hbWN
  have HZN := Lib.hid bZN
  clear hSN hMN hbWN bZN bXN hbW2
  go_wp2_with (go_at_call 21; refine (hcon _ HSN.out).mono ?_; rintro e wU ⟨dv, rfl, hRd, hFr, hU⟩; obtain ⟨dA, dc, rfl⟩ := hRd.form; have bR : wU.heap[w.heap.size + 1]? = some (.cells #[.int .u32 0, .slice none 0 0] 50) := (hU.1.block _ hsN (by omega)).trans HZN.out; have rc0 : wU.cell? ⟨w.heap.size + 1, 0, none⟩ = some (.int .u32 0) := cell_of_row wU (w.heap.size + 1) 0 _ _ _ bR; have rc1 : wU.cell? ⟨w.heap.size + 1, 1, none⟩ = some (.slice none 0 0) := cell_of_row wU (w.heap.size + 1) 1 _ _ _ bR; have rf0 : wU.frozen? ⟨w.heap.size + 1, 0, none⟩ = false := frozen_of_row _ _ _ _ _ bR; have rf1 : wU.frozen? ⟨w.heap.size + 1, 1, none⟩ = false := frozen_of_row _ _ _ _ _ bR)
  refine bodyPost_ret (results_ans2 rfl _ _ (w.heap.size + 1) _ _ (set2_row bR _ _) rfl) rfl ?_
  exact MPF.lift hlt HBN.out (by omega) hsN hRd hFr hU

set_option maxHeartbeats 2000000 in
theorem doM_lock (w : World) (T : TabO w) (mb g f0 n cap j : Nat) (th : Int) (s : St) (who call part arg val : Int) (hM : w.heap[mb]? = some (.cells #[.int .i64 th, .slice (some ⟨g, f0, none⟩) n cap] 56 (0, 0))) (hS : Seg w g (f0 + j * 38) s) (hj : j < n) (hx0 : 0 ≤ arg) (hx1 : arg ≤ 4294967295) (hP : AskP s.o.k s.o.n s.o.a s.o.b call th who) (p0 : part = 0) (p1 : s.o.k ≠ 6) (p2 : s.o.k ≠ 7) (p3 : s.o.k ≠ 9) (p4 : s.o.k ≠ 11) (p5 : s.o.k ≠ 12) (p6 : s.o.k ≠ 13) (p7 : s.o.k ≠ 14) (p8 : s.o.k ≠ 15) :
    Calls Tryd.prog 9 #[.pointer (some ⟨mb, 0, none⟩), .agg #[.int .i64 who, .int .i64 ((j : Nat) : Int), .int .i64 call, .int .i64 part, .int .u32 arg, .int .u32 val]] w (MPF w g (f0 + j * 38) (doLock s ⟨who, ((j : Nat) : Int), call, part, arg, val⟩).1 (doLock s ⟨who, ((j : Nat) : Int), call, part, arg, val⟩).2) := by
  obtain ⟨a, ha⟩ : ∃ a, a = (doLock s ⟨who, ((j : Nat) : Int), call, part, arg, val⟩).1 := ⟨_, rfl⟩
  obtain ⟨s', hs'⟩ : ∃ s', s' = (doLock s ⟨who, ((j : Nat) : Int), call, part, arg, val⟩).2 := ⟨_, rfl⟩
  have hcon : ∀ W, Seg W g (f0 + j * 38) s → Calls Tryd.prog 22 #[.pointer (some ⟨g, f0 + j * 38, none⟩), .agg #[.int .i64 who, .int .i64 ((j : Nat) : Int), .int .i64 call, .int .i64 part, .int .u32 arg, .int .u32 val]] W (MPF W g (f0 + j * 38) a s') := fun W hW => by
    rw [ha, hs']
    exact lock_any W g (f0 + j * 38) s ⟨who, ((j : Nat) : Int), call, part, arg, val⟩ hW
  rw [← ha, ← hs']
  clear ha hs'
  have hlt := hS.lt
  have hmlt : mb < w.heap.size := (Array.getElem?_eq_some_iff.1 hM).1
  obtain ⟨bX, bZ, bB, bS⟩ := blk2 w (.cells #[.int .i64 who, .int .i64 ((j : Nat) : Int), .int .i64 call, .int .i64 part, .int .u32 arg, .int .u32 val] 32) (.cells #[.int .u32 0, .slice none 0 0] 50)
  have HS := Lib.hid hS
  have HM := Lib.hid hM
  have HT := Lib.hid T
  have m0 : w.cell? ⟨mb, 0, none⟩ = some (.int .i64 th) := cell_of_row w mb 0 _ _ _ hM
  have m1 : w.cell? ⟨mb, 1, none⟩ = some (.slice (some ⟨g, f0, none⟩) n cap) := cell_of_row w mb 1 _ _ _ hM
  have g1 : decide (((j : Nat) : Int) < 0) = false := decide_eq_false (by omega)
  have g2 : decide (((n : Nat) : Int) ≤ ((j : Nat) : Int)) = false := decide_eq_false (by omega)
  have g3 : decide (n ≤ j) = false := decide_eq_false (by omega)
  have dA : decide (AskP s.o.k s.o.n s.o.a s.o.b call th who) = true := decide_eq_true hP
  have wr0 : IntKind.u64.wrap arg = arg := by rw [IntKind.wrap_u64]; omega
  have wr1 : IntKind.u64.wrap s.o.n = s.o.n := by rw [IntKind.wrap_u64]; obtain ⟨⟨_, _, h⟩, _⟩ := hP; omega
  have q0 : (call == 4) = false := by have h := hP.2.2.2; unfold MayP at h; simp; omega
  have q1 : (s.o.k != 13) = true := by simp; omega
  have q2 : (part != 0) = false := by simp; omega
  have q3 : (s.o.k == 6) = false := by simp; omega
  have q4 : (s.o.k == 7) = false := by simp; omega
  have q5 : (s.o.k == 9) = false := by simp; omega
  have q6 : (s.o.k == 11) = false := by simp; omega
  have q7 : (s.o.k == 12) = false := by simp; omega
  have q8 : (s.o.k == 13) = false := by simp; omega
  have q9 : (s.o.k == 14) = false := by simp; omega
  have q10 : (s.o.k == 15) = false := by simp; omega
  clear hM hS T p0 p1 p2 p3 p4 p5 p6 p7 p8 hP
  go_enter Tryd.func9, Tryd.ntmps9
  go_wp2_with fail
  go_quiet (fail)
  go_wp2_with fail
  go_quiet (fail)
  go_wp2_with fail
  have h0S := holdM bX ((bB.block _ hmlt).trans HM.out) (Seg.below HS.out bB)
  refine wp_region_held_drew (S := fun w' => w'.cell? ⟨w.heap.size, 0, none⟩ = some (.int .i64 who) ∧ w'.cell? ⟨w.heap.size, 2, none⟩ = some (.int .i64 call) ∧ w'.cell? ⟨w.heap.size, 4, none⟩ = some (.int .u32 arg) ∧ w'.cell? ⟨mb, 0, none⟩ = some (.int .i64 th) ∧ w'.cell? ⟨g, f0 + j * 38, none⟩ = some (.int .i64 s.o.k) ∧ w'.cell? ⟨g, f0 + j * 38 + 1, none⟩ = some (.int .i64 s.o.n) ∧ w'.cell? ⟨g, f0 + j * 38 + 2, none⟩ = some (.int .i64 s.o.a) ∧ w'.cell? ⟨g, f0 + j * 38 + 3, none⟩ = some (.int .i64 s.o.b)) (by kernel_rfl) h0S (fun hHeld => ?_)
  refine wpAnyH_take (i := 0) (v := ?_) rfl (by kernel_rfl) (by kernel_rfl) (by kernel_rfl) (fun _ _ _ h => h) (Or.inl ⟨by rfl, ?_⟩) (by assumption) ?_
  rotate_left
  · (intro w hSw; (try dsimp only at hSw); go_simp; try with_reducible rfl)
  try simp only [Act.put, List.getElem_toArray, List.getElem_cons_succ, List.getElem_cons_zero, List.setIfInBounds_toArray, List.set_cons_zero, List.set_cons_succ]
  refine wpAnyH_take (i := 1) (v := ?_) rfl (by kernel_rfl) (by kernel_rfl) (by kernel_rfl) (fun _ _ _ h => h) (Or.inl ⟨by rfl, ?_⟩) (by assumption) ?_
  rotate_left
  · (intro w hSw; (try dsimp only at hSw); go_simp; try with_reducible rfl)
  try simp only [Act.put, List.getElem_toArray, List.getElem_cons_succ, List.getElem_cons_zero, List.setIfInBounds_toArray, List.set_cons_zero, List.set_cons_succ]
  refine wpAnyH_take (i := 2) (v := ?_) rfl (by kernel_rfl) (by kernel_rfl) (by kernel_rfl) (fun _ _ _ h => h) (Or.inl ⟨by rfl, ?_⟩) (by assumption) ?_
  rotate_left
  · (intro w hSw; (try dsimp only at hSw); go_simp; try with_reducible rfl)
  try simp only [Act.put, List.getElem_toArray, List.getElem_cons_succ, List.getElem_cons_zero, List.setIfInBounds_toArray, List.set_cons_zero, List.set_cons_succ]
  refine wpAnyH_take (i := 3) (v := ?_) rfl (by kernel_rfl) (by kernel_rfl) (by kernel_rfl) (fun _ _ _ h => h) (Or.inl ⟨by rfl, ?_⟩) (by assumption) ?_
  rotate_left
  · (intro w hSw; (try dsimp only at hSw); go_simp; try with_reducible rfl)
  try simp only [Act.put, List.getElem_toArray, List.getElem_cons_succ, List.getElem_cons_zero, List.setIfInBounds_toArray, List.set_cons_zero, List.set_cons_succ]
  refine wpAnyH_take (i := 4) (v := ?_) rfl (by kernel_rfl) (by kernel_rfl) (by kernel_rfl) (fun _ _ _ h => h) (Or.inl ⟨by rfl, ?_⟩) (by assumption) ?_
  rotate_left
  · (intro w hSw; (try dsimp only at hSw); go_simp; try with_reducible rfl)
  try simp only [Act.put, List.getElem_toArray, List.getElem_cons_succ, List.getElem_cons_zero, List.setIfInBounds_toArray, List.set_cons_zero, List.set_cons_succ]
  refine wpAnyH_take (i := 5) (v := ?_) rfl (by kernel_rfl) (by kernel_rfl) (by kernel_rfl) (fun _ _ _ h => h) (Or.inl ⟨by rfl, ?_⟩) (by assumption) ?_
  rotate_left
  · (intro w hSw; (try dsimp only at hSw); go_simp; try with_reducible rfl)
  try simp only [Act.put, List.getElem_toArray, List.getElem_cons_succ, List.getElem_cons_zero, List.setIfInBounds_toArray, List.set_cons_zero, List.set_cons_succ]
  refine wpAnyH_take (i := 6) (v := ?_) rfl (by kernel_rfl) (by kernel_rfl) (by kernel_rfl) (fun _ _ _ h => h) (Or.inl ⟨by rfl, ?_⟩) (by assumption) ?_
  rotate_left
  · (intro w hSw; (try dsimp only at hSw); go_simp; try with_reducible rfl)
  try simp only [Act.put, List.getElem_toArray, List.getElem_cons_succ, List.getElem_cons_zero, List.setIfInBounds_toArray, List.set_cons_zero, List.set_cons_succ]
  refine wpAnyH_take (i := 7) (v := ?_) rfl (by kernel_rfl) (by kernel_rfl) (by kernel_rfl) (fun _ _ _ h => h) (Or.inl ⟨by rfl, ?_⟩) (by assumption) ?_
  rotate_left
  · (intro w hSw; (try dsimp only at hSw); go_simp; try with_reducible rfl)
  try simp only [Act.put, List.getElem_toArray, List.getElem_cons_succ, List.getElem_cons_zero, List.setIfInBounds_toArray, List.set_cons_zero, List.set_cons_succ]
  refine wpAnyH_take (i := 8) (v := ?_) rfl (by kernel_rfl) (by kernel_rfl) (by kernel_rfl) (fun _ _ _ h => h) (Or.inl ⟨by rfl, ?_⟩) (by assumption) ?_
  rotate_left
  · (intro w hSw; (try dsimp only at hSw); go_simp; try with_reducible rfl)
  try simp only [Act.put, List.getElem_toArray, List.getElem_cons_succ, List.getElem_cons_zero, List.setIfInBounds_toArray, List.set_cons_zero, List.set_cons_succ]
  refine wpAnyH_take (i := 9) (v := ?_) rfl (by kernel_rfl) (by kernel_rfl) (by kernel_rfl) (fun _ _ _ h => h) (Or.inl ⟨by rfl, ?_⟩) (by assumption) ?_
  rotate_left
  · (intro w hSw; (try dsimp only at hSw); go_simp; try with_reducible rfl)
  try simp only [Act.put, List.getElem_toArray, List.getElem_cons_succ, List.getElem_cons_zero, List.setIfInBounds_toArray, List.set_cons_zero, List.set_cons_succ]
  refine wpAnyH_take (i := 10) (v := ?_) rfl (by kernel_rfl) (by kernel_rfl) (by kernel_rfl) (fun _ _ _ h => h) (Or.inl ⟨by rfl, ?_⟩) (by assumption) ?_
  rotate_left
  · (intro w hSw; (try dsimp only at hSw); go_simp; try with_reducible rfl)
  try simp only [Act.put, List.getElem_toArray, List.getElem_cons_succ, List.getElem_cons_zero, List.setIfInBounds_toArray, List.set_cons_zero, List.set_cons_succ]
  refine wpAnyH_take (i := 11) (v := ?_) rfl (by kernel_rfl) (by kernel_rfl) (by kernel_rfl) (fun _ _ _ h => h) (Or.inl ⟨by rfl, ?_⟩) (by assumption) ?_
  rotate_left
  · (intro w hSw; (try dsimp only at hSw); go_simp; try with_reducible rfl)
  try simp only [Act.put, List.getElem_toArray, List.getElem_cons_succ, List.getElem_cons_zero, List.setIfInBounds_toArray, List.set_cons_zero, List.set_cons_succ]
  refine wpAnyH_ready (rs := [12]) (by kernel_rfl) (by simp) ?_
  refine AllReadyH.cons rfl (fun K hK => ?_) AllReadyH.nil
  go_simp
  (go_at_call 14; refine (spinMay_any _ (by first | exact (HT.out.below bB (Nat.le_refl _)) | exact TabO.below (HT.out.below bB (Nat.le_refl _)) (bl_drewN (Below.refl _ _) _) (Nat.le_refl _) | exact TabO.below (HT.out.below bB (Nat.le_refl _)) (bl_drew (bl_drewN (Below.refl _ _) _)) (Nat.le_refl _)) _ _ _ _ _ _ _).mono ?_; rintro e wN ⟨he, hbN⟩; rw [dA] at he; subst he; have hbW2 : Below (((w.alloc (.cells #[.int .i64 who, .int .i64 ((j : Nat) : Int), .int .i64 call, .int .i64 part, .int .u32 arg, .int .u32 val] 32)).alloc (.cells #[.int .u32 0, .slice none 0 0] 50))).heap.size (((w.alloc (.cells #[.int .i64 who, .int .i64 ((j : Nat) : Int), .int .i64 call, .int .i64 part, .int .u32 arg, .int .u32 val] 32)).alloc (.cells #[.int .u32 0, .slice none 0 0] 50))) wN := ⟨hbN.os, hbN.tape, hbN.output, hbN.size, hbN.block⟩; have hbWN := bB.trans (hbW2.mono bB.size); have bXN := obj_keep bX hbW2; have hMN := (hbWN.block _ hmlt).trans HM.out; have hSN := Seg.below HS.out hbWN)
  go_wp2_with fail
  refine hK.out _ _ (holdM bXN hMN hSN) (fun hHeld2 => ?_)
  clear hK K hHeld
  refine wpAnyH_take (i := 13) (v := ?_) rfl (by kernel_rfl) (by kernel_rfl) (by kernel_rfl) (fun _ _ _ h => h) (Or.inl ⟨by rfl, ?_⟩) (by assumption) ?_
  rotate_left
  · (intro w hSw; (try dsimp only at hSw); go_simp; try with_reducible rfl)
  try simp only [Act.put, List.getElem_toArray, List.getElem_cons_succ, List.getElem_cons_zero, List.setIfInBounds_toArray, List.set_cons_zero, List.set_cons_succ]
  refine wpAnyH_take (i := 14) (v := ?_) rfl (by kernel_rfl) (by kernel_rfl) (by kernel_rfl) (fun _ _ _ h => h) (Or.inl ⟨by rfl, ?_⟩) (by assumption) ?_
  rotate_left
  · (intro w hSw; (try dsimp only at hSw); go_simp; try with_reducible rfl)
  try simp only [Act.put, List.getElem_toArray, List.getElem_cons_succ, List.getElem_cons_zero, List.setIfInBounds_toArray, List.set_cons_zero, List.set_cons_succ]
  refine wpAnyH_take (i := 15) (v := ?_) rfl (by kernel_rfl) (by kernel_rfl) (by kernel_rfl) (fun _ _ _ h => h) (Or.inl ⟨by rfl, ?_⟩) (by assumption) ?_
  rotate_left
  · (intro w hSw; (try dsimp only at hSw); go_simp; try with_reducible rfl)
  try simp only [Act.put, List.getElem_toArray, List.getElem_cons_succ, List.getElem_cons_zero, List.setIfInBounds_toArray, List.set_cons_zero, List.set_cons_succ]
  refine wpAnyH_take (i := 16) (v := ?_) rfl (by kernel_rfl) (by kernel_rfl) (by kernel_rfl) (fun _ _ _ h => h) (Or.inl ⟨by rfl, ?_⟩) (by assumption) ?_
  rotate_left
  · (intro w hSw; (try dsimp only at hSw); go_simp; try with_reducible rfl)
  try simp only [Act.put, List.getElem_toArray, List.getElem_cons_succ, List.getElem_cons_zero, List.setIfInBounds_toArray, List.set_cons_zero, List.set_cons_succ]
  refine wpAnyH_take (i := 17) (v := ?_) rfl (by kernel_rfl) (by kernel_rfl) (by kernel_rfl) (fun _ _ _ h => h) (Or.inl ⟨by rfl, ?_⟩) (by assumption) ?_
  rotate_left
  · (intro w hSw; (try dsimp only at hSw); go_simp; try with_reducible rfl)
  try simp only [Act.put, List.getElem_toArray, List.getElem_cons_succ, List.getElem_cons_zero, List.setIfInBounds_toArray, List.set_cons_zero, List.set_cons_succ]
  refine wpAnyH_take (i := 18) (v := ?_) rfl (by kernel_rfl) (by kernel_rfl) (by kernel_rfl) (fun _ _ _ h => h) (Or.inl ⟨by rfl, ?_⟩) (by assumption) ?_
  rotate_left
  · (intro w hSw; (try dsimp only at hSw); go_simp; try with_reducible rfl)
  try simp only [Act.put, List.getElem_toArray, List.getElem_cons_succ, List.getElem_cons_zero, List.setIfInBounds_toArray, List.set_cons_zero, List.set_cons_succ]
  refine wpAnyH_take (i := 19) (v := undef) rfl (by kernel_rfl) (by kernel_rfl) (by kernel_rfl) (fun _ _ _ h => h) (Or.inr ⟨by kernel_rfl, rfl⟩) (by assumption) ?_
  try simp only [Act.put, List.getElem_toArray, List.getElem_cons_succ, List.getElem_cons_zero, List.setIfInBounds_toArray, List.set_cons_zero, List.set_cons_succ]
  refine wpAnyH_take (i := 20) (v := undef) rfl (by kernel_rfl) (by kernel_rfl) (by kernel_rfl) (fun _ _ _ h => h) (Or.inr ⟨by kernel_rfl, rfl⟩) (by assumption) ?_
  try simp only [Act.put, List.getElem_toArray, List.getElem_cons_succ, List.getElem_cons_zero, List.setIfInBounds_toArray, List.set_cons_zero, List.set_cons_succ]
  refine wpAnyH_take (i := 21) (v := undef) rfl (by kernel_rfl) (by kernel_rfl) (by kernel_rfl) (fun _ _ _ h => h) (Or.inr ⟨by kernel_rfl, rfl⟩) (by assumption) ?_
  try simp only [Act.put, List.getElem_toArray, List.getElem_cons_succ, List.getElem_cons_zero, List.setIfInBounds_toArray, List.set_cons_zero, List.set_cons_succ]
  refine wpAnyH_take (i := 22) (v := undef) rfl (by kernel_rfl) (by kernel_rfl) (by kernel_rfl) (fun _ _ _ h => h) (Or.inr ⟨by kernel_rfl, rfl⟩) (by assumption) ?_
  try simp only [Act.put, List.getElem_toArray, List.getElem_cons_succ, List.getElem_cons_zero, List.setIfInBounds_toArray, List.set_cons_zero, List.set_cons_succ]
  refine wpAnyH_take (i := 23) (v := undef) rfl (by kernel_rfl) (by kernel_rfl) (by kernel_rfl) (fun _ _ _ h => h) (Or.inr ⟨by kernel_rfl, rfl⟩) (by assumption) ?_
  try simp only [Act.put, List.getElem_toArray, List.getElem_cons_succ, List.getElem_cons_zero, List.setIfInBounds_toArray, List.set_cons_zero, List.set_cons_succ]
  refine wpAnyH_take (i := 24) (v := undef) rfl (by kernel_rfl) (by kernel_rfl) (by kernel_rfl) (fun _ _ _ h => h) (Or.inr ⟨by kernel_rfl, rfl⟩) (by assumption) ?_
  try simp only [Act.put, List.getElem_toArray, List.getElem_cons_succ, List.getElem_cons_zero, List.setIfInBounds_toArray, List.set_cons_zero, List.set_cons_succ]
  refine wpAnyH_take (i := 25) (v := undef) rfl (by kernel_rfl) (by kernel_rfl) (by kernel_rfl) (fun _ _ _ h => h) (Or.inr ⟨by kernel_rfl, rfl⟩) (by assumption) ?_
  try simp only [Act.put, List.getElem_toArray, List.getElem_cons_succ, List.getElem_cons_zero, List.setIfInBounds_toArray, List.set_cons_zero, List.set_cons_succ]
  refine wpAnyH_take (i := 26) (v := undef) rfl (by kernel_rfl) (by kernel_rfl) (by kernel_rfl) (fun _ _ _ h => h) (Or.inr ⟨by kernel_rfl, rfl⟩) (by assumption) ?_
  try simp only [Act.put, List.getElem_toArray, List.getElem_cons_succ, List.getElem_cons_zero, List.setIfInBounds_toArray, List.set_cons_zero, List.set_cons_succ]
  refine wpAnyH_take (i := 27) (v := undef) rfl (by kernel_rfl) (by kernel_rfl) (by kernel_rfl) (fun _ _ _ h => h) (Or.inr ⟨by kernel_rfl, rfl⟩) (by assumption) ?_
  try simp only [Act.put, List.getElem_toArray, List.getElem_cons_succ, List.getElem_cons_zero, List.setIfInBounds_toArray, List.set_cons_zero, List.set_cons_succ]
  refine wpAnyH_take (i := 28) (v := undef) rfl (by kernel_rfl) (by kernel_rfl) (by kernel_rfl) (fun _ _ _ h => h) (Or.inr ⟨by kernel_rfl, rfl⟩) (by assumption) ?_
  try simp only [Act.put, List.getElem_toArray, List.getElem_cons_succ, List.getElem_cons_zero, List.setIfInBounds_toArray, List.set_cons_zero, List.set_cons_succ]
  refine wpAnyH_take (i := 29) (v := ?_) rfl (by kernel_rfl) (by kernel_rfl) (by kernel_rfl) (fun _ _ _ h => h) (Or.inl ⟨by rfl, ?_⟩) (by assumption) ?_
  rotate_left
  · (intro w hSw; (try dsimp only at hSw); go_simp; try with_reducible rfl)
  try simp only [Act.put, List.getElem_toArray, List.getElem_cons_succ, List.getElem_cons_zero, List.setIfInBounds_toArray, List.set_cons_zero, List.set_cons_succ]
  refine wpAnyH_take (i := 30) (v := ?_) rfl (by kernel_rfl) (by kernel_rfl) (by kernel_rfl) (fun _ _ _ h => h) (Or.inl ⟨by rfl, ?_⟩) (by assumption) ?_
  rotate_left
  · (intro w hSw; (try dsimp only at hSw); go_simp; try with_reducible rfl)
  try simp only [Act.put, List.getElem_toArray, List.getElem_cons_succ, List.getElem_cons_zero, List.setIfInBounds_toArray, List.set_cons_zero, List.set_cons_succ]
  refine wpAnyH_done (by kernel_rfl) ?_ _
  have bZN := obj_keep bZ hbW2
  have hkx := cells6 bXN
  obtain ⟨xc0, xc1, xc2, xc3, xc4, xc5⟩ := hkx
  have zc0 : wN.cell? ⟨w.heap.size + 1, 0, none⟩ = some (.int .u32 0) := cell_of_row wN (w.heap.size + 1) 0 _ _ _ bZN
  have zc1 : wN.cell? ⟨w.heap.size + 1, 1, none⟩ = some (.slice none 0 0) := cell_of_row wN (w.heap.size + 1) 1 _ _ _ bZN
  have zf0 : wN.frozen? ⟨w.heap.size + 1, 0, none⟩ = false := frozen_of_row _ _ _ _ _ bZN
  have zf1 : wN.frozen? ⟨w.heap.size + 1, 1, none⟩ = false := frozen_of_row _ _ _ _ _ bZN
  have hsN : w.heap.size + 1 < wN.heap.size := (Array.getElem?_eq_some_iff.1 bZN).1
  have hsX : w.heap.size < wN.heap.size := by omega
  have hsg : g < wN.heap.size := hSN.lt
  have oc0 : wN.cell? ⟨g, f0 + j * 38, none⟩ = some (.int .i64 s.o.k) := (hSN.at 0 (by decide)).1.trans s.cells_at.1
  have HSN := Lib.hid hSN
  have HMN := Lib.hid hMN
  have HBN := Lib.hid hbWN
  have HZN := Lib.hid bZN
  clear hSN hMN hbWN bZN bXN hbW2
  go_wp2_with (go_at_call 22; refine (hcon _ HSN.out).mono ?_; rintro e wU ⟨dv, rfl, hRd, hFr, hU⟩; obtain ⟨dA, dc, rfl⟩ := hRd.form; have bR : wU.heap[w.heap.size + 1]? = some (.cells #[.int .u32 0, .slice none 0 0] 50) := (hU.1.block _ hsN (by omega)).trans HZN.out; have rc0 : wU.cell? ⟨w.heap.size + 1, 0, none⟩ = some (.int .u32 0) := cell_of_row wU (w.heap.size + 1) 0 _ _ _ bR; have rc1 : wU.cell? ⟨w.heap.size + 1, 1, none⟩ = some (.slice none 0 0) := cell_of_row wU (w.heap.size + 1) 1 _ _ _ bR; have rf0 : wU.frozen? ⟨w.heap.size + 1, 0, none⟩ = false := frozen_of_row _ _ _ _ _ bR; have rf1 : wU.frozen? ⟨w.heap.size + 1, 1, none⟩ = false := frozen_of_row _ _ _ _ _ bR)
  refine bodyPost_ret (results_ans2 rfl _ _ (w.heap.size + 1) _ _ (set2_row bR _ _) rfl) rfl ?_
  exact MPF.lift hlt HBN.out (by omega) hsN hRd hFr hU

end Go.Proofs.YtfemeiopfpblaaaDoor.As
