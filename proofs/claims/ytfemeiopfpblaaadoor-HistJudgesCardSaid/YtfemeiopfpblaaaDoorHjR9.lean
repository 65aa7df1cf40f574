/- The walks of the package deadlatchref25: what a call answers behind all that was done, of a semaphore, a barrier, a sequence lock that is read. -/
import Derived.Test.YtfemeiopfpblaaaDoorHjR5
set_option linter.unusedVariables false
set_option linter.unusedSimpArgs false
set_option maxRecDepth 20000
namespace Go.Proofs.YtfemeiopfpblaaaDoor.As
open Go.RowKit

theorem manyH_le (j c p t : Int) : ∀ (H : List Stp) (n : Int), H.foldl (manyStep j c p t) n ≤ n + H.length
  | [], n => by simp
  | s :: r, n => by
    have h := manyH_le j c p t r (manyStep j c p t n s)
    have h2 : manyStep j c p t n s ≤ n + 1 := by unfold manyStep; split <;> omega
    rw [List.foldl_cons, List.length_cons]
    omega
theorem own_set3 {w : World} {base R : Nat} {e : TypeId} {size n : Nat} {v : Value} {xs : List Value} (h : w.ownsRow base e size v n xs) (hR : R < base) (a b c : Value) :
    (((w.setCell ⟨R, 0, none⟩ a).setCell ⟨R, 1, none⟩ b).setCell ⟨R, 2, none⟩ c).ownsRow base e size v n xs :=
  ownsRow_setCell_below (ownsRow_setCell_below (ownsRow_setCell_below h (a := ⟨R, 0, none⟩) hR a) (a := ⟨R, 1, none⟩) hR b) (a := ⟨R, 2, none⟩) hR c
theorem rd_zero {w w' : World} {A : Option Addr} {k cap : Nat} (h : Rd w k (.slice A 0 cap) 0 []) (hz : w.heap.size ≤ w'.heap.size) : Rd w' k (.slice A 0 cap) 0 [] := by
  obtain ⟨A', cap', e, h1, h2, h3⟩ := h
  injection e with e1 _ e3
  subst e1 e3
  refine ⟨_, _, rfl, h1, h2, ?_⟩
  rcases h3 with h3 | ⟨b, off, rfl, hb, _⟩
  · exact .inl h3
  · exact .inr ⟨b, off, rfl, by omega, fun j u hu => by cases hu⟩
theorem refBar_nil (o : Ob) (H : List Stp) (x : Ask) : ansD (refBar o H x) = [] := by
  unfold refBar
  (repeat' split) <;> rfl

theorem d25_s2o_r (th : Int) (H : List Stp) (o : Ob) (j : Nat) (who call part arg val : Int) (hP : AskP o.k o.n o.a o.b call th who) (p0 : part = 0) (p1 : o.k = 11) (p2 : call = 2) (p3 : o.n + manyH H ((j : Nat) : Int) 2 0 (-1) - manyH H ((j : Nat) : Int) 1 0 (-1) = o.a) : refOb th o H ⟨who, ((j : Nat) : Int), call, part, arg, val⟩ = some (3, []) := by
  unfold refOb
  rw [if_pos hP, if_neg (c := o.k = 13) (by omega), if_neg (fun e => by rcases e with e | e; exact e p0; have := e.1; dsimp only at this; omega), if_neg (c := o.k = 12) (by omega), if_pos (c := o.k = 11) p1]
  unfold refSem
  dsimp only
  first | (rw [if_pos (by omega)]; done) | (rw [if_neg (by omega), if_pos (by omega)]; done) | (rw [if_neg (by omega), if_neg (by omega)]; done)
set_option maxHeartbeats 2000000 in
theorem d25_s2o (w : World) (vl : Value) (m : Nat) (obs : List Ob) (hI : InO w vl m obs) (hm : m ≤ 1000000) (th : Int) (v : Value) (n : Nat) (H : List Stp) (hl : H.length = n) (h : Rd w 7 v n (flatS H)) (hn : n ≤ 1000000) (o : Ob) (j : Nat) (who call part arg val : Int) (ho : obs[j]? = some o) (hx0 : 0 ≤ arg) (hx1 : arg ≤ 4294967295) (hP : AskP o.k o.n o.a o.b call th who) (p0 : part = 0) (p1 : o.k = 11) (p2 : call = 2) (p3 : o.n + manyH H ((j : Nat) : Int) 2 0 (-1) - manyH H ((j : Nat) : Int) 1 0 (-1) = o.a) :
    Calls Tryd.prog 12 #[vl, .int .i64 th, v, .agg #[.int .i64 who, .int .i64 ((j : Nat) : Int), .int .i64 call, .int .i64 part, .int .u32 arg, .int .u32 val]] w (AnsPost w (refOb th o H ⟨who, ((j : Nat) : Int), call, part, arg, val⟩)) := by
  have dA : decide (AskP o.k o.n o.a o.b call th who) = true := decide_eq_true hP
  rw [d25_s2o_r th H o j who call part arg val hP p0 p1 p2 p3]
  have q0 : (part != 0) = false := by simp; omega
  have q1 : (o.k == 6) = false := by simp; omega
  have q2 : (o.k == 7) = false := by simp; omega
  have q3 : (o.k == 9) = false := by simp; omega
  have q4 : (o.k == 11) = true := by simp; omega
  have q5 : (o.k == 12) = false := by simp; omega
  have q6 : (o.k == 13) = false := by simp; omega
  have q7 : (o.k == 14) = false := by simp; omega
  have q8 : (o.k == 15) = false := by simp; omega
  have q9 : (call == 4) = false := by simp; omega
  have q10 : (call == 2) = true := by simp; omega
  have q11 : (o.n + manyH H ((j : Nat) : Int) 2 0 (-1) - manyH H ((j : Nat) : Int) 1 0 (-1) == o.a) = true := by simp; omega
  have hm2 := manyH_le ((j : Nat) : Int) 2 0 (-1) H 0
  have hm1 := manyH_le ((j : Nat) : Int) 1 0 (-1) H 0
  have hp2 : 0 ≤ manyH H ((j : Nat) : Int) 2 0 (-1) := manyH_pos _ _ _ _ H 0 (Int.le_refl _)
  have hp1 : 0 ≤ manyH H ((j : Nat) : Int) 1 0 (-1) := manyH_pos _ _ _ _ H 0 (Int.le_refl _)
  have hon : 0 ≤ o.n ∧ o.n ≤ 1000 := by obtain ⟨⟨_, _, h⟩, _⟩ := hP; omega
  have w1 : IntKind.i64.wrap (o.n + manyH H ((j : Nat) : Int) 2 0 (-1)) = o.n + manyH H ((j : Nat) : Int) 2 0 (-1) := by rw [IntKind.wrap_i64]; show _ = _; unfold manyH at *; omega
  have w2 : IntKind.i64.wrap (o.n + manyH H ((j : Nat) : Int) 2 0 (-1) - manyH H ((j : Nat) : Int) 1 0 (-1)) = o.n + manyH H ((j : Nat) : Int) 2 0 (-1) - manyH H ((j : Nat) : Int) 1 0 (-1) := by rw [IntKind.wrap_i64]; show _ = _; unfold manyH at *; omega
  clear hP p0 p1 p2 p3 hm1 hm2 hp1 hp2 hon
  obtain ⟨A, cap, rfl⟩ := h.form
  have HI := Lib.hid hI
  obtain ⟨hml, oA, ocap, rfl, _⟩ := hI
  have HV := Lib.hid h
  have e1 : IntKind.i64.wrap arg = arg := by rw [IntKind.wrap_i64]; omega
  have hjm : j < m := by rw [← hml]; exact (List.getElem?_eq_some_iff.1 ho).1
  have f1 : decide (((j : Nat) : Int) < 0) = false := decide_eq_false (by omega)
  have f2 : decide ((m : Int) ≤ ((j : Nat) : Int)) = false := decide_eq_false (by omega)
  have f3 : decide (m ≤ j) = false := decide_eq_false (by omega)
  obtain ⟨b0, off0, rfl, hb0, _⟩ := InO.at HI.out ho
  obtain ⟨bX, bZ, bB, bS⟩ := blk2 w (.cells #[.int .i64 who, .int .i64 ((j : Nat) : Int), .int .i64 call, .int .i64 part, .int .u32 arg, .int .u32 val] 36) (.cells #[.int .u32 0, .slice none 0 0, .bool false] 65)
  have HO := Lib.hid ho
  go_enter Tryd.func12, Tryd.ntmps12
  go_wp2_with fail
  go_region_held (fun w' => w'.cell? ⟨w.heap.size, 0, none⟩ = some (.int .i64 who) ∧ w'.cell? ⟨w.heap.size, 1, none⟩ = some (.int .i64 ((j : Nat) : Int)) ∧ w'.cell? ⟨w.heap.size, 2, none⟩ = some (.int .i64 call) ∧ w'.cell? ⟨b0, off0 + j * 4, none⟩ = some (.int .i64 o.k) ∧ w'.cell? ⟨b0, off0 + j * 4 + 1, none⟩ = some (.int .i64 o.n) ∧ w'.cell? ⟨b0, off0 + j * 4 + 2, none⟩ = some (.int .i64 o.a) ∧ w'.cell? ⟨b0, off0 + j * 4 + 3, none⟩ = some (.int .i64 o.b))
    (first | exact hold25 bXN (HI.out.below hbWN (Nat.le_refl _)) HO.out | exact hold25 (show ((w.alloc (.cells #[.int .i64 who, .int .i64 ((j : Nat) : Int), .int .i64 call, .int .i64 part, .int .u32 arg, .int .u32 val] 36)).alloc (.cells #[.int .u32 0, .slice none 0 0, .bool false] 65)).drew.heap[w.heap.size]? = _ from bX) (InO.drew (HI.out.below bB (Nat.le_refl _))) HO.out)
    (first | (go_at_call 25; refine (may15_any _ _ _ _ _ _ _ _).mono ?_; rintro e wN ⟨rfl, hbN⟩; have hbW2 : Below ((w.alloc (.cells #[.int .i64 who, .int .i64 ((j : Nat) : Int), .int .i64 call, .int .i64 part, .int .u32 arg, .int .u32 val] 36)).alloc (.cells #[.int .u32 0, .slice none 0 0, .bool false] 65)).heap.size ((w.alloc (.cells #[.int .i64 who, .int .i64 ((j : Nat) : Int), .int .i64 call, .int .i64 part, .int .u32 arg, .int .u32 val] 36)).alloc (.cells #[.int .u32 0, .slice none 0 0, .bool false] 65)) wN := (bl_drew (Below.refl _ ((w.alloc (.cells #[.int .i64 who, .int .i64 ((j : Nat) : Int), .int .i64 call, .int .i64 part, .int .u32 arg, .int .u32 val] 36)).alloc (.cells #[.int .u32 0, .slice none 0 0, .bool false] 65)))).trans hbN; have hbWN := bB.trans (hbW2.mono bB.size); have bXN := obj_keep bX hbW2))
  have bZN := obj_keep bZ hbW2
  have hkx := cells6 bXN
  obtain ⟨xc0, xc1, xc2, xc3, xc4, xc5⟩ := hkx
  obtain ⟨zc0, zc1, zc2⟩ := cells3 bZN
  have zf0 : wN.frozen? ⟨w.heap.size + 1, 0, none⟩ = false := frozen_of_row _ _ _ _ _ bZN
  have zf1 : wN.frozen? ⟨w.heap.size + 1, 1, none⟩ = false := frozen_of_row _ _ _ _ _ bZN
  have zf2 : wN.frozen? ⟨w.heap.size + 1, 2, none⟩ = false := frozen_of_row _ _ _ _ _ bZN
  obtain ⟨hb9, oc0, oc1, oc2, oc3⟩ := InO.at2 (HI.out.below hbWN (Nat.le_refl _)) HO.out
  have hsN : w.heap.size + 1 < wN.heap.size := (Array.getElem?_eq_some_iff.1 bZN).1
  have hsX : w.heap.size < wN.heap.size := by omega
  go_wp2_with (first
      | (go_at_call 27; refine (owner25_any _ _ n H hl (by first | exact HV.out.below hbWN (Nat.le_refl _) | exact (HV.out.below hbWN (Nat.le_refl _)).alloc _) hn _).mono ?_; rintro e wO ⟨rfl, rfl⟩))
  have bOB := heap_alloc_new wN (.cells #[.int .i64 o.k, .int .i64 o.n, .int .i64 o.a, .int .i64 o.b] 48)
  have bXO : (wN.alloc (.cells #[.int .i64 o.k, .int .i64 o.n, .int .i64 o.a, .int .i64 o.b] 48)).heap[w.heap.size]? = _ := (Below.heap_alloc wN _ _ hsX).trans bXN
  have hbWO := hbWN.alloc hbWN.size (.cells #[.int .i64 o.k, .int .i64 o.n, .int .i64 o.a, .int .i64 o.b] 48)
  have hvO := (HV.out.below hbWO (Nat.le_refl _))
  have bZO : (wN.alloc (.cells #[.int .i64 o.k, .int .i64 o.n, .int .i64 o.a, .int .i64 o.b] 48)).heap[w.heap.size + 1]? = _ := (Below.heap_alloc wN _ _ hsN).trans bZN
  have hsO : wN.heap.size < (wN.alloc (.cells #[.int .i64 o.k, .int .i64 o.n, .int .i64 o.a, .int .i64 o.b] 48)).heap.size := by simp
  obtain ⟨W, hW⟩ : ∃ W, W = wN.alloc (.cells #[.int .i64 o.k, .int .i64 o.n, .int .i64 o.a, .int .i64 o.b] 48) := ⟨_, rfl⟩
  rw [← hW] at bOB bXO hbWO hvO bZO hsO
  rw [← hW]
  clear hW
  go_region_held (fun w' => w'.cell? ⟨w.heap.size, 1, none⟩ = some (.int .i64 ((j : Nat) : Int)) ∧ w'.cell? ⟨wN.heap.size, 1, none⟩ = some (.int .i64 o.n))
    (first | exact ⟨(cells6 bXM).2.1, (cells4 bOM).2.1⟩ | exact ⟨(cells6 (show W.drew.heap[w.heap.size]? = _ from bXO)).2.1, (cells4 (show W.drew.heap[wN.heap.size]? = _ from bOB)).2.1⟩)
    (first
      | (go_at_call 29; refine (many25_any _ (.slice A n cap) n H hl (by first | exact hvM | exact hvO.drew) hn _ _ _ _).mono ?_; rintro e wM ⟨rfl, hbM⟩; have hbWM : Below W.heap.size W wM := (by first | exact hbWM.trans (hbM.mono hbWM.size) | exact (bl_drew (Below.refl _ W)).trans hbM); have bXM := obj_keep bXO hbWM; have bOM := obj_keep bOB hbWM; have hvM := Rd.below hvO hbWM (Nat.le_refl _)))
  have bZM := obj_keep bZO hbWM
  have hbw := hbWO.trans (hbWM.mono hbWO.size)
  obtain ⟨c0, c1, c2, c3, c4, c5⟩ := cells6 bXM
  obtain ⟨d0, d1, d2, d3⟩ := cells4 bOM
  obtain ⟨z0, z1, z2⟩ := cells3 bZM
  have t0 : wM.frozen? ⟨w.heap.size + 1, 0, none⟩ = false := frozen_of_row _ _ _ _ _ bZM
  have t1 : wM.frozen? ⟨w.heap.size + 1, 1, none⟩ = false := frozen_of_row _ _ _ _ _ bZM
  have t2 : wM.frozen? ⟨w.heap.size + 1, 2, none⟩ = false := frozen_of_row _ _ _ _ _ bZM
  have sM1 : wN.heap.size < wM.heap.size := (Array.getElem?_eq_some_iff.1 bOM).1
  have sM2 : w.heap.size + 1 < wM.heap.size := (Array.getElem?_eq_some_iff.1 bZM).1
  go_wp2_with (go_at_call 28; refine (yes25_any _ _).mono ?_; rintro e wY ⟨rfl, hbY⟩; have hk := keepC hbY (Nat.le_refl _); have hf := keepF hbY (Nat.le_refl _))
  refine ret_yes rfl rfl rfl (obj_keep bZM hbY) (hbw.trans (hbY.mono hbw.size)) (by omega) rfl

theorem d25_s2y_r (th : Int) (H : List Stp) (o : Ob) (j : Nat) (who call part arg val : Int) (hP : AskP o.k o.n o.a o.b call th who) (p0 : part = 0) (p1 : o.k = 11) (p2 : call = 2) (p3 : o.n + manyH H ((j : Nat) : Int) 2 0 (-1) - manyH H ((j : Nat) : Int) 1 0 (-1) ≠ o.a) : refOb th o H ⟨who, ((j : Nat) : Int), call, part, arg, val⟩ = some (0, []) := by
  unfold refOb
  rw [if_pos hP, if_neg (c := o.k = 13) (by omega), if_neg (fun e => by rcases e with e | e; exact e p0; have := e.1; dsimp only at this; omega), if_neg (c := o.k = 12) (by omega), if_pos (c := o.k = 11) p1]
  unfold refSem
  dsimp only
  first | (rw [if_pos (by omega)]; done) | (rw [if_neg (by omega), if_pos (by omega)]; done) | (rw [if_neg (by omega), if_neg (by omega)]; done)
set_option maxHeartbeats 2000000 in
theorem d25_s2y (w : World) (vl : Value) (m : Nat) (obs : List Ob) (hI : InO w vl m obs) (hm : m ≤ 1000000) (th : Int) (v : Value) (n : Nat) (H : List Stp) (hl : H.length = n) (h : Rd w 7 v n (flatS H)) (hn : n ≤ 1000000) (o : Ob) (j : Nat) (who call part arg val : Int) (ho : obs[j]? = some o) (hx0 : 0 ≤ arg) (hx1 : arg ≤ 4294967295) (hP : AskP o.k o.n o.a o.b call th who) (p0 : part = 0) (p1 : o.k = 11) (p2 : call = 2) (p3 : o.n + manyH H ((j : Nat) : Int) 2 0 (-1) - manyH H ((j : Nat) : Int) 1 0 (-1) ≠ o.a) :
    Calls Tryd.prog 12 #[vl, .int .i64 th, v, .agg #[.int .i64 who, .int .i64 ((j : Nat) : Int), .int .i64 call, .int .i64 part, .int .u32 arg, .int .u32 val]] w (AnsPost w (refOb th o H ⟨who, ((j : Nat) : Int), call, part, arg, val⟩)) := by
  have dA : decide (AskP o.k o.n o.a o.b call th who) = true := decide_eq_true hP
  rw [d25_s2y_r th H o j who call part arg val hP p0 p1 p2 p3]
  have q0 : (part != 0) = false := by simp; omega
  have q1 : (o.k == 6) = false := by simp; omega
  have q2 : (o.k == 7) = false := by simp; omega
  have q3 : (o.k == 9) = false := by simp; omega
  have q4 : (o.k == 11) = true := by simp; omega
  have q5 : (o.k == 12) = false := by simp; omega
  have q6 : (o.k == 13) = false := by simp; omega
  have q7 : (o.k == 14) = false := by simp; omega
  have q8 : (o.k == 15) = false := by simp; omega
  have q9 : (call == 4) = false := by simp; omega
  have q10 : (call == 2) = true := by simp; omega
  have q11 : (o.n + manyH H ((j : Nat) : Int) 2 0 (-1) - manyH H ((j : Nat) : Int) 1 0 (-1) == o.a) = false := by simp; omega
  have q12 : (call == 1) = false := by simp; omega
  have hm2 := manyH_le ((j : Nat) : Int) 2 0 (-1) H 0
  have hm1 := manyH_le ((j : Nat) : Int) 1 0 (-1) H 0
  have hp2 : 0 ≤ manyH H ((j : Nat) : Int) 2 0 (-1) := manyH_pos _ _ _ _ H 0 (Int.le_refl _)
  have hp1 : 0 ≤ manyH H ((j : Nat) : Int) 1 0 (-1) := manyH_pos _ _ _ _ H 0 (Int.le_refl _)
  have hon : 0 ≤ o.n ∧ o.n ≤ 1000 := by obtain ⟨⟨_, _, h⟩, _⟩ := hP; omega
  have w1 : IntKind.i64.wrap (o.n + manyH H ((j : Nat) : Int) 2 0 (-1)) = o.n + manyH H ((j : Nat) : Int) 2 0 (-1) := by rw [IntKind.wrap_i64]; show _ = _; unfold manyH at *; omega
  have w2 : IntKind.i64.wrap (o.n + manyH H ((j : Nat) : Int) 2 0 (-1) - manyH H ((j : Nat) : Int) 1 0 (-1)) = o.n + manyH H ((j : Nat) : Int) 2 0 (-1) - manyH H ((j : Nat) : Int) 1 0 (-1) := by rw [IntKind.wrap_i64]; show _ = _; unfold manyH at *; omega
  clear hP p0 p1 p2 p3 hm1 hm2 hp1 hp2 hon
  obtain ⟨A, cap, rfl⟩ := h.form
  have HI := Lib.hid hI
  obtain ⟨hml, oA, ocap, rfl, _⟩ := hI
  have HV := Lib.hid h
  have e1 : IntKind.i64.wrap arg = arg := by rw [IntKind.wrap_i64]; omega
  have hjm : j < m := by rw [← hml]; exact (List.getElem?_eq_some_iff.1 ho).1
  have f1 : decide (((j : Nat) : Int) < 0) = false := decide_eq_false (by omega)
  have f2 : decide ((m : Int) ≤ ((j : Nat) : Int)) = false := decide_eq_false (by omega)
  have f3 : decide (m ≤ j) = false := decide_eq_false (by omega)
  obtain ⟨b0, off0, rfl, hb0, _⟩ := InO.at HI.out ho
  obtain ⟨bX, bZ, bB, bS⟩ := blk2 w (.cells #[.int .i64 who, .int .i64 ((j : Nat) : Int), .int .i64 call, .int .i64 part, .int .u32 arg, .int .u32 val] 36) (.cells #[.int .u32 0, .slice none 0 0, .bool false] 65)
  have HO := Lib.hid ho
  go_enter Tryd.func12, Tryd.ntmps12
  go_wp2_with fail
  go_region_held (fun w' => w'.cell? ⟨w.heap.size, 0, none⟩ = some (.int .i64 who) ∧ w'.cell? ⟨w.heap.size, 1, none⟩ = some (.int .i64 ((j : Nat) : Int)) ∧ w'.cell? ⟨w.heap.size, 2, none⟩ = some (.int .i64 call) ∧ w'.cell? ⟨b0, off0 + j * 4, none⟩ = some (.int .i64 o.k) ∧ w'.cell? ⟨b0, off0 + j * 4 + 1, none⟩ = some (.int .i64 o.n) ∧ w'.cell? ⟨b0, off0 + j * 4 + 2, none⟩ = some (.int .i64 o.a) ∧ w'.cell? ⟨b0, off0 + j * 4 + 3, none⟩ = some (.int .i64 o.b))
    (first | exact hold25 bXN (HI.out.below hbWN (Nat.le_refl _)) HO.out | exact hold25 (show ((w.alloc (.cells #[.int .i64 who, .int .i64 ((j : Nat) : Int), .int .i64 call, .int .i64 part, .int .u32 arg, .int .u32 val] 36)).alloc (.cells #[.int .u32 0, .slice none 0 0, .bool false] 65)).drew.heap[w.heap.size]? = _ from bX) (InO.drew (HI.out.below bB (Nat.le_refl _))) HO.out)
    (first | (go_at_call 25; refine (may15_any _ _ _ _ _ _ _ _).mono ?_; rintro e wN ⟨rfl, hbN⟩; have hbW2 : Below ((w.alloc (.cells #[.int .i64 who, .int .i64 ((j : Nat) : Int), .int .i64 call, .int .i64 part, .int .u32 arg, .int .u32 val] 36)).alloc (.cells #[.int .u32 0, .slice none 0 0, .bool false] 65)).heap.size ((w.alloc (.cells #[.int .i64 who, .int .i64 ((j : Nat) : Int), .int .i64 call, .int .i64 part, .int .u32 arg, .int .u32 val] 36)).alloc (.cells #[.int .u32 0, .slice none 0 0, .bool false] 65)) wN := (bl_drew (Below.refl _ ((w.alloc (.cells #[.int .i64 who, .int .i64 ((j : Nat) : Int), .int .i64 call, .int .i64 part, .int .u32 arg, .int .u32 val] 36)).alloc (.cells #[.int .u32 0, .slice none 0 0, .bool false] 65)))).trans hbN; have hbWN := bB.trans (hbW2.mono bB.size); have bXN := obj_keep bX hbW2))
  have bZN := obj_keep bZ hbW2
  have hkx := cells6 bXN
  obtain ⟨xc0, xc1, xc2, xc3, xc4, xc5⟩ := hkx
  obtain ⟨zc0, zc1, zc2⟩ := cells3 bZN
  have zf0 : wN.frozen? ⟨w.heap.size + 1, 0, none⟩ = false := frozen_of_row _ _ _ _ _ bZN
  have zf1 : wN.frozen? ⟨w.heap.size + 1, 1, none⟩ = false := frozen_of_row _ _ _ _ _ bZN
  have zf2 : wN.frozen? ⟨w.heap.size + 1, 2, none⟩ = false := frozen_of_row _ _ _ _ _ bZN
  obtain ⟨hb9, oc0, oc1, oc2, oc3⟩ := InO.at2 (HI.out.below hbWN (Nat.le_refl _)) HO.out
  have hsN : w.heap.size + 1 < wN.heap.size := (Array.getElem?_eq_some_iff.1 bZN).1
  have hsX : w.heap.size < wN.heap.size := by omega
  go_wp2_with (first
      | (go_at_call 27; refine (owner25_any _ _ n H hl (by first | exact HV.out.below hbWN (Nat.le_refl _) | exact (HV.out.below hbWN (Nat.le_refl _)).alloc _) hn _).mono ?_; rintro e wO ⟨rfl, rfl⟩))
  have bOB := heap_alloc_new wN (.cells #[.int .i64 o.k, .int .i64 o.n, .int .i64 o.a, .int .i64 o.b] 48)
  have bXO : (wN.alloc (.cells #[.int .i64 o.k, .int .i64 o.n, .int .i64 o.a, .int .i64 o.b] 48)).heap[w.heap.size]? = _ := (Below.heap_alloc wN _ _ hsX).trans bXN
  have hbWO := hbWN.alloc hbWN.size (.cells #[.int .i64 o.k, .int .i64 o.n, .int .i64 o.a, .int .i64 o.b] 48)
  have hvO := (HV.out.below hbWO (Nat.le_refl _))
  have bZO : (wN.alloc (.cells #[.int .i64 o.k, .int .i64 o.n, .int .i64 o.a, .int .i64 o.b] 48)).heap[w.heap.size + 1]? = _ := (Below.heap_alloc wN _ _ hsN).trans bZN
  have hsO : wN.heap.size < (wN.alloc (.cells #[.int .i64 o.k, .int .i64 o.n, .int .i64 o.a, .int .i64 o.b] 48)).heap.size := by simp
  obtain ⟨W, hW⟩ : ∃ W, W = wN.alloc (.cells #[.int .i64 o.k, .int .i64 o.n, .int .i64 o.a, .int .i64 o.b] 48) := ⟨_, rfl⟩
  rw [← hW] at bOB bXO hbWO hvO bZO hsO
  rw [← hW]
  clear hW
  go_region_held (fun w' => w'.cell? ⟨w.heap.size, 1, none⟩ = some (.int .i64 ((j : Nat) : Int)) ∧ w'.cell? ⟨wN.heap.size, 1, none⟩ = some (.int .i64 o.n))
    (first | exact ⟨(cells6 bXM).2.1, (cells4 bOM).2.1⟩ | exact ⟨(cells6 (show W.drew.heap[w.heap.size]? = _ from bXO)).2.1, (cells4 (show W.drew.heap[wN.heap.size]? = _ from bOB)).2.1⟩)
    (first
      | (go_at_call 29; refine (many25_any _ (.slice A n cap) n H hl (by first | exact hvM | exact hvO.drew) hn _ _ _ _).mono ?_; rintro e wM ⟨rfl, hbM⟩; have hbWM : Below W.heap.size W wM := (by first | exact hbWM.trans (hbM.mono hbWM.size) | exact (bl_drew (Below.refl _ W)).trans hbM); have bXM := obj_keep bXO hbWM; have bOM := obj_keep bOB hbWM; have hvM := Rd.below hvO hbWM (Nat.le_refl _)))
  have bZM := obj_keep bZO hbWM
  have hbw := hbWO.trans (hbWM.mono hbWO.size)
  obtain ⟨c0, c1, c2, c3, c4, c5⟩ := cells6 bXM
  obtain ⟨d0, d1, d2, d3⟩ := cells4 bOM
  obtain ⟨z0, z1, z2⟩ := cells3 bZM
  have t0 : wM.frozen? ⟨w.heap.size + 1, 0, none⟩ = false := frozen_of_row _ _ _ _ _ bZM
  have t1 : wM.frozen? ⟨w.heap.size + 1, 1, none⟩ = false := frozen_of_row _ _ _ _ _ bZM
  have t2 : wM.frozen? ⟨w.heap.size + 1, 2, none⟩ = false := frozen_of_row _ _ _ _ _ bZM
  have sM1 : wN.heap.size < wM.heap.size := (Array.getElem?_eq_some_iff.1 bOM).1
  have sM2 : w.heap.size + 1 < wM.heap.size := (Array.getElem?_eq_some_iff.1 bZM).1
  go_wp2_with (go_at_call 28; refine (yes25_any _ _).mono ?_; rintro e wY ⟨rfl, hbY⟩; have hk := keepC hbY (Nat.le_refl _); have hf := keepF hbY (Nat.le_refl _))
  refine ret_yes rfl rfl rfl (obj_keep bZM hbY) (hbw.trans (hbY.mono hbw.size)) (by omega) rfl

theorem d25_s1n_r (th : Int) (H : List Stp) (o : Ob) (j : Nat) (who call part arg val : Int) (hP : AskP o.k o.n o.a o.b call th who) (p0 : part = 0) (p1 : o.k = 11) (p2 : call = 1) (p3 : o.n + manyH H ((j : Nat) : Int) 2 0 (-1) - manyH H ((j : Nat) : Int) 1 0 (-1) = 0) : refOb th o H ⟨who, ((j : Nat) : Int), call, part, arg, val⟩ = none := by
  unfold refOb
  rw [if_pos hP, if_neg (c := o.k = 13) (by omega), if_neg (fun e => by rcases e with e | e; exact e p0; have := e.1; dsimp only at this; omega), if_neg (c := o.k = 12) (by omega), if_pos (c := o.k = 11) p1]
  unfold refSem
  dsimp only
  first | (rw [if_pos (by omega)]; done) | (rw [if_neg (by omega), if_pos (by omega)]; done) | (rw [if_neg (by omega), if_neg (by omega)]; done)
set_option maxHeartbeats 2000000 in
theorem d25_s1n (w : World) (vl : Value) (m : Nat) (obs : List Ob) (hI : InO w vl m obs) (hm : m ≤ 1000000) (th : Int) (v : Value) (n : Nat) (H : List Stp) (hl : H.length = n) (h : Rd w 7 v n (flatS H)) (hn : n ≤ 1000000) (o : Ob) (j : Nat) (who call part arg val : Int) (ho : obs[j]? = some o) (hx0 : 0 ≤ arg) (hx1 : arg ≤ 4294967295) (hP : AskP o.k o.n o.a o.b call th who) (p0 : part = 0) (p1 : o.k = 11) (p2 : call = 1) (p3 : o.n + manyH H ((j : Nat) : Int) 2 0 (-1) - manyH H ((j : Nat) : Int) 1 0 (-1) = 0) :
    Calls Tryd.prog 12 #[vl, .int .i64 th, v, .agg #[.int .i64 who, .int .i64 ((j : Nat) : Int), .int .i64 call, .int .i64 part, .int .u32 arg, .int .u32 val]] w (AnsPost w (refOb th o H ⟨who, ((j : Nat) : Int), call, part, arg, val⟩)) := by
  have dA : decide (AskP o.k o.n o.a o.b call th who) = true := decide_eq_true hP
  rw [d25_s1n_r th H o j who call part arg val hP p0 p1 p2 p3]
  have q0 : (part != 0) = false := by simp; omega
  have q1 : (o.k == 6) = false := by simp; omega
  have q2 : (o.k == 7) = false := by simp; omega
  have q3 : (o.k == 9) = false := by simp; omega
  have q4 : (o.k == 11) = true := by simp; omega
  have q5 : (o.k == 12) = false := by simp; omega
  have q6 : (o.k == 13) = false := by simp; omega
  have q7 : (o.k == 14) = false := by simp; omega
  have q8 : (o.k == 15) = false := by simp; omega
  have q9 : (call == 4) = false := by simp; omega
  have q10 : (call == 2) = false := by simp; omega
  have q11 : (call == 1) = true := by simp; omega
  have q12 : (o.n + manyH H ((j : Nat) : Int) 2 0 (-1) - manyH H ((j : Nat) : Int) 1 0 (-1) == 0) = true := by simp; omega
  have hm2 := manyH_le ((j : Nat) : Int) 2 0 (-1) H 0
  have hm1 := manyH_le ((j : Nat) : Int) 1 0 (-1) H 0
  have hp2 : 0 ≤ manyH H ((j : Nat) : Int) 2 0 (-1) := manyH_pos _ _ _ _ H 0 (Int.le_refl _)
  have hp1 : 0 ≤ manyH H ((j : Nat) : Int) 1 0 (-1) := manyH_pos _ _ _ _ H 0 (Int.le_refl _)
  have hon : 0 ≤ o.n ∧ o.n ≤ 1000 := by obtain ⟨⟨_, _, h⟩, _⟩ := hP; omega
  have w1 : IntKind.i64.wrap (o.n + manyH H ((j : Nat) : Int) 2 0 (-1)) = o.n + manyH H ((j : Nat) : Int) 2 0 (-1) := by rw [IntKind.wrap_i64]; show _ = _; unfold manyH at *; omega
  have w2 : IntKind.i64.wrap (o.n + manyH H ((j : Nat) : Int) 2 0 (-1) - manyH H ((j : Nat) : Int) 1 0 (-1)) = o.n + manyH H ((j : Nat) : Int) 2 0 (-1) - manyH H ((j : Nat) : Int) 1 0 (-1) := by rw [IntKind.wrap_i64]; show _ = _; unfold manyH at *; omega
  clear hP p0 p1 p2 p3 hm1 hm2 hp1 hp2 hon
  obtain ⟨A, cap, rfl⟩ := h.form
  have HI := Lib.hid hI
  obtain ⟨hml, oA, ocap, rfl, _⟩ := hI
  have HV := Lib.hid h
  have e1 : IntKind.i64.wrap arg = arg := by rw [IntKind.wrap_i64]; omega
  have hjm : j < m := by rw [← hml]; exact (List.getElem?_eq_some_iff.1 ho).1
  have f1 : decide (((j : Nat) : Int) < 0) = false := decide_eq_false (by omega)
  have f2 : decide ((m : Int) ≤ ((j : Nat) : Int)) = false := decide_eq_false (by omega)
  have f3 : decide (m ≤ j) = false := decide_eq_false (by omega)
  obtain ⟨b0, off0, rfl, hb0, _⟩ := InO.at HI.out ho
  obtain ⟨bX, bZ, bB, bS⟩ := blk2 w (.cells #[.int .i64 who, .int .i64 ((j : Nat) : Int), .int .i64 call, .int .i64 part, .int .u32 arg, .int .u32 val] 36) (.cells #[.int .u32 0, .slice none 0 0, .bool false] 65)
  have HO := Lib.hid ho
  go_enter Tryd.func12, Tryd.ntmps12
  go_wp2_with fail
  go_region_held (fun w' => w'.cell? ⟨w.heap.size, 0, none⟩ = some (.int .i64 who) ∧ w'.cell? ⟨w.heap.size, 1, none⟩ = some (.int .i64 ((j : Nat) : Int)) ∧ w'.cell? ⟨w.heap.size, 2, none⟩ = some (.int .i64 call) ∧ w'.cell? ⟨b0, off0 + j * 4, none⟩ = some (.int .i64 o.k) ∧ w'.cell? ⟨b0, off0 + j * 4 + 1, none⟩ = some (.int .i64 o.n) ∧ w'.cell? ⟨b0, off0 + j * 4 + 2, none⟩ = some (.int .i64 o.a) ∧ w'.cell? ⟨b0, off0 + j * 4 + 3, none⟩ = some (.int .i64 o.b))
    (first | exact hold25 bXN (HI.out.below hbWN (Nat.le_refl _)) HO.out | exact hold25 (show ((w.alloc (.cells #[.int .i64 who, .int .i64 ((j : Nat) : Int), .int .i64 call, .int .i64 part, .int .u32 arg, .int .u32 val] 36)).alloc (.cells #[.int .u32 0, .slice none 0 0, .bool false] 65)).drew.heap[w.heap.size]? = _ from bX) (InO.drew (HI.out.below bB (Nat.le_refl _))) HO.out)
    (first | (go_at_call 25; refine (may15_any _ _ _ _ _ _ _ _).mono ?_; rintro e wN ⟨rfl, hbN⟩; have hbW2 : Below ((w.alloc (.cells #[.int .i64 who, .int .i64 ((j : Nat) : Int), .int .i64 call, .int .i64 part, .int .u32 arg, .int .u32 val] 36)).alloc (.cells #[.int .u32 0, .slice none 0 0, .bool false] 65)).heap.size ((w.alloc (.cells #[.int .i64 who, .int .i64 ((j : Nat) : Int), .int .i64 call, .int .i64 part, .int .u32 arg, .int .u32 val] 36)).alloc (.cells #[.int .u32 0, .slice none 0 0, .bool false] 65)) wN := (bl_drew (Below.refl _ ((w.alloc (.cells #[.int .i64 who, .int .i64 ((j : Nat) : Int), .int .i64 call, .int .i64 part, .int .u32 arg, .int .u32 val] 36)).alloc (.cells #[.int .u32 0, .slice none 0 0, .bool false] 65)))).trans hbN; have hbWN := bB.trans (hbW2.mono bB.size); have bXN := obj_keep bX hbW2))
  have bZN := obj_keep bZ hbW2
  have hkx := cells6 bXN
  obtain ⟨xc0, xc1, xc2, xc3, xc4, xc5⟩ := hkx
  obtain ⟨zc0, zc1, zc2⟩ := cells3 bZN
  have zf0 : wN.frozen? ⟨w.heap.size + 1, 0, none⟩ = false := frozen_of_row _ _ _ _ _ bZN
  have zf1 : wN.frozen? ⟨w.heap.size + 1, 1, none⟩ = false := frozen_of_row _ _ _ _ _ bZN
  have zf2 : wN.frozen? ⟨w.heap.size + 1, 2, none⟩ = false := frozen_of_row _ _ _ _ _ bZN
  obtain ⟨hb9, oc0, oc1, oc2, oc3⟩ := InO.at2 (HI.out.below hbWN (Nat.le_refl _)) HO.out
  have hsN : w.heap.size + 1 < wN.heap.size := (Array.getElem?_eq_some_iff.1 bZN).1
  have hsX : w.heap.size < wN.heap.size := by omega
  go_wp2_with (first
      | (go_at_call 27; refine (owner25_any _ _ n H hl (by first | exact HV.out.below hbWN (Nat.le_refl _) | exact (HV.out.below hbWN (Nat.le_refl _)).alloc _) hn _).mono ?_; rintro e wO ⟨rfl, rfl⟩))
  have bOB := heap_alloc_new wN (.cells #[.int .i64 o.k, .int .i64 o.n, .int .i64 o.a, .int .i64 o.b] 48)
  have bXO : (wN.alloc (.cells #[.int .i64 o.k, .int .i64 o.n, .int .i64 o.a, .int .i64 o.b] 48)).heap[w.heap.size]? = _ := (Below.heap_alloc wN _ _ hsX).trans bXN
  have hbWO := hbWN.alloc hbWN.size (.cells #[.int .i64 o.k, .int .i64 o.n, .int .i64 o.a, .int .i64 o.b] 48)
  have hvO := (HV.out.below hbWO (Nat.le_refl _))
  have bZO : (wN.alloc (.cells #[.int .i64 o.k, .int .i64 o.n, .int .i64 o.a, .int .i64 o.b] 48)).heap[w.heap.size + 1]? = _ := (Below.heap_alloc wN _ _ hsN).trans bZN
  have hsO : wN.heap.size < (wN.alloc (.cells #[.int .i64 o.k, .int .i64 o.n, .int .i64 o.a, .int .i64 o.b] 48)).heap.size := by simp
  obtain ⟨W, hW⟩ : ∃ W, W = wN.alloc (.cells #[.int .i64 o.k, .int .i64 o.n, .int .i64 o.a, .int .i64 o.b] 48) := ⟨_, rfl⟩
  rw [← hW] at bOB bXO hbWO hvO bZO hsO
  rw [← hW]
  clear hW
  go_region_held (fun w' => w'.cell? ⟨w.heap.size, 1, none⟩ = some (.int .i64 ((j : Nat) : Int)) ∧ w'.cell? ⟨wN.heap.size, 1, none⟩ = some (.int .i64 o.n))
    (first | exact ⟨(cells6 bXM).2.1, (cells4 bOM).2.1⟩ | exact ⟨(cells6 (show W.drew.heap[w.heap.size]? = _ from bXO)).2.1, (cells4 (show W.drew.heap[wN.heap.size]? = _ from bOB)).2.1⟩)
    (first
      | (go_at_call 29; refine (many25_any _ (.slice A n cap) n H hl (by first | exact hvM | exact hvO.drew) hn _ _ _ _).mono ?_; rintro e wM ⟨rfl, hbM⟩; have hbWM : Below W.heap.size W wM := (by first | exact hbWM.trans (hbM.mono hbWM.size) | exact (bl_drew (Below.refl _ W)).trans hbM); have bXM := obj_keep bXO hbWM; have bOM := obj_keep bOB hbWM; have hvM := Rd.below hvO hbWM (Nat.le_refl _)))
  have bZM := obj_keep bZO hbWM
  have hbw := hbWO.trans (hbWM.mono hbWO.size)
  obtain ⟨c0, c1, c2, c3, c4, c5⟩ := cells6 bXM
  obtain ⟨d0, d1, d2, d3⟩ := cells4 bOM
  obtain ⟨z0, z1, z2⟩ := cells3 bZM
  have t0 : wM.frozen? ⟨w.heap.size + 1, 0, none⟩ = false := frozen_of_row _ _ _ _ _ bZM
  have t1 : wM.frozen? ⟨w.heap.size + 1, 1, none⟩ = false := frozen_of_row _ _ _ _ _ bZM
  have t2 : wM.frozen? ⟨w.heap.size + 1, 2, none⟩ = false := frozen_of_row _ _ _ _ _ bZM
  have sM1 : wN.heap.size < wM.heap.size := (Array.getElem?_eq_some_iff.1 bOM).1
  have sM2 : w.heap.size + 1 < wM.heap.size := (Array.getElem?_eq_some_iff.1 bZM).1
  go_wp2_with fail
  refine ret_no rfl rfl rfl bZM hbw (by omega) rfl

theorem d25_s1y_r (th : Int) (H : List Stp) (o : Ob) (j : Nat) (who call part arg val : Int) (hP : AskP o.k o.n o.a o.b call th who) (p0 : part = 0) (p1 : o.k = 11) (p2 : call = 1) (p3 : o.n + manyH H ((j : Nat) : Int) 2 0 (-1) - manyH H ((j : Nat) : Int) 1 0 (-1) ≠ 0) : refOb th o H ⟨who, ((j : Nat) : Int), call, part, arg, val⟩ = some (0, []) := by
  unfold refOb
  rw [if_pos hP, if_neg (c := o.k = 13) (by omega), if_neg (fun e => by rcases e with e | e; exact e p0; have := e.1; dsimp only at this; omega), if_neg (c := o.k = 12) (by omega), if_pos (c := o.k = 11) p1]
  unfold refSem
  dsimp only
  first | (rw [if_pos (by omega)]; done) | (rw [if_neg (by omega), if_pos (by omega)]; done) | (rw [if_neg (by omega), if_neg (by omega)]; done)
set_option maxHeartbeats 2000000 in
theorem d25_s1y (w : World) (vl : Value) (m : Nat) (obs : List Ob) (hI : InO w vl m obs) (hm : m ≤ 1000000) (th : Int) (v : Value) (n : Nat) (H : List Stp) (hl : H.length = n) (h : Rd w 7 v n (flatS H)) (hn : n ≤ 1000000) (o : Ob) (j : Nat) (who call part arg val : Int) (ho : obs[j]? = some o) (hx0 : 0 ≤ arg) (hx1 : arg ≤ 4294967295) (hP : AskP o.k o.n o.a o.b call th who) (p0 : part = 0) (p1 : o.k = 11) (p2 : call = 1) (p3 : o.n + manyH H ((j : Nat) : Int) 2 0 (-1) - manyH H ((j : Nat) : Int) 1 0 (-1) ≠ 0) :
    Calls Tryd.prog 12 #[vl, .int .i64 th, v, .agg #[.int .i64 who, .int .i64 ((j : Nat) : Int), .int .i64 call, .int .i64 part, .int .u32 arg, .int .u32 val]] w (AnsPost w (refOb th o H ⟨who, ((j : Nat) : Int), call, part, arg, val⟩)) := by
  have dA : decide (AskP o.k o.n o.a o.b call th who) = true := decide_eq_true hP
  rw [d25_s1y_r th H o j who call part arg val hP p0 p1 p2 p3]
  have q0 : (part != 0) = false := by simp; omega
  have q1 : (o.k == 6) = false := by simp; omega
  have q2 : (o.k == 7) = false := by simp; omega
  have q3 : (o.k == 9) = false := by simp; omega
  have q4 : (o.k == 11) = true := by simp; omega
  have q5 : (o.k == 12) = false := by simp; omega
  have q6 : (o.k == 13) = false := by simp; omega
  have q7 : (o.k == 14) = false := by simp; omega
  have q8 : (o.k == 15) = false := by simp; omega
  have q9 : (call == 4) = false := by simp; omega
  have q10 : (call == 2) = false := by simp; omega
  have q11 : (call == 1) = true := by simp; omega
  have q12 : (o.n + manyH H ((j : Nat) : Int) 2 0 (-1) - manyH H ((j : Nat) : Int) 1 0 (-1) == 0) = false := by simp; omega
  have hm2 := manyH_le ((j : Nat) : Int) 2 0 (-1) H 0
  have hm1 := manyH_le ((j : Nat) : Int) 1 0 (-1) H 0
  have hp2 : 0 ≤ manyH H ((j : Nat) : Int) 2 0 (-1) := manyH_pos _ _ _ _ H 0 (Int.le_refl _)
  have hp1 : 0 ≤ manyH H ((j : Nat) : Int) 1 0 (-1) := manyH_pos _ _ _ _ H 0 (Int.le_refl _)
  have hon : 0 ≤ o.n ∧ o.n ≤ 1000 := by obtain ⟨⟨_, _, h⟩, _⟩ := hP; omega
  have w1 : IntKind.i64.wrap (o.n + manyH H ((j : Nat) : Int) 2 0 (-1)) = o.n + manyH H ((j : Nat) : Int) 2 0 (-1) := by rw [IntKind.wrap_i64]; show _ = _; unfold manyH at *; omega
  have w2 : IntKind.i64.wrap (o.n + manyH H ((j : Nat) : Int) 2 0 (-1) - manyH H ((j : Nat) : Int) 1 0 (-1)) = o.n + manyH H ((j : Nat) : Int) 2 0 (-1) - manyH H ((j : Nat) : Int) 1 0 (-1) := by rw [IntKind.wrap_i64]; show _ = _; unfold manyH at *; omega
  clear hP p0 p1 p2 p3 hm1 hm2 hp1 hp2 hon
  obtain ⟨A, cap, rfl⟩ := h.form
  have HI := Lib.hid hI
  obtain ⟨hml, oA, ocap, rfl, _⟩ := hI
  have HV := Lib.hid h
  have e1 : IntKind.i64.wrap arg = arg := by rw [IntKind.wrap_i64]; omega
  have hjm : j < m := by rw [← hml]; exact (List.getElem?_eq_some_iff.1 ho).1
  have f1 : decide (((j : Nat) : Int) < 0) = false := decide_eq_false (by omega)
  have f2 : decide ((m : Int) ≤ ((j : Nat) : Int)) = false := decide_eq_false (by omega)
  have f3 : decide (m ≤ j) = false := decide_eq_false (by omega)
  obtain ⟨b0, off0, rfl, hb0, _⟩ := InO.at HI.out ho
  obtain ⟨bX, bZ, bB, bS⟩ := blk2 w (.cells #[.int .i64 who, .int .i64 ((j : Nat) : Int), .int .i64 call, .int .i64 part, .int .u32 arg, .int .u32 val] 36) (.cells #[.int .u32 0, .slice none 0 0, .bool false] 65)
  have HO := Lib.hid ho
  go_enter Tryd.func12, Tryd.ntmps12
  go_wp2_with fail
  go_region_held (fun w' => w'.cell? ⟨w.heap.size, 0, none⟩ = some (.int .i64 who) ∧ w'.cell? ⟨w.heap.size, 1, none⟩ = some (.int .i64 ((j : Nat) : Int)) ∧ w'.cell? ⟨w.heap.size, 2, none⟩ = some (.int .i64 call) ∧ w'.cell? ⟨b0, off0 + j * 4, none⟩ = some (.int .i64 o.k) ∧ w'.cell? ⟨b0, off0 + j * 4 + 1, none⟩ = some (.int .i64 o.n) ∧ w'.cell? ⟨b0, off0 + j * 4 + 2, none⟩ = some (.int .i64 o.a) ∧ w'.cell? ⟨b0, off0 + j * 4 + 3, none⟩ = some (.int .i64 o.b))
    (first | exact hold25 bXN (HI.out.below hbWN (Nat.le_refl _)) HO.out | exact hold25 (show ((w.alloc (.cells #[.int .i64 who, .int .i64 ((j : Nat) : Int), .int .i64 call, .int .i64 part, .int .u32 arg, .int .u32 val] 36)).alloc (.cells #[.int .u32 0, .slice none 0 0, .bool false] 65)).drew.heap[w.heap.size]? = _ from bX) (InO.drew (HI.out.below bB (Nat.le_refl _))) HO.out)
    (first | (go_at_call 25; refine (may15_any _ _ _ _ _ _ _ _).mono ?_; rintro e wN ⟨rfl, hbN⟩; have hbW2 : Below ((w.alloc (.cells #[.int .i64 who, .int .i64 ((j : Nat) : Int), .int .i64 call, .int .i64 part, .int .u32 arg, .int .u32 val] 36)).alloc (.cells #[.int .u32 0, .slice none 0 0, .bool false] 65)).heap.size ((w.alloc (.cells #[.int .i64 who, .int .i64 ((j : Nat) : Int), .int .i64 call, .int .i64 part, .int .u32 arg, .int .u32 val] 36)).alloc (.cells #[.int .u32 0, .slice none 0 0, .bool false] 65)) wN := (bl_drew (Below.refl _ ((w.alloc (.cells #[.int .i64 who, .int .i64 ((j : Nat) : Int), .int .i64 call, .int .i64 part, .int .u32 arg, .int .u32 val] 36)).alloc (.cells #[.int .u32 0, .slice none 0 0, .bool false] 65)))).trans hbN; have hbWN := bB.trans (hbW2.mono bB.size); have bXN := obj_keep bX hbW2))
  have bZN := obj_keep bZ hbW2
  have hkx := cells6 bXN
  obtain ⟨xc0, xc1, xc2, xc3, xc4, xc5⟩ := hkx
  obtain ⟨zc0, zc1, zc2⟩ := cells3 bZN
  have zf0 : wN.frozen? ⟨w.heap.size + 1, 0, none⟩ = false := frozen_of_row _ _ _ _ _ bZN
  have zf1 : wN.frozen? ⟨w.heap.size + 1, 1, none⟩ = false := frozen_of_row _ _ _ _ _ bZN
  have zf2 : wN.frozen? ⟨w.heap.size + 1, 2, none⟩ = false := frozen_of_row _ _ _ _ _ bZN
  obtain ⟨hb9, oc0, oc1, oc2, oc3⟩ := InO.at2 (HI.out.below hbWN (Nat.le_refl _)) HO.out
  have hsN : w.heap.size + 1 < wN.heap.size := (Array.getElem?_eq_some_iff.1 bZN).1
  have hsX : w.heap.size < wN.heap.size := by omega
  go_wp2_with (first
      | (go_at_call 27; refine (owner25_any _ _ n H hl (by first | exact HV.out.below hbWN (Nat.le_refl _) | exact (HV.out.below hbWN (Nat.le_refl _)).alloc _) hn _).mono ?_; rintro e wO ⟨rfl, rfl⟩))
  have bOB := heap_alloc_new wN (.cells #[.int .i64 o.k, .int .i64 o.n, .int .i64 o.a, .int .i64 o.b] 48)
  have bXO : (wN.alloc (.cells #[.int .i64 o.k, .int .i64 o.n, .int .i64 o.a, .int .i64 o.b] 48)).heap[w.heap.size]? = _ := (Below.heap_alloc wN _ _ hsX).trans bXN
  have hbWO := hbWN.alloc hbWN.size (.cells #[.int .i64 o.k, .int .i64 o.n, .int .i64 o.a, .int .i64 o.b] 48)
  have hvO := (HV.out.below hbWO (Nat.le_refl _))
  have bZO : (wN.alloc (.cells #[.int .i64 o.k, .int .i64 o.n, .int .i64 o.a, .int .i64 o.b] 48)).heap[w.heap.size + 1]? = _ := (Below.heap_alloc wN _ _ hsN).trans bZN
  have hsO : wN.heap.size < (wN.alloc (.cells #[.int .i64 o.k, .int .i64 o.n, .int .i64 o.a, .int .i64 o.b] 48)).heap.size := by simp
  obtain ⟨W, hW⟩ : ∃ W, W = wN.alloc (.cells #[.int .i64 o.k, .int .i64 o.n, .int .i64 o.a, .int .i64 o.b] 48) := ⟨_, rfl⟩
  rw [← hW] at bOB bXO hbWO hvO bZO hsO
  rw [← hW]
  clear hW
  go_region_held (fun w' => w'.cell? ⟨w.heap.size, 1, none⟩ = some (.int .i64 ((j : Nat) : Int)) ∧ w'.cell? ⟨wN.heap.size, 1, none⟩ = some (.int .i64 o.n))
    (first | exact ⟨(cells6 bXM).2.1, (cells4 bOM).2.1⟩ | exact ⟨(cells6 (show W.drew.heap[w.heap.size]? = _ from bXO)).2.1, (cells4 (show W.drew.heap[wN.heap.size]? = _ from bOB)).2.1⟩)
    (first
      | (go_at_call 29; refine (many25_any _ (.slice A n cap) n H hl (by first | exact hvM | exact hvO.drew) hn _ _ _ _).mono ?_; rintro e wM ⟨rfl, hbM⟩; have hbWM : Below W.heap.size W wM := (by first | exact hbWM.trans (hbM.mono hbWM.size) | exact (bl_drew (Below.refl _ W)).trans hbM); have bXM := obj_keep bXO hbWM; have bOM := obj_keep bOB hbWM; have hvM := Rd.below hvO hbWM (Nat.le_refl _)))
  have bZM := obj_keep bZO hbWM
  have hbw := hbWO.trans (hbWM.mono hbWO.size)
  obtain ⟨c0, c1, c2, c3, c4, c5⟩ := cells6 bXM
  obtain ⟨d0, d1, d2, d3⟩ := cells4 bOM
  obtain ⟨z0, z1, z2⟩ := cells3 bZM
  have t0 : wM.frozen? ⟨w.heap.size + 1, 0, none⟩ = false := frozen_of_row _ _ _ _ _ bZM
  have t1 : wM.frozen? ⟨w.heap.size + 1, 1, none⟩ = false := frozen_of_row _ _ _ _ _ bZM
  have t2 : wM.frozen? ⟨w.heap.size + 1, 2, none⟩ = false := frozen_of_row _ _ _ _ _ bZM
  have sM1 : wN.heap.size < wM.heap.size := (Array.getElem?_eq_some_iff.1 bOM).1
  have sM2 : w.heap.size + 1 < wM.heap.size := (Array.getElem?_eq_some_iff.1 bZM).1
  go_wp2_with (go_at_call 28; refine (yes25_any _ _).mono ?_; rintro e wY ⟨rfl, hbY⟩; have hk := keepC hbY (Nat.le_refl _); have hf := keepF hbY (Nat.le_refl _))
  refine ret_yes rfl rfl rfl (obj_keep bZM hbY) (hbw.trans (hbY.mono hbw.size)) (by omega) rfl

set_option maxHeartbeats 2000000 in
theorem d25_bar (w : World) (vl : Value) (m : Nat) (obs : List Ob) (hI : InO w vl m obs) (hm : m ≤ 1000000) (th : Int) (v : Value) (n : Nat) (H : List Stp) (hl : H.length = n) (h : Rd w 7 v n (flatS H)) (hn : n ≤ 1000000) (o : Ob) (j : Nat) (who call part arg val : Int) (ho : obs[j]? = some o) (hx0 : 0 ≤ arg) (hx1 : arg ≤ 4294967295) (hP : AskP o.k o.n o.a o.b call th who) (p0 : o.k = 13) :
    Calls Tryd.prog 12 #[vl, .int .i64 th, v, .agg #[.int .i64 who, .int .i64 ((j : Nat) : Int), .int .i64 call, .int .i64 part, .int .u32 arg, .int .u32 val]] w (AnsPost w (refOb th o H ⟨who, ((j : Nat) : Int), call, part, arg, val⟩)) := by
  have dA : decide (AskP o.k o.n o.a o.b call th who) = true := decide_eq_true hP
  have hr : refOb th o H ⟨who, ((j : Nat) : Int), call, part, arg, val⟩ = refBar o H ⟨who, ((j : Nat) : Int), call, part, arg, val⟩ := by unfold refOb; rw [if_pos hP, if_pos p0]
  rw [hr]
  obtain ⟨r, hrr⟩ : ∃ r, r = refBar o H ⟨who, ((j : Nat) : Int), call, part, arg, val⟩ := ⟨_, rfl⟩
  have hnil : ansD r = [] := by rw [hrr]; exact refBar_nil _ _ _
  have hN8 : o.n ≤ 8 := by obtain ⟨⟨_, _, h⟩, _⟩ := hP; omega
  have hbar := fun w hv => bar25_any w v n H hl hv hn o ⟨who, ((j : Nat) : Int), call, part, arg, val⟩ hN8 hx0 hx1
  rw [← hrr] at hbar
  rw [← hrr]
  have q0 : (o.k == 6) = false := by simp; omega
  have q1 : (o.k == 7) = false := by simp; omega
  have q2 : (o.k == 9) = false := by simp; omega
  have q3 : (o.k == 11) = false := by simp; omega
  have q4 : (o.k == 12) = false := by simp; omega
  have q5 : (o.k == 13) = true := by simp; omega
  have q6 : (o.k == 14) = false := by simp; omega
  have q7 : (o.k == 15) = false := by simp; omega
  clear hP p0 hr hrr
  obtain ⟨A, cap, rfl⟩ := h.form
  have HI := Lib.hid hI
  obtain ⟨hml, oA, ocap, rfl, _⟩ := hI
  have HV := Lib.hid h
  have e1 : IntKind.i64.wrap arg = arg := by rw [IntKind.wrap_i64]; omega
  have hjm : j < m := by rw [← hml]; exact (List.getElem?_eq_some_iff.1 ho).1
  have f1 : decide (((j : Nat) : Int) < 0) = false := decide_eq_false (by omega)
  have f2 : decide ((m : Int) ≤ ((j : Nat) : Int)) = false := decide_eq_false (by omega)
  have f3 : decide (m ≤ j) = false := decide_eq_false (by omega)
  obtain ⟨b0, off0, rfl, hb0, _⟩ := InO.at HI.out ho
  obtain ⟨bX, bZ, bB, bS⟩ := blk2 w (.cells #[.int .i64 who, .int .i64 ((j : Nat) : Int), .int .i64 call, .int .i64 part, .int .u32 arg, .int .u32 val] 36) (.cells #[.int .u32 0, .slice none 0 0, .bool false] 65)
  have HO := Lib.hid ho
  go_enter Tryd.func12, Tryd.ntmps12
  go_wp2_with fail
  go_region_held (fun w' => w'.cell? ⟨w.heap.size, 0, none⟩ = some (.int .i64 who) ∧ w'.cell? ⟨w.heap.size, 1, none⟩ = some (.int .i64 ((j : Nat) : Int)) ∧ w'.cell? ⟨w.heap.size, 2, none⟩ = some (.int .i64 call) ∧ w'.cell? ⟨b0, off0 + j * 4, none⟩ = some (.int .i64 o.k) ∧ w'.cell? ⟨b0, off0 + j * 4 + 1, none⟩ = some (.int .i64 o.n) ∧ w'.cell? ⟨b0, off0 + j * 4 + 2, none⟩ = some (.int .i64 o.a) ∧ w'.cell? ⟨b0, off0 + j * 4 + 3, none⟩ = some (.int .i64 o.b))
    (first | exact hold25 bXN (HI.out.below hbWN (Nat.le_refl _)) HO.out | exact hold25 (show ((w.alloc (.cells #[.int .i64 who, .int .i64 ((j : Nat) : Int), .int .i64 call, .int .i64 part, .int .u32 arg, .int .u32 val] 36)).alloc (.cells #[.int .u32 0, .slice none 0 0, .bool false] 65)).drew.heap[w.heap.size]? = _ from bX) (InO.drew (HI.out.below bB (Nat.le_refl _))) HO.out)
    (first | (go_at_call 25; refine (may15_any _ _ _ _ _ _ _ _).mono ?_; rintro e wN ⟨rfl, hbN⟩; have hbW2 : Below ((w.alloc (.cells #[.int .i64 who, .int .i64 ((j : Nat) : Int), .int .i64 call, .int .i64 part, .int .u32 arg, .int .u32 val] 36)).alloc (.cells #[.int .u32 0, .slice none 0 0, .bool false] 65)).heap.size ((w.alloc (.cells #[.int .i64 who, .int .i64 ((j : Nat) : Int), .int .i64 call, .int .i64 part, .int .u32 arg, .int .u32 val] 36)).alloc (.cells #[.int .u32 0, .slice none 0 0, .bool false] 65)) wN := (bl_drew (Below.refl _ ((w.alloc (.cells #[.int .i64 who, .int .i64 ((j : Nat) : Int), .int .i64 call, .int .i64 part, .int .u32 arg, .int .u32 val] 36)).alloc (.cells #[.int .u32 0, .slice none 0 0, .bool false] 65)))).trans hbN; have hbWN := bB.trans (hbW2.mono bB.size); have bXN := obj_keep bX hbW2))
  have bZN := obj_keep bZ hbW2
  have hkx := cells6 bXN
  obtain ⟨xc0, xc1, xc2, xc3, xc4, xc5⟩ := hkx
  obtain ⟨zc0, zc1, zc2⟩ := cells3 bZN
  have zf0 : wN.frozen? ⟨w.heap.size + 1, 0, none⟩ = false := frozen_of_row _ _ _ _ _ bZN
  have zf1 : wN.frozen? ⟨w.heap.size + 1, 1, none⟩ = false := frozen_of_row _ _ _ _ _ bZN
  have zf2 : wN.frozen? ⟨w.heap.size + 1, 2, none⟩ = false := frozen_of_row _ _ _ _ _ bZN
  obtain ⟨hb9, oc0, oc1, oc2, oc3⟩ := InO.at2 (HI.out.below hbWN (Nat.le_refl _)) HO.out
  have hsN : w.heap.size + 1 < wN.heap.size := (Array.getElem?_eq_some_iff.1 bZN).1
  have hsX : w.heap.size < wN.heap.size := by omega
  go_wp2_with (go_at_call 26; refine (hbar _ ((HV.out.below hbWN (Nat.le_refl _)).alloc _)).mono ?_; rintro e wB ⟨dv, rfl, hdv, hbB⟩; obtain ⟨dA, dc, rfl⟩ := hdv.form; have hk := keepC hbB (Nat.le_refl _); have hf := keepF hbB (Nat.le_refl _))
  rw [hnil] at hdv
  have bZB := obj_keep ((Below.heap_alloc _ _ _ hsN).trans bZN) hbB
  have hbw := (hbWN.alloc hbWN.size _).trans (hbB.mono (hbWN.alloc hbWN.size _).size)
  refine bodyPost_ret (results_ans rfl _ _ (w.heap.size + 1) _ _ _ (set3_row bZB _ _ _) rfl) rfl ?_
  refine ⟨_, rfl, ?_, set3_below hbw (by omega) _ _ _⟩
  rw [hnil]
  exact rd_zero hdv (by simp)

end Go.Proofs.YtfemeiopfpblaaaDoor.As
