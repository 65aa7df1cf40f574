/- The walks of the package deadlatchref25: what a call answers behind all that was done, way by way (4). -/
import Derived.Test.YtfemeiopfpblaaaDoorHjR5
set_option linter.unusedVariables false
set_option linter.unusedSimpArgs false
set_option maxRecDepth 20000
namespace Go.Proofs.YtfemeiopfpblaaaDoor.As
open Go.RowKit

theorem d25_o9done_r (th : Int) (H : List Stp) (o : Ob) (j : Nat) (who call part arg val : Int) (hP : AskP o.k o.n o.a o.b call th who) (p0 : part = 0) (p1 : o.k = 15) (p2 : call = 9) (p3 : ownH H ((j : Nat) : Int) ≠ who) (p4 : 0 < manyH H ((j : Nat) : Int) 10 0 (-1)) : refOb th o H ⟨who, ((j : Nat) : Int), call, part, arg, val⟩ = some (0, []) := by
  have e0 : (part = 0) = True := by simp only [eq_iff_iff, iff_true, iff_false]; omega
  have e1 : (o.k = 6) = False := by simp only [eq_iff_iff, iff_true, iff_false]; omega
  have e2 : (o.k = 7) = False := by simp only [eq_iff_iff, iff_true, iff_false]; omega
  have e3 : (o.k = 9) = False := by simp only [eq_iff_iff, iff_true, iff_false]; omega
  have e4 : (o.k = 11) = False := by simp only [eq_iff_iff, iff_true, iff_false]; omega
  have e5 : (o.k = 12) = False := by simp only [eq_iff_iff, iff_true, iff_false]; omega
  have e6 : (o.k = 13) = False := by simp only [eq_iff_iff, iff_true, iff_false]; omega
  have e7 : (o.k = 14) = False := by simp only [eq_iff_iff, iff_true, iff_false]; omega
  have e8 : (o.k = 15) = True := by simp only [eq_iff_iff, iff_true, iff_false]; omega
  have e9 : (call = 4) = False := by simp only [eq_iff_iff, iff_true, iff_false]; omega
  have e10 : (call = 10) = False := by simp only [eq_iff_iff, iff_true, iff_false]; omega
  have e11 : (ownH H ((j : Nat) : Int) = who) = False := by simp only [eq_iff_iff, iff_true, iff_false]; omega
  have e12 : (0 < manyH H ((j : Nat) : Int) 10 0 (-1)) = True := by simp only [eq_iff_iff, iff_true, iff_false]; omega
  simp [refOb, refOnce, hP, e0, e1, e2, e3, e4, e5, e6, e7, e8, e9, e10, e11, e12]
set_option maxHeartbeats 1000000 in
theorem d25_o9done (w : World) (vl : Value) (m : Nat) (obs : List Ob) (hI : InO w vl m obs) (hm : m ≤ 1000000) (th : Int) (v : Value) (n : Nat) (H : List Stp) (hl : H.length = n) (h : Rd w 7 v n (flatS H)) (hn : n ≤ 1000000) (o : Ob) (j : Nat) (who call part arg val : Int) (ho : obs[j]? = some o) (hx0 : 0 ≤ arg) (hx1 : arg ≤ 4294967295) (hP : AskP o.k o.n o.a o.b call th who) (p0 : part = 0) (p1 : o.k = 15) (p2 : call = 9) (p3 : ownH H ((j : Nat) : Int) ≠ who) (p4 : 0 < manyH H ((j : Nat) : Int) 10 0 (-1)) :
    Calls Tryd.prog 12 #[vl, .int .i64 th, v, .agg #[.int .i64 who, .int .i64 ((j : Nat) : Int), .int .i64 call, .int .i64 part, .int .u32 arg, .int .u32 val]] w (AnsPost w (refOb th o H ⟨who, ((j : Nat) : Int), call, part, arg, val⟩)) := by
  have dA : decide (AskP o.k o.n o.a o.b call th who) = true := decide_eq_true hP
  rw [d25_o9done_r th H o j who call part arg val hP p0 p1 p2 p3 p4]
  have q0 : (part != 0) = false := by simp; omega
  have q1 : (o.k == 6) = false := by simp; omega
  have q2 : (o.k == 7) = false := by simp; omega
  have q3 : (o.k == 9) = false := by simp; omega
  have q4 : (o.k == 11) = false := by simp; omega
  have q5 : (o.k == 12) = false := by simp; omega
  have q6 : (o.k == 13) = false := by simp; omega
  have q7 : (o.k == 14) = false := by simp; omega
  have q8 : (o.k == 15) = true := by simp; omega
  have q9 : (call == 4) = false := by simp; omega
  have q10 : (call == 10) = false := by simp; omega
  have q11 : (ownH H ((j : Nat) : Int) == who) = false := by simp; omega
  have q12 : decide (0 < manyH H ((j : Nat) : Int) 10 0 (-1)) = true := by exact decide_eq_true (by omega)
  clear hP p0 p1 p2 p3 p4
  obtain ⟨A, cap, rfl⟩ := h.form
  have HI := Lib.hid hI
  obtain ⟨hml, oA, ocap, rfl, _⟩ := hI
  have HV := Lib.hid h
  have e1 : IntKind.i64.wrap arg = arg := by rw [IntKind.wrap_i64]; omega
  have hjm : j < m := by rw [← hml]; exact (List.getElem?_eq_some_iff.1 ho).1
  have f1 : decide (((j : Nat) : Int) < 0) = false := decide_eq_false (by omega)
  have f2 : decide ((m : Int) ≤ ((j : Nat) : Int)) = false := decide_eq_false (by omega)
  have f3 : decide (m ≤ j) = false := decide_eq_false (by omega)
  obtain ⟨b0, off0, rfl, hb0, _⟩ := InO.at HI.out ho
  obtain ⟨bX, bZ, bB, bS⟩ := blk2 w (.cells #[.int .i64 who, .int .i64 ((j : Nat) : Int), .int .i64 call, .int .i64 part, .int .u32 arg, .int .u32 val] 36) (.cells #[.int .u32 0, .slice none 0 0, .bool false] 65)
  have HO := Lib.hid ho

  go_enter Tryd.func12, Tryd.ntmps12
  go_wp2_with fail
  go_region_held (fun w' => w'.cell? ⟨w.heap.size, 0, none⟩ = some (.int .i64 who) ∧ w'.cell? ⟨w.heap.size, 1, none⟩ = some (.int .i64 ((j : Nat) : Int)) ∧ w'.cell? ⟨w.heap.size, 2, none⟩ = some (.int .i64 call) ∧ w'.cell? ⟨b0, off0 + j * 4, none⟩ = some (.int .i64 o.k) ∧ w'.cell? ⟨b0, off0 + j * 4 + 1, none⟩ = some (.int .i64 o.n) ∧ w'.cell? ⟨b0, off0 + j * 4 + 2, none⟩ = some (.int .i64 o.a) ∧ w'.cell? ⟨b0, off0 + j * 4 + 3, none⟩ = some (.int .i64 o.b))
    (first | exact hold25 bXN (HI.out.below hbWN (Nat.le_refl _)) HO.out | exact hold25 (show ((w.alloc (.cells #[.int .i64 who, .int .i64 ((j : Nat) : Int), .int .i64 call, .int .i64 part, .int .u32 arg, .int .u32 val] 36)).alloc (.cells #[.int .u32 0, .slice none 0 0, .bool false] 65)).drew.heap[w.heap.size]? = _ from bX) (InO.drew (HI.out.below bB (Nat.le_refl _))) HO.out)
    (first | (go_at_call 25; refine (may15_any _ _ _ _ _ _ _ _).mono ?_; rintro e wN ⟨rfl, hbN⟩; have hbW2 : Below ((w.alloc (.cells #[.int .i64 who, .int .i64 ((j : Nat) : Int), .int .i64 call, .int .i64 part, .int .u32 arg, .int .u32 val] 36)).alloc (.cells #[.int .u32 0, .slice none 0 0, .bool false] 65)).heap.size ((w.alloc (.cells #[.int .i64 who, .int .i64 ((j : Nat) : Int), .int .i64 call, .int .i64 part, .int .u32 arg, .int .u32 val] 36)).alloc (.cells #[.int .u32 0, .slice none 0 0, .bool false] 65)) wN := (bl_drew (Below.refl _ ((w.alloc (.cells #[.int .i64 who, .int .i64 ((j : Nat) : Int), .int .i64 call, .int .i64 part, .int .u32 arg, .int .u32 val] 36)).alloc (.cells #[.int .u32 0, .slice none 0 0, .bool false] 65)))).trans hbN; have hbWN := bB.trans (hbW2.mono bB.size); have bXN := obj_keep bX hbW2))
  have bZN := obj_keep bZ hbW2
  have hkx := cells6 bXN
  obtain ⟨xc0, xc1, xc2, xc3, xc4, xc5⟩ := hkx
  obtain ⟨zc0, zc1, zc2⟩ := cells3 bZN
  have zf0 : wN.frozen? ⟨w.heap.size + 1, 0, none⟩ = false := frozen_of_row _ _ _ _ _ bZN
  have zf1 : wN.frozen? ⟨w.heap.size + 1, 1, none⟩ = false := frozen_of_row _ _ _ _ _ bZN
  have zf2 : wN.frozen? ⟨w.heap.size + 1, 2, none⟩ = false := frozen_of_row _ _ _ _ _ bZN
  obtain ⟨hb9, oc0, oc1, oc2, oc3⟩ := InO.at2 (HI.out.below hbWN (Nat.le_refl _)) HO.out
  have hsN : w.heap.size + 1 < wN.heap.size := (Array.getElem?_eq_some_iff.1 bZN).1
  have hsX : w.heap.size < wN.heap.size := by omega
  go_wp2_with (first
      | (go_at_call 27; refine (owner25_any _ _ n H hl (by first | exact HV.out.below hbWN (Nat.le_refl _) | exact (HV.out.below hbWN (Nat.le_refl _)).alloc _) hn _).mono ?_; rintro e wO ⟨rfl, rfl⟩)
      | (go_at_call 29; refine (many25_any _ _ n H hl (by first | exact HV.out.below hbWN (Nat.le_refl _) | exact (HV.out.below hbWN (Nat.le_refl _)).alloc _) hn _ _ _ _).mono ?_; rintro e wN ⟨rfl, hbN⟩; have hbWN : Below w.heap.size w wN := (by first | exact hbWN.trans (hbN.mono (by have := hbWN.size; first | omega | (simp at this ⊢; omega))) | exact (hbWN.alloc hbWN.size _).trans (hbN.mono (by have := hbWN.size; simp; omega)) | exact bB.trans (hbN.mono bB.size)); have hk := keepC hbN (Nat.le_refl _); have hf := keepF hbN (Nat.le_refl _); have bZN : wN.heap[w.heap.size + 1]? = some (.cells #[.int .u32 0, .slice none 0 0, .bool false] 65) := (by first | exact obj_keep bZN hbN | exact obj_keep ((Below.heap_alloc _ _ _ (Array.getElem?_eq_some_iff.1 bZN).1).trans bZN) hbN | exact obj_keep bZ hbN); have hsZ : w.heap.size + 1 < wN.heap.size := (Array.getElem?_eq_some_iff.1 bZN).1; have hsZ2 : w.heap.size < wN.heap.size := by omega)
      | (go_at_call 28; refine (yes25_any _ _).mono ?_; rintro e wN ⟨rfl, hbN⟩; have hbWN : Below w.heap.size w wN := (by first | exact hbWN.trans (hbN.mono (by have := hbWN.size; first | omega | (simp at this ⊢; omega))) | exact (hbWN.alloc hbWN.size _).trans (hbN.mono (by have := hbWN.size; simp; omega)) | exact bB.trans (hbN.mono bB.size)); have hk := keepC hbN (Nat.le_refl _); have hf := keepF hbN (Nat.le_refl _); have bZN : wN.heap[w.heap.size + 1]? = some (.cells #[.int .u32 0, .slice none 0 0, .bool false] 65) := (by first | exact obj_keep bZN hbN | exact obj_keep ((Below.heap_alloc _ _ _ (Array.getElem?_eq_some_iff.1 bZN).1).trans bZN) hbN | exact obj_keep bZ hbN); have hsZ : w.heap.size + 1 < wN.heap.size := (Array.getElem?_eq_some_iff.1 bZN).1; have hsZ2 : w.heap.size < wN.heap.size := by omega))
  refine ret_yes rfl rfl rfl bZN hbWN (by omega) rfl

theorem d25_o9fre_r (th : Int) (H : List Stp) (o : Ob) (j : Nat) (who call part arg val : Int) (hP : AskP o.k o.n o.a o.b call th who) (p0 : part = 0) (p1 : o.k = 15) (p2 : call = 9) (p3 : ownH H ((j : Nat) : Int) ≠ who) (p4 : ¬ 0 < manyH H ((j : Nat) : Int) 10 0 (-1)) (p5 : ownH H ((j : Nat) : Int) < 0) : refOb th o H ⟨who, ((j : Nat) : Int), call, part, arg, val⟩ = some (5, []) := by
  have e0 : (part = 0) = True := by simp only [eq_iff_iff, iff_true, iff_false]; omega
  have e1 : (o.k = 6) = False := by simp only [eq_iff_iff, iff_true, iff_false]; omega
  have e2 : (o.k = 7) = False := by simp only [eq_iff_iff, iff_true, iff_false]; omega
  have e3 : (o.k = 9) = False := by simp only [eq_iff_iff, iff_true, iff_false]; omega
  have e4 : (o.k = 11) = False := by simp only [eq_iff_iff, iff_true, iff_false]; omega
  have e5 : (o.k = 12) = False := by simp only [eq_iff_iff, iff_true, iff_false]; omega
  have e6 : (o.k = 13) = False := by simp only [eq_iff_iff, iff_true, iff_false]; omega
  have e7 : (o.k = 14) = False := by simp only [eq_iff_iff, iff_true, iff_false]; omega
  have e8 : (o.k = 15) = True := by simp only [eq_iff_iff, iff_true, iff_false]; omega
  have e9 : (call = 4) = False := by simp only [eq_iff_iff, iff_true, iff_false]; omega
  have e10 : (call = 10) = False := by simp only [eq_iff_iff, iff_true, iff_false]; omega
  have e11 : (ownH H ((j : Nat) : Int) = who) = False := by simp only [eq_iff_iff, iff_true, iff_false]; omega
  have e12 : (0 < manyH H ((j : Nat) : Int) 10 0 (-1)) = False := by simp only [eq_iff_iff, iff_true, iff_false]; omega
  have e13 : (0 ≤ ownH H ((j : Nat) : Int)) = False := by simp only [eq_iff_iff, iff_true, iff_false]; omega
  simp [refOb, refOnce, hP, e0, e1, e2, e3, e4, e5, e6, e7, e8, e9, e10, e11, e12, e13]
set_option maxHeartbeats 1000000 in
theorem d25_o9fre (w : World) (vl : Value) (m : Nat) (obs : List Ob) (hI : InO w vl m obs) (hm : m ≤ 1000000) (th : Int) (v : Value) (n : Nat) (H : List Stp) (hl : H.length = n) (h : Rd w 7 v n (flatS H)) (hn : n ≤ 1000000) (o : Ob) (j : Nat) (who call part arg val : Int) (ho : obs[j]? = some o) (hx0 : 0 ≤ arg) (hx1 : arg ≤ 4294967295) (hP : AskP o.k o.n o.a o.b call th who) (p0 : part = 0) (p1 : o.k = 15) (p2 : call = 9) (p3 : ownH H ((j : Nat) : Int) ≠ who) (p4 : ¬ 0 < manyH H ((j : Nat) : Int) 10 0 (-1)) (p5 : ownH H ((j : Nat) : Int) < 0) :
    Calls Tryd.prog 12 #[vl, .int .i64 th, v, .agg #[.int .i64 who, .int .i64 ((j : Nat) : Int), .int .i64 call, .int .i64 part, .int .u32 arg, .int .u32 val]] w (AnsPost w (refOb th o H ⟨who, ((j : Nat) : Int), call, part, arg, val⟩)) := by
  have dA : decide (AskP o.k o.n o.a o.b call th who) = true := decide_eq_true hP
  rw [d25_o9fre_r th H o j who call part arg val hP p0 p1 p2 p3 p4 p5]
  have q0 : (part != 0) = false := by simp; omega
  have q1 : (o.k == 6) = false := by simp; omega
  have q2 : (o.k == 7) = false := by simp; omega
  have q3 : (o.k == 9) = false := by simp; omega
  have q4 : (o.k == 11) = false := by simp; omega
  have q5 : (o.k == 12) = false := by simp; omega
  have q6 : (o.k == 13) = false := by simp; omega
  have q7 : (o.k == 14) = false := by simp; omega
  have q8 : (o.k == 15) = true := by simp; omega
  have q9 : (call == 4) = false := by simp; omega
  have q10 : (call == 10) = false := by simp; omega
  have q11 : (ownH H ((j : Nat) : Int) == who) = false := by simp; omega
  have q12 : decide (0 < manyH H ((j : Nat) : Int) 10 0 (-1)) = false := by exact decide_eq_false (by omega)
  have q13 : decide (0 ≤ ownH H ((j : Nat) : Int)) = false := by exact decide_eq_false (by omega)
  clear hP p0 p1 p2 p3 p4 p5
  obtain ⟨A, cap, rfl⟩ := h.form
  have HI := Lib.hid hI
  obtain ⟨hml, oA, ocap, rfl, _⟩ := hI
  have HV := Lib.hid h
  have e1 : IntKind.i64.wrap arg = arg := by rw [IntKind.wrap_i64]; omega
  have hjm : j < m := by rw [← hml]; exact (List.getElem?_eq_some_iff.1 ho).1
  have f1 : decide (((j : Nat) : Int) < 0) = false := decide_eq_false (by omega)
  have f2 : decide ((m : Int) ≤ ((j : Nat) : Int)) = false := decide_eq_false (by omega)
  have f3 : decide (m ≤ j) = false := decide_eq_false (by omega)
  obtain ⟨b0, off0, rfl, hb0, _⟩ := InO.at HI.out ho
  obtain ⟨bX, bZ, bB, bS⟩ := blk2 w (.cells #[.int .i64 who, .int .i64 ((j : Nat) : Int), .int .i64 call, .int .i64 part, .int .u32 arg, .int .u32 val] 36) (.cells #[.int .u32 0, .slice none 0 0, .bool false] 65)
  have HO := Lib.hid ho

  go_enter Tryd.func12, Tryd.ntmps12
  go_wp2_with fail
  go_region_held (fun w' => w'.cell? ⟨w.heap.size, 0, none⟩ = some (.int .i64 who) ∧ w'.cell? ⟨w.heap.size, 1, none⟩ = some (.int .i64 ((j : Nat) : Int)) ∧ w'.cell? ⟨w.heap.size, 2, none⟩ = some (.int .i64 call) ∧ w'.cell? ⟨b0, off0 + j * 4, none⟩ = some (.int .i64 o.k) ∧ w'.cell? ⟨b0, off0 + j * 4 + 1, none⟩ = some (.int .i64 o.n) ∧ w'.cell? ⟨b0, off0 + j * 4 + 2, none⟩ = some (.int .i64 o.a) ∧ w'.cell? ⟨b0, off0 + j * 4 + 3, none⟩ = some (.int .i64 o.b))
    (first | exact hold25 bXN (HI.out.below hbWN (Nat.le_refl _)) HO.out | exact hold25 (show ((w.alloc (.cells #[.int .i64 who, .int .i64 ((j : Nat) : Int), .int .i64 call, .int .i64 part, .int .u32 arg, .int .u32 val] 36)).alloc (.cells #[.int .u32 0, .slice none 0 0, .bool false] 65)).drew.heap[w.heap.size]? = _ from bX) (InO.drew (HI.out.below bB (Nat.le_refl _))) HO.out)
    (first | (go_at_call 25; refine (may15_any _ _ _ _ _ _ _ _).mono ?_; rintro e wN ⟨rfl, hbN⟩; have hbW2 : Below ((w.alloc (.cells #[.int .i64 who, .int .i64 ((j : Nat) : Int), .int .i64 call, .int .i64 part, .int .u32 arg, .int .u32 val] 36)).alloc (.cells #[.int .u32 0, .slice none 0 0, .bool false] 65)).heap.size ((w.alloc (.cells #[.int .i64 who, .int .i64 ((j : Nat) : Int), .int .i64 call, .int .i64 part, .int .u32 arg, .int .u32 val] 36)).alloc (.cells #[.int .u32 0, .slice none 0 0, .bool false] 65)) wN := (bl_drew (Below.refl _ ((w.alloc (.cells #[.int .i64 who, .int .i64 ((j : Nat) : Int), .int .i64 call, .int .i64 part, .int .u32 arg, .int .u32 val] 36)).alloc (.cells #[.int .u32 0, .slice none 0 0, .bool false] 65)))).trans hbN; have hbWN := bB.trans (hbW2.mono bB.size); have bXN := obj_keep bX hbW2))
  have bZN := obj_keep bZ hbW2
  have hkx := cells6 bXN
  obtain ⟨xc0, xc1, xc2, xc3, xc4, xc5⟩ := hkx
  obtain ⟨zc0, zc1, zc2⟩ := cells3 bZN
  have zf0 : wN.frozen? ⟨w.heap.size + 1, 0, none⟩ = false := frozen_of_row _ _ _ _ _ bZN
  have zf1 : wN.frozen? ⟨w.heap.size + 1, 1, none⟩ = false := frozen_of_row _ _ _ _ _ bZN
  have zf2 : wN.frozen? ⟨w.heap.size + 1, 2, none⟩ = false := frozen_of_row _ _ _ _ _ bZN
  obtain ⟨hb9, oc0, oc1, oc2, oc3⟩ := InO.at2 (HI.out.below hbWN (Nat.le_refl _)) HO.out
  have hsN : w.heap.size + 1 < wN.heap.size := (Array.getElem?_eq_some_iff.1 bZN).1
  have hsX : w.heap.size < wN.heap.size := by omega
  go_wp2_with (first
      | (go_at_call 27; refine (owner25_any _ _ n H hl (by first | exact HV.out.below hbWN (Nat.le_refl _) | exact (HV.out.below hbWN (Nat.le_refl _)).alloc _) hn _).mono ?_; rintro e wO ⟨rfl, rfl⟩)
      | (go_at_call 29; refine (many25_any _ _ n H hl (by first | exact HV.out.below hbWN (Nat.le_refl _) | exact (HV.out.below hbWN (Nat.le_refl _)).alloc _) hn _ _ _ _).mono ?_; rintro e wN ⟨rfl, hbN⟩; have hbWN : Below w.heap.size w wN := (by first | exact hbWN.trans (hbN.mono (by have := hbWN.size; first | omega | (simp at this ⊢; omega))) | exact (hbWN.alloc hbWN.size _).trans (hbN.mono (by have := hbWN.size; simp; omega)) | exact bB.trans (hbN.mono bB.size)); have hk := keepC hbN (Nat.le_refl _); have hf := keepF hbN (Nat.le_refl _); have bZN : wN.heap[w.heap.size + 1]? = some (.cells #[.int .u32 0, .slice none 0 0, .bool false] 65) := (by first | exact obj_keep bZN hbN | exact obj_keep ((Below.heap_alloc _ _ _ (Array.getElem?_eq_some_iff.1 bZN).1).trans bZN) hbN | exact obj_keep bZ hbN); have hsZ : w.heap.size + 1 < wN.heap.size := (Array.getElem?_eq_some_iff.1 bZN).1; have hsZ2 : w.heap.size < wN.heap.size := by omega)
      | (go_at_call 28; refine (yes25_any _ _).mono ?_; rintro e wN ⟨rfl, hbN⟩; have hbWN : Below w.heap.size w wN := (by first | exact hbWN.trans (hbN.mono (by have := hbWN.size; first | omega | (simp at this ⊢; omega))) | exact (hbWN.alloc hbWN.size _).trans (hbN.mono (by have := hbWN.size; simp; omega)) | exact bB.trans (hbN.mono bB.size)); have hk := keepC hbN (Nat.le_refl _); have hf := keepF hbN (Nat.le_refl _); have bZN : wN.heap[w.heap.size + 1]? = some (.cells #[.int .u32 0, .slice none 0 0, .bool false] 65) := (by first | exact obj_keep bZN hbN | exact obj_keep ((Below.heap_alloc _ _ _ (Array.getElem?_eq_some_iff.1 bZN).1).trans bZN) hbN | exact obj_keep bZ hbN); have hsZ : w.heap.size + 1 < wN.heap.size := (Array.getElem?_eq_some_iff.1 bZN).1; have hsZ2 : w.heap.size < wN.heap.size := by omega))
  refine ret_yes rfl rfl rfl bZN hbWN (by omega) rfl

end Go.Proofs.YtfemeiopfpblaaaDoor.As
