/- The walks of the package deadlatchref25: what a call answers behind all that was done, of a lock that many may read, whose readers are asked one by one. -/
import Derived.Test.YtfemeiopfpblaaaDoorHjR5
set_option linter.unusedVariables false
set_option linter.unusedSimpArgs false
set_option maxRecDepth 20000
namespace Go.Proofs.YtfemeiopfpblaaaDoor.As
open Go.RowKit

set_option maxHeartbeats 2000000 in
theorem d25_rloop (w : World) (vl : Value) (m : Nat) (obs : List Ob) (hI : InO w vl m obs) (hm : m ≤ 1000000) (th : Int) (v : Value) (n : Nat) (H : List Stp) (hl : H.length = n) (h : Rd w 7 v n (flatS H)) (hn : n ≤ 1000000) (o : Ob) (j : Nat) (who call part arg val : Int) (ho : obs[j]? = some o) (hx0 : 0 ≤ arg) (hx1 : arg ≤ 4294967295) (hP : AskP o.k o.n o.a o.b call th who) (p0 : part = 0) (p1 : o.k = 14) (p2 : call ≠ 2) (p3 : call ≠ 4) (p4 : ownH H ((j : Nat) : Int) ≠ who) (p5 : readH H ((j : Nat) : Int) who = false) :
    Calls Tryd.prog 12 #[vl, .int .i64 th, v, .agg #[.int .i64 who, .int .i64 ((j : Nat) : Int), .int .i64 call, .int .i64 part, .int .u32 arg, .int .u32 val]] w (AnsPost w (refOb th o H ⟨who, ((j : Nat) : Int), call, part, arg, val⟩)) := by
  have dA : decide (AskP o.k o.n o.a o.b call th who) = true := decide_eq_true hP
  obtain ⟨r, hr⟩ : ∃ r, r = refOb th o H ⟨who, ((j : Nat) : Int), call, part, arg, val⟩ := ⟨_, rfl⟩
  rw [← hr]
  have q0 : (part != 0) = false := by simp; omega
  have q1 : (o.k == 6) = false := by simp; omega
  have q2 : (o.k == 7) = false := by simp; omega
  have q3 : (o.k == 9) = false := by simp; omega
  have q4 : (o.k == 11) = false := by simp; omega
  have q5 : (o.k == 12) = false := by simp; omega
  have q6 : (o.k == 13) = false := by simp; omega
  have q7 : (o.k == 14) = true := by simp; omega
  have q8 : (o.k == 15) = false := by simp; omega
  have q9 : (call == 4) = false := by simp; omega
  have q10 : (call == 2) = false := by simp; omega
  have q11 : (ownH H ((j : Nat) : Int) == who) = false := by simp; omega
  have HR : Hid (r = if (List.range th.toNat).any (fun t => decide (ownH H ((j : Nat) : Int) = t) || (decide (call = 1) && readH H ((j : Nat) : Int) t)) = true then none else some (0, [])) := by
    show r = _
    rw [hr]; unfold refOb
    rw [if_pos hP, if_neg (c := o.k = 13) (by omega), if_neg (fun e => by rcases e with e | e; exact e p0; exact p3 e.1), if_neg (c := o.k = 12) (by omega), if_neg (c := o.k = 11) (by omega), if_neg (c := (o.k = 6 ∨ o.k = 7) ∧ _) (by omega), if_neg (c := o.k = 9 ∧ _) (by omega), if_pos (c := o.k = 14) p1]
    unfold refRw
    rw [if_neg p2, if_neg (fun e => by rcases e with e | e; exact p4 e; (rw [p5] at e; cases e))]
  have hth8 : th ≤ 8 := hP.1.2.1
  clear hP hr p0 p1 p2 p3 p4
  obtain ⟨A, cap, rfl⟩ := h.form
  have HI := Lib.hid hI
  obtain ⟨hml, oA, ocap, rfl, _⟩ := hI
  have HV := Lib.hid h
  have e1 : IntKind.i64.wrap arg = arg := by rw [IntKind.wrap_i64]; omega
  have hjm : j < m := by rw [← hml]; exact (List.getElem?_eq_some_iff.1 ho).1
  have f1 : decide (((j : Nat) : Int) < 0) = false := decide_eq_false (by omega)
  have f2 : decide ((m : Int) ≤ ((j : Nat) : Int)) = false := decide_eq_false (by omega)
  have f3 : decide (m ≤ j) = false := decide_eq_false (by omega)
  obtain ⟨b0, off0, rfl, hb0, _⟩ := InO.at HI.out ho
  obtain ⟨bX, bZ, bB, bS⟩ := blk2 w (.cells #[.int .i64 who, .int .i64 ((j : Nat) : Int), .int .i64 call, .int .i64 part, .int .u32 arg, .int .u32 val] 36) (.cells #[.int .u32 0, .slice none 0 0, .bool false] 65)
  have HO := Lib.hid ho
  go_enter Tryd.func12, Tryd.ntmps12
  go_wp2_with fail
  go_region_held (fun w' => w'.cell? ⟨w.heap.size, 0, none⟩ = some (.int .i64 who) ∧ w'.cell? ⟨w.heap.size, 1, none⟩ = some (.int .i64 ((j : Nat) : Int)) ∧ w'.cell? ⟨w.heap.size, 2, none⟩ = some (.int .i64 call) ∧ w'.cell? ⟨b0, off0 + j * 4, none⟩ = some (.int .i64 o.k) ∧ w'.cell? ⟨b0, off0 + j * 4 + 1, none⟩ = some (.int .i64 o.n) ∧ w'.cell? ⟨b0, off0 + j * 4 + 2, none⟩ = some (.int .i64 o.a) ∧ w'.cell? ⟨b0, off0 + j * 4 + 3, none⟩ = some (.int .i64 o.b))
    (first | exact hold25 bXN (HI.out.below hbWN (Nat.le_refl _)) HO.out | exact hold25 (show ((w.alloc (.cells #[.int .i64 who, .int .i64 ((j : Nat) : Int), .int .i64 call, .int .i64 part, .int .u32 arg, .int .u32 val] 36)).alloc (.cells #[.int .u32 0, .slice none 0 0, .bool false] 65)).drew.heap[w.heap.size]? = _ from bX) (InO.drew (HI.out.below bB (Nat.le_refl _))) HO.out)
    (first | (go_at_call 25; refine (may15_any _ _ _ _ _ _ _ _).mono ?_; rintro e wN ⟨rfl, hbN⟩; have hbW2 : Below ((w.alloc (.cells #[.int .i64 who, .int .i64 ((j : Nat) : Int), .int .i64 call, .int .i64 part, .int .u32 arg, .int .u32 val] 36)).alloc (.cells #[.int .u32 0, .slice none 0 0, .bool false] 65)).heap.size ((w.alloc (.cells #[.int .i64 who, .int .i64 ((j : Nat) : Int), .int .i64 call, .int .i64 part, .int .u32 arg, .int .u32 val] 36)).alloc (.cells #[.int .u32 0, .slice none 0 0, .bool false] 65)) wN := (bl_drew (Below.refl _ ((w.alloc (.cells #[.int .i64 who, .int .i64 ((j : Nat) : Int), .int .i64 call, .int .i64 part, .int .u32 arg, .int .u32 val] 36)).alloc (.cells #[.int .u32 0, .slice none 0 0, .bool false] 65)))).trans hbN; have hbWN := bB.trans (hbW2.mono bB.size); have bXN := obj_keep bX hbW2))
  have bZN := obj_keep bZ hbW2
  have hkx := cells6 bXN
  obtain ⟨xc0, xc1, xc2, xc3, xc4, xc5⟩ := hkx
  obtain ⟨zc0, zc1, zc2⟩ := cells3 bZN
  have zf0 : wN.frozen? ⟨w.heap.size + 1, 0, none⟩ = false := frozen_of_row _ _ _ _ _ bZN
  have zf1 : wN.frozen? ⟨w.heap.size + 1, 1, none⟩ = false := frozen_of_row _ _ _ _ _ bZN
  have zf2 : wN.frozen? ⟨w.heap.size + 1, 2, none⟩ = false := frozen_of_row _ _ _ _ _ bZN
  obtain ⟨hb9, oc0, oc1, oc2, oc3⟩ := InO.at2 (HI.out.below hbWN (Nat.le_refl _)) HO.out
  have hsN : w.heap.size + 1 < wN.heap.size := (Array.getElem?_eq_some_iff.1 bZN).1
  have hsX : w.heap.size < wN.heap.size := by omega
  go_wp2_with (first
      | (go_at_call 27; refine (owner25_any _ _ n H hl (by first | exact HV.out.below hbWN (Nat.le_refl _) | exact (HV.out.below hbWN (Nat.le_refl _)).alloc _) hn _).mono ?_; rintro e wO ⟨rfl, rfl⟩)
      | (go_at_call 31; refine (reads25_any _ _ n H hl (by first | exact HV.out.below hbWN (Nat.le_refl _) | exact (HV.out.below hbWN (Nat.le_refl _)).alloc _) hn _ _).mono ?_; rintro e wO ⟨rfl, rfl⟩))
  have HZ := Lib.hid bZN
  have HW := Lib.hid hbWN
  go_loopw [13] (fun iv wr => ∃ i : Nat, (i : Int) ≤ max th 0 ∧ iv = .int .i64 i ∧ Hid (∀ t, t < i → ownH H ((j : Nat) : Int) ≠ (t : Int) ∧ ¬ (call = 1 ∧ readH H ((j : Nat) : Int) t = true)) ∧ wN.alloc (.cells #[.int .i64 o.k, .int .i64 o.n, .int .i64 o.a, .int .i64 o.b] 48) = wr) (fun i _ => th.toNat - (intOf i).toNat)
  case atStart => exact ⟨0, by omega, rfl, fun t ht => by omega, rfl⟩
  case round =>
    obtain ⟨i, hiN, rfl, HA, rfl⟩ := hrel
    by_cases hlt : (i : Int) < th
    · have dlt : decide ((i : Int) < th) = true := decide_eq_true hlt
      by_cases c1 : ownH H ((j : Nat) : Int) = (i : Int)
      · have g1 : (ownH H ((j : Nat) : Int) == (i : Int)) = true := by simp [c1]
        obtain rfl : r = none := by
          rw [HR.out, if_pos (List.any_eq_true.2 ⟨i, List.mem_range.2 (by omega), by rw [Bool.or_eq_true, decide_eq_true_eq]; exact .inl c1⟩)]
        clear c1 HR
        go_wp2_with fail
        refine ret_no2 rfl rfl rfl HZ.out HW.out (by omega) rfl
      · have g1 : (ownH H ((j : Nat) : Int) == (i : Int)) = false := by simp [c1]
        by_cases c2 : call = 1
        · have g2 : (call == 1) = true := by simp [c2]
          cases hb : readH H ((j : Nat) : Int) (i : Int) with
          | true =>
            obtain rfl : r = none := by
              rw [HR.out, if_pos (List.any_eq_true.2 ⟨i, List.mem_range.2 (by omega), by rw [Bool.or_eq_true, Bool.and_eq_true, decide_eq_true_eq, decide_eq_true_eq]; exact .inr ⟨c2, hb⟩⟩)]
            clear c1 c2 HR
            go_wp2_with (go_at_call 31; refine (reads25_any _ _ n H hl (by first | exact HV.out.below hbWN (Nat.le_refl _) | exact (HV.out.below hbWN (Nat.le_refl _)).alloc _) hn _ _).mono ?_; rintro e wO ⟨rfl, rfl⟩)
            refine ret_no2 rfl rfl rfl HZ.out HW.out (by omega) rfl
          | false =>
            have HA1 : Hid (∀ t, t < i + 1 → ownH H ((j : Nat) : Int) ≠ (t : Int) ∧ ¬ (call = 1 ∧ readH H ((j : Nat) : Int) t = true)) := by
              intro t ht
              by_cases e : t = i
              · subst e; exact ⟨c1, fun e => by rw [hb] at e; cases e.2⟩
              · exact HA.out t (by omega)
            clear c1 c2
            go_wp2_with (go_at_call 31; refine (reads25_any _ _ n H hl (by first | exact HV.out.below hbWN (Nat.le_refl _) | exact (HV.out.below hbWN (Nat.le_refl _)).alloc _) hn _ _).mono ?_; rintro e wO ⟨rfl, rfl⟩)
            exact ⟨⟨i + 1, by omega, by simp, HA1, (by first | rfl | trivial)⟩, by simp [intOf]; omega⟩
        · have g2 : (call == 1) = false := by simp [c2]
          have HA1 : Hid (∀ t, t < i + 1 → ownH H ((j : Nat) : Int) ≠ (t : Int) ∧ ¬ (call = 1 ∧ readH H ((j : Nat) : Int) t = true)) := by
            intro t ht
            by_cases e : t = i
            · subst e; exact ⟨c1, fun e => c2 e.1⟩
            · exact HA.out t (by omega)
          clear c1 c2
          go_wp2_with fail
          exact ⟨⟨i + 1, by omega, by simp, HA1, (by first | rfl | trivial)⟩, by simp [intOf]; omega⟩
    · have dlt : decide ((i : Int) < th) = false := decide_eq_false hlt
      obtain rfl : r = some (0, []) := by
        rw [HR.out, if_neg]
        intro e
        obtain ⟨t, ht, hp⟩ := List.any_eq_true.1 e
        have h1 := HA.out t (by have := List.mem_range.1 ht; omega)
        rw [Bool.or_eq_true, Bool.and_eq_true, decide_eq_true_eq, decide_eq_true_eq] at hp
        rcases hp with hp | hp
        · exact h1.1 hp
        · exact h1.2 hp
      clear HR
      go_wp2_with (go_at_call 28; refine (yes25_any _ _).mono ?_; rintro e wN ⟨rfl, hbN⟩; have hbWN : Below w.heap.size w wN := (by first | exact hbWN.trans (hbN.mono (by have := hbWN.size; simp at this ⊢; omega)) | exact (hbWN.alloc hbWN.size _).trans (hbN.mono (by have := hbWN.size; simp; omega)) | exact bB.trans (hbN.mono bB.size)); have hk := keepC hbN (Nat.le_refl _); have hf := keepF hbN (Nat.le_refl _); have bZN : wN.heap[w.heap.size + 1]? = some (.cells #[.int .u32 0, .slice none 0 0, .bool false] 65) := (by first | exact obj_keep bZN hbN | exact obj_keep ((Below.heap_alloc _ _ _ (Array.getElem?_eq_some_iff.1 bZN).1).trans bZN) hbN | exact obj_keep bZ hbN))
      refine ret_yes rfl rfl rfl bZN hbWN (by omega) rfl

end Go.Proofs.YtfemeiopfpblaaaDoor.As
