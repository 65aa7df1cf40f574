/- The walks of the package deadlatchref25: what a call answers behind all that was done, of a sequence lock that is read. -/
import Derived.Test.YtfemeiopfpblaaaDoorHjR9
set_option linter.unusedVariables false
set_option linter.unusedSimpArgs false
set_option maxRecDepth 20000
namespace Go.Proofs.YtfemeiopfpblaaaDoor.As
open Go.RowKit

theorem data25_at (w : World) (v : Value) (n : Nat) (H : List Stp) (hl : H.length = n) (h : Rd w 7 v n (flatS H)) (hn : n ≤ 1000000) (j N : Int) (k : Nat) (hN : N = k) (hk : k ≤ 3) (hput : ∀ s ∈ H, s.x.obj = j → s.x.call = 4 → 0 ≤ s.x.arg ∧ s.x.arg < k) :
    Calls Tryd.prog 30 #[v, .int .i64 j, .int .i64 N] w fun e w' => ∃ u, e = .returned u ∧ (dataH H j N).length = k ∧ w'.ownsRow w.heap.size 30 1 u k (ints32 (dataH H j N)) ∧ Below w.heap.size w w' := by
  subst hN
  exact data25_any w v n H hl h hn j k hk hput

set_option maxHeartbeats 2000000 in
theorem d25_data (w : World) (vl : Value) (m : Nat) (obs : List Ob) (hI : InO w vl m obs) (hm : m ≤ 1000000) (th : Int) (v : Value) (n : Nat) (H : List Stp) (hl : H.length = n) (h : Rd w 7 v n (flatS H)) (hn : n ≤ 1000000) (o : Ob) (j : Nat) (who call part arg val : Int) (ho : obs[j]? = some o) (hx0 : 0 ≤ arg) (hx1 : arg ≤ 4294967295) (hP : AskP o.k o.n o.a o.b call th who) (p0 : part = 0) (p1 : o.k = 9) (p2 : call = 3) (kn : Nat) (hkn : o.n = kn) (hk3 : kn ≤ 3) (hput : ∀ s ∈ H, s.x.obj = ((j : Nat) : Int) → s.x.call = 4 → 0 ≤ s.x.arg ∧ s.x.arg < kn) :
    Calls Tryd.prog 12 #[vl, .int .i64 th, v, .agg #[.int .i64 who, .int .i64 ((j : Nat) : Int), .int .i64 call, .int .i64 part, .int .u32 arg, .int .u32 val]] w (AnsPost w (refOb th o H ⟨who, ((j : Nat) : Int), call, part, arg, val⟩)) := by
  have dA : decide (AskP o.k o.n o.a o.b call th who) = true := decide_eq_true hP
  have hr : refOb th o H ⟨who, ((j : Nat) : Int), call, part, arg, val⟩ = some (0, dataH H ((j : Nat) : Int) o.n) := by
    unfold refOb
    rw [if_pos hP, if_neg (c := o.k = 13) (by omega), if_neg (fun e => by rcases e with e | e; exact e p0; have := e.1; dsimp only at this; omega), if_neg (c := o.k = 12) (by omega), if_neg (c := o.k = 11) (by omega), if_neg (c := (o.k = 6 ∨ o.k = 7) ∧ _) (by omega), if_pos (c := o.k = 9 ∧ _) ⟨p1, p2⟩]
  rw [hr]
  have HKN := Lib.hid hkn
  have q0 : (part != 0) = false := by simp; omega
  have q1 : (o.k == 6) = false := by simp; omega
  have q2 : (o.k == 7) = false := by simp; omega
  have q3 : (o.k == 9) = true := by simp; omega
  have q4 : (o.k == 11) = false := by simp; omega
  have q5 : (o.k == 12) = false := by simp; omega
  have q6 : (o.k == 13) = false := by simp; omega
  have q7 : (o.k == 14) = false := by simp; omega
  have q8 : (o.k == 15) = false := by simp; omega
  have q9 : (call == 4) = false := by simp; omega
  have q10 : (call == 3) = true := by simp; omega
  clear hP p0 p1 p2 hr hkn
  obtain ⟨A, cap, rfl⟩ := h.form
  have HI := Lib.hid hI
  obtain ⟨hml, oA, ocap, rfl, _⟩ := hI
  have HV := Lib.hid h
  have e1 : IntKind.i64.wrap arg = arg := by rw [IntKind.wrap_i64]; omega
  have hjm : j < m := by rw [← hml]; exact (List.getElem?_eq_some_iff.1 ho).1
  have f1 : decide (((j : Nat) : Int) < 0) = false := decide_eq_false (by omega)
  have f2 : decide ((m : Int) ≤ ((j : Nat) : Int)) = false := decide_eq_false (by omega)
  have f3 : decide (m ≤ j) = false := decide_eq_false (by omega)
  obtain ⟨b0, off0, rfl, hb0, _⟩ := InO.at HI.out ho
  obtain ⟨bX, bZ, bB, bS⟩ := blk2 w (.cells #[.int .i64 who, .int .i64 ((j : Nat) : Int), .int .i64 call, .int .i64 part, .int .u32 arg, .int .u32 val] 36) (.cells #[.int .u32 0, .slice none 0 0, .bool false] 65)
  have HO := Lib.hid ho
  go_enter Tryd.func12, Tryd.ntmps12
  go_wp2_with fail
  go_region_held (fun w' => w'.cell? ⟨w.heap.size, 0, none⟩ = some (.int .i64 who) ∧ w'.cell? ⟨w.heap.size, 1, none⟩ = some (.int .i64 ((j : Nat) : Int)) ∧ w'.cell? ⟨w.heap.size, 2, none⟩ = some (.int .i64 call) ∧ w'.cell? ⟨b0, off0 + j * 4, none⟩ = some (.int .i64 o.k) ∧ w'.cell? ⟨b0, off0 + j * 4 + 1, none⟩ = some (.int .i64 o.n) ∧ w'.cell? ⟨b0, off0 + j * 4 + 2, none⟩ = some (.int .i64 o.a) ∧ w'.cell? ⟨b0, off0 + j * 4 + 3, none⟩ = some (.int .i64 o.b))
    (first | exact hold25 bXN (HI.out.below hbWN (Nat.le_refl _)) HO.out | exact hold25 (show ((w.alloc (.cells #[.int .i64 who, .int .i64 ((j : Nat) : Int), .int .i64 call, .int .i64 part, .int .u32 arg, .int .u32 val] 36)).alloc (.cells #[.int .u32 0, .slice none 0 0, .bool false] 65)).drew.heap[w.heap.size]? = _ from bX) (InO.drew (HI.out.below bB (Nat.le_refl _))) HO.out)
    (first | (go_at_call 25; refine (may15_any _ _ _ _ _ _ _ _).mono ?_; rintro e wN ⟨rfl, hbN⟩; have hbW2 : Below ((w.alloc (.cells #[.int .i64 who, .int .i64 ((j : Nat) : Int), .int .i64 call, .int .i64 part, .int .u32 arg, .int .u32 val] 36)).alloc (.cells #[.int .u32 0, .slice none 0 0, .bool false] 65)).heap.size ((w.alloc (.cells #[.int .i64 who, .int .i64 ((j : Nat) : Int), .int .i64 call, .int .i64 part, .int .u32 arg, .int .u32 val] 36)).alloc (.cells #[.int .u32 0, .slice none 0 0, .bool false] 65)) wN := (bl_drew (Below.refl _ ((w.alloc (.cells #[.int .i64 who, .int .i64 ((j : Nat) : Int), .int .i64 call, .int .i64 part, .int .u32 arg, .int .u32 val] 36)).alloc (.cells #[.int .u32 0, .slice none 0 0, .bool false] 65)))).trans hbN; have hbWN := bB.trans (hbW2.mono bB.size); have bXN := obj_keep bX hbW2))
  have bZN := obj_keep bZ hbW2
  have hkx := cells6 bXN
  obtain ⟨xc0, xc1, xc2, xc3, xc4, xc5⟩ := hkx
  obtain ⟨zc0, zc1, zc2⟩ := cells3 bZN
  have zf0 : wN.frozen? ⟨w.heap.size + 1, 0, none⟩ = false := frozen_of_row _ _ _ _ _ bZN
  have zf1 : wN.frozen? ⟨w.heap.size + 1, 1, none⟩ = false := frozen_of_row _ _ _ _ _ bZN
  have zf2 : wN.frozen? ⟨w.heap.size + 1, 2, none⟩ = false := frozen_of_row _ _ _ _ _ bZN
  obtain ⟨hb9, oc0, oc1, oc2, oc3⟩ := InO.at2 (HI.out.below hbWN (Nat.le_refl _)) HO.out
  have hsN : w.heap.size + 1 < wN.heap.size := (Array.getElem?_eq_some_iff.1 bZN).1
  have hsX : w.heap.size < wN.heap.size := by omega
  go_wp2_with (first
      | (go_at_call 27; refine (owner25_any _ _ n H hl (by first | exact HV.out.below hbWN (Nat.le_refl _) | exact (HV.out.below hbWN (Nat.le_refl _)).alloc _) hn _).mono ?_; rintro e wO ⟨rfl, rfl⟩)
      | (go_at_call 30; refine (data25_at _ _ n H hl ((HV.out.below hbWN (Nat.le_refl _)).alloc _) hn _ _ kn HKN.out hk3 hput).mono ?_; rintro e wD ⟨u, rfl, hdl, hou, hbD⟩; have hk := keepC hbD (Nat.le_refl _); have hf := keepF hbD (Nat.le_refl _); have bZD := obj_keep ((Below.heap_alloc _ _ _ hsN).trans bZN) hbD; have hbw := (hbWN.alloc hbWN.size _).trans (hbD.mono (hbWN.alloc hbWN.size _).size); obtain ⟨uA, uc, rfl⟩ := (Rd.of_own hou).form))
  have hou3 := own_set3 hou (R := w.heap.size + 1) (by simp; omega) (.int .u32 0) (.slice uA kn uc) (.bool true)
  refine bodyPost_ret (results_ans rfl _ _ (w.heap.size + 1) _ _ _ (set3_row bZD _ _ _) rfl) rfl ?_
  refine ⟨_, rfl, ?_, set3_below hbw (by omega) _ _ _⟩
  have hlen : (ansD (some ((0 : Int), dataH H ((j : Nat) : Int) o.n))).length = kn := hdl
  rw [hlen]
  exact Rd.of_own hou3

end Go.Proofs.YtfemeiopfpblaaaDoor.As
