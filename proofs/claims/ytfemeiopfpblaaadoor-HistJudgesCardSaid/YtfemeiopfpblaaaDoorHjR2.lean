/- The walks of the package deadlatchref25: who reads; how many. -/
import Derived.Test.YtfemeiopfpblaaaDoorHjR1
set_option linter.unusedVariables false
set_option linter.unusedSimpArgs false
set_option maxRecDepth 20000
namespace Go.Proofs.YtfemeiopfpblaaaDoor.As
open Go.RowKit

set_option maxHeartbeats 4000000 in
theorem reads25_any (w : World) (v : Value) (n : Nat) (H : List Stp) (hl : H.length = n) (h : Rd w 7 v n (flatS H)) (hn : n ≤ 1000000) (j t : Int) :
    Calls Tryd.prog 31 #[v, .int .i64 j, .int .i64 t] w fun e w' => e = .returned (.bool (readH H j t)) ∧ w' = w := by
  obtain ⟨A, cap, rfl⟩ := h.form
  have HV := Lib.hid h
  obtain ⟨r, hr⟩ : ∃ r, r = readH H j t := ⟨_, rfl⟩
  rw [← hr]
  have HR : Hid (r = (H.drop 0).foldl (readStep j t) false) := hr
  clear hr h
  go_enter Tryd.func31, Tryd.ntmps31
  go_wp2_with fail
  go_loopw [7, 8] (fun ov iv wr => ∃ (i : Nat) (m : Bool), i ≤ n ∧ ov = .bool m ∧ iv = .int .i64 i ∧ w = wr ∧ Hid (r = (H.drop i).foldl (readStep j t) m)) (fun _ i _ => n - (intOf i).toNat)
  case atStart => exact ⟨0, false, by omega, rfl, rfl, rfl, HR⟩
  case round =>
    clear HR
    obtain ⟨i, m, hin, rfl, rfl, rfl, HE⟩ := hrel
    by_cases hlt : i < n
    · obtain ⟨x, hx⟩ : ∃ x, H[i]? = some x := ⟨_, List.getElem?_eq_getElem (by omega)⟩
      obtain ⟨b1, o1, rfl, hb1, c0, c1, c2, c3, c4, c5, c6⟩ := stp_cells HV.out hx (by omega)
      have hE := HE.out
      rw [drop_one _ _ _ hx, List.foldl_cons] at hE
      have HE1 := Lib.hid hE
      clear hE HE hx
      go_wp2_with fail
      all_goals refine ⟨⟨i + 1, _, by omega, rfl, by simp, (by first | rfl | trivial), ?_⟩, by simp [intOf]; omega⟩
      all_goals have hE := HE1.out
      all_goals clear HE1 HV c0 c1 c2 c3 c4 c5 c6
      all_goals show r = _
      all_goals rw [hE]
      all_goals congr 1
      all_goals clear hE
      all_goals (try simp only [beq_iff_eq, beq_eq_false_iff_ne, bne_iff_ne, bne_eq_false_iff_eq, ne_eq, decide_eq_true_eq, decide_eq_false_iff_not] at *)
      all_goals unfold readStep
      all_goals (try dsimp only)
      all_goals (repeat' split)
      all_goals first | omega | rfl | (exfalso; omega)
    · have hie : i = n := by omega
      have hE := HE.out
      rw [List.drop_eq_nil_of_le (by omega), List.foldl_nil] at hE
      subst hE
      go_wp2_with fail
      go_ret
      exact ⟨rfl, rfl⟩

set_option maxHeartbeats 8000000 in
theorem many25_any (w : World) (v : Value) (n : Nat) (H : List Stp) (hl : H.length = n) (h : Rd w 7 v n (flatS H)) (hn : n ≤ 1000000) (j c p t : Int) :
    Calls Tryd.prog 29 #[v, .int .i64 j, .int .i64 c, .int .i64 p, .int .i64 t] w fun e w' => e = .returned (.int .i64 (manyH H j c p t)) ∧ Below w.heap.size w w' := by
  obtain ⟨A, cap, rfl⟩ := h.form
  have HV := Lib.hid h
  obtain ⟨r, hr⟩ : ∃ r, r = manyH H j c p t := ⟨_, rfl⟩
  rw [← hr]
  have HR : Hid (r = (H.drop 0).foldl (manyStep j c p t) 0) := hr
  clear hr h
  go_enter Tryd.func29, Tryd.ntmps29
  go_wp2_with fail
  go_loopw [11, 12] (fun ov iv wr => ∃ (i : Nat) (m : Int), i ≤ n ∧ 0 ≤ m ∧ m ≤ i ∧ ov = .int .i64 m ∧ iv = .int .i64 i ∧ Hid (Below w.heap.size w wr) ∧ Hid (r = (H.drop i).foldl (manyStep j c p t) m)) (fun _ i _ => n - (intOf i).toNat)
  case atStart => exact ⟨0, 0, by omega, by omega, by omega, rfl, rfl, Below.refl _ _, HR⟩
  case round =>
    clear HR
    obtain ⟨i, m, hin, hm0, hmi, rfl, rfl, HB, HE⟩ := hrel
    by_cases hlt : i < n
    · obtain ⟨x, hx⟩ : ∃ x, H[i]? = some x := ⟨_, List.getElem?_eq_getElem (by omega)⟩
      obtain ⟨b1, o1, rfl, hb1, c0, c1, c2, c3, c4, c5, c6⟩ := stp_cells (HV.out.below HB.out (Nat.le_refl _)) hx (by omega)
      have hE := HE.out
      rw [drop_one _ _ _ hx, List.foldl_cons] at hE
      have HE1 := Lib.hid hE
      have f1 : IntKind.i64.wrap (m + 1) = m + 1 := by rw [IntKind.wrap_i64]; omega
      clear hE HE hx
      go_wp2_with fail
      all_goals refine ⟨⟨i + 1, _, by omega, ?_, ?_, rfl, by simp, HB.out.alloc HB.out.size _, ?_⟩, by simp [intOf]; omega⟩
      all_goals (try omega)
      all_goals have hE := HE1.out
      all_goals clear HE1 HV f1 c0 c1 c2 c3 c4 c5 c6
      all_goals show r = _
      all_goals rw [hE]
      all_goals congr 1
      all_goals clear hE
      all_goals (try simp only [beq_iff_eq, beq_eq_false_iff_ne, bne_iff_ne, bne_eq_false_iff_eq, ne_eq, decide_eq_true_eq, decide_eq_false_iff_not] at *)
      all_goals unfold manyStep
      all_goals (try dsimp only)
      all_goals (repeat' split)
      all_goals first | omega | rfl | (exfalso; omega)
    · have hie : i = n := by omega
      have hE := HE.out
      rw [List.drop_eq_nil_of_le (by omega), List.foldl_nil] at hE
      subst hE
      go_wp2_with fail
      go_ret
      exact ⟨rfl, HB.out⟩

end Go.Proofs.YtfemeiopfpblaaaDoor.As
