/- The walks of the package deadlatchref25: what all that was done ahead tells. -/
import Derived.Test.YtfemeiopfpblaaaDoorHjS
set_option linter.unusedVariables false
set_option linter.unusedSimpArgs false
set_option maxRecDepth 20000
namespace Go.Proofs.YtfemeiopfpblaaaDoor.As
open Go.RowKit

def Stp.cells (s : Stp) : List Value := [.int .i64 s.x.who, .int .i64 s.x.obj, .int .i64 s.x.call, .int .i64 s.x.part, .int .u32 s.x.arg, .int .u32 s.x.val, .int .u32 s.r]
def flatS (l : List Stp) : List Value := l.flatMap Stp.cells
theorem flatS_get (l : List Stp) (i : Nat) (x : Stp) (h : l[i]? = some x) (j : Nat) (hj : j < 7) : (flatS l)[i * 7 + j]? = x.cells[j]? := flatMap_get Stp.cells 7 (fun _ => rfl) l i x h j hj
theorem flatS_len (l : List Stp) : (flatS l).length = l.length * 7 := flatMap_len Stp.cells 7 (fun _ => rfl) l
theorem stp_cells {w : World} {A : Option Addr} {n cap i : Nat} {l : List Stp} {x : Stp} (h : Rd w 7 (.slice A n cap) n (flatS l)) (hx : l[i]? = some x) (hn : 0 < n) :
    ∃ b off, A = some ⟨b, off, none⟩ ∧ b < w.heap.size ∧ w.cell? ⟨b, off + i * 7, none⟩ = some (.int .i64 x.x.who) ∧ w.cell? ⟨b, off + i * 7 + 1, none⟩ = some (.int .i64 x.x.obj) ∧ w.cell? ⟨b, off + i * 7 + 2, none⟩ = some (.int .i64 x.x.call) ∧ w.cell? ⟨b, off + i * 7 + 3, none⟩ = some (.int .i64 x.x.part) ∧ w.cell? ⟨b, off + i * 7 + 4, none⟩ = some (.int .u32 x.x.arg) ∧ w.cell? ⟨b, off + i * 7 + 5, none⟩ = some (.int .u32 x.x.val) ∧ w.cell? ⟨b, off + i * 7 + 6, none⟩ = some (.int .u32 x.r) := by
  obtain ⟨b, off, e, hb, hc⟩ := h.cells hn
  have g := fun j hj => flatS_get l i x hx j hj
  exact ⟨b, off, e, hb, hc _ _ (g 0 (by decide)), hc _ _ (g 1 (by decide)), hc _ _ (g 2 (by decide)), hc _ _ (g 3 (by decide)), hc _ _ (g 4 (by decide)), hc _ _ (g 5 (by decide)), hc _ _ (g 6 (by decide))⟩
theorem drop_one {α : Type} (l : List α) (i : Nat) (x : α) (h : l[i]? = some x) : l.drop i = x :: l.drop (i + 1) := by
  obtain ⟨hi, e⟩ := List.getElem?_eq_some_iff.1 h
  rw [List.drop_eq_getElem_cons hi, e]

set_option maxHeartbeats 4000000 in
theorem owner25_any (w : World) (v : Value) (n : Nat) (H : List Stp) (hl : H.length = n) (h : Rd w 7 v n (flatS H)) (hn : n ≤ 1000000) (j : Int) :
    Calls Tryd.prog 27 #[v, .int .i64 j] w fun e w' => e = .returned (.int .i64 (ownH H j)) ∧ w' = w := by
  obtain ⟨A, cap, rfl⟩ := h.form
  have HV := Lib.hid h
  obtain ⟨r, hr⟩ : ∃ r, r = ownH H j := ⟨_, rfl⟩
  rw [← hr]
  have HR : Hid (r = (H.drop 0).foldl (ownStep j) (-1)) := hr
  clear hr h
  go_enter Tryd.func27, Tryd.ntmps27
  go_wp2_with fail
  go_loopw [5, 6] (fun ov iv wr => ∃ (i : Nat) (m : Int), i ≤ n ∧ ov = .int .i64 m ∧ iv = .int .i64 i ∧ wr = w ∧ Hid (r = (H.drop i).foldl (ownStep j) m)) (fun _ i _ => n - (intOf i).toNat)
  case atStart => exact ⟨0, -1, by omega, rfl, rfl, rfl, HR⟩
  case round =>
    clear HR
    obtain ⟨i, m, hin, rfl, rfl, rfl, HE⟩ := hrel
    by_cases hlt : i < n
    · obtain ⟨x, hx⟩ : ∃ x, H[i]? = some x := ⟨_, List.getElem?_eq_getElem (by omega)⟩
      obtain ⟨b1, o1, rfl, hb1, c0, c1, c2, c3, c4, c5, c6⟩ := stp_cells HV.out hx (by omega)
      have hE := HE.out
      rw [drop_one _ _ _ hx, List.foldl_cons] at hE
      have HE1 := Lib.hid hE
      clear hE HE hx
      go_wp2_with fail
      all_goals refine ⟨⟨i + 1, _, by omega, rfl, by simp, (by first | rfl | trivial), ?_⟩, by simp [intOf]; omega⟩
      all_goals have hE := HE1.out
      all_goals clear HE1 HV c0 c1 c2 c3 c4 c5 c6
      all_goals show r = _
      all_goals rw [hE]
      all_goals congr 1
      all_goals clear hE
      all_goals simp only [beq_iff_eq, beq_eq_false_iff_ne, bne_iff_ne, bne_eq_false_iff_eq, ne_eq, decide_eq_true_eq] at *
      all_goals unfold ownStep
      all_goals dsimp only
      all_goals (repeat' split)
      all_goals omega
    · have hie : i = n := by omega
      have hE := HE.out
      rw [List.drop_eq_nil_of_le (by omega), List.foldl_nil] at hE
      subst hE
      go_wp2_with fail
      go_ret
      exact ⟨rfl, rfl⟩
end Go.Proofs.YtfemeiopfpblaaaDoor.As
