/- Plain Lean: from a lock's run to what the law asks; codes that are right. No program in sight. -/
import Derived.Test.YtckmkaeopnnbbaaGreatDoorGn
import Derived.Test.YtckmkaeopnnbbaaGreatDoorGl
import Derived.Test.YtckmkaeopnnbbaaGreatDoorGo
set_option linter.unusedVariables false
set_option linter.unusedSimpArgs false
namespace Go.Proofs.YtckmkaeopnnbbaaGreatDoor.As.T

def loc0 : Loc := ⟨0, 0, 0, 0, 0, 0, 0, 0, 0, 0, 0⟩
theorem buf0 (mem : List Int) (room T t : Nat) : (ts0 mem room T).buf t = [] := by
  show (List.replicate T ([] : List (Nat × Int))).getD t [] = []
  rw [List.getD_eq_getElem?_getD, List.getElem?_replicate]
  split <;> rfl
/-- At most four threads. -/
def lim (F : Nat → List Ln) (t : Nat) : List Ins := resL (F (min t 3))
theorem lim_eq (F : Nat → List Ln) {t : Nat} (h : t < 4) : lim F t = resL (F t) := by unfold lim; rw [Nat.min_eq_left (by omega)]
def fineL (L : List Ins) : Bool := decide (0 < L.length) && decide (L.length ≤ 4000) && L.all (okI L.length)
def shortL (L : List Ins) : Bool := decide (L.length ≤ 200) && decide (0 < L.length) && L.all fun x => wd x.k
theorem short_of {F : Nat → List Ln} (h : ∀ t : Fin 4, shortL (resL (F t)) = true) (t : Nat) : (lim F t).length ≤ 200 ∧ 0 < (lim F t).length ∧ ∀ x ∈ lim F t, 0 ≤ x.k ∧ x.k ≤ 4294967295 := by
  have := h ⟨min t 3, by omega⟩
  simp only [shortL, Bool.and_eq_true, decide_eq_true_eq] at this
  exact ⟨this.1.1, this.1.2, fun x hx => wd_iff.1 (List.all_eq_true.1 this.2 x hx)⟩
theorem codes_of {F G : Nat → List Ln} (h : ∀ r : Fin 4, ∀ t : Fin 4, fineL (roundsR (resL (F t)) (resL (G t)) (r + 1) []) = true) {T R : Nat} (hT : T ≤ 4) (hR0 : 0 < R) (hR : R ≤ 4) : CodesOk (codesR (lim F) (lim G) T R) := by
  intro L hL
  unfold codesR at hL
  obtain ⟨t, ht, rfl⟩ := List.mem_map.1 hL
  have ht4 : t < 4 := by have := List.mem_range.1 ht; omega
  have := h ⟨R - 1, by omega⟩ ⟨t, ht4⟩
  rw [lim_eq F ht4, lim_eq G ht4]
  have e : R - 1 + 1 = R := by omega
  simp only [fineL, Bool.and_eq_true, decide_eq_true_eq, e] at this
  exact ⟨this.1.1, this.1.2, fun x hx => List.all_eq_true.1 this.2 x hx⟩
theorem codes_at (F G : Nat → List Ln) {T R t : Nat} (hT : T ≤ 4) (ht : t < T) : (codesR (lim F) (lim G) T R)[t]? = some (roundsR (resL (F t)) (resL (G t)) R []) := by
  rw [codesR_get ht, lim_eq F (by omega), lim_eq G (by omega)]
end Go.Proofs.YtckmkaeopnnbbaaGreatDoor.As.T
