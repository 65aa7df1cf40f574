/- Plain Lean: the calls of all threads, merged. No program in sight. -/
import Derived.Test.YtckmkaeopnnbbaaGreatDoorTcO
set_option linter.unusedVariables false
set_option linter.unusedSimpArgs false
namespace Go.Proofs.YtckmkaeopnnbbaaGreatDoor.As

def headB (l : List Cl) : Int := match l with
  | [] => 0
  | c :: _ => c.began
/-- Which thread's first call is the eldest, of those looked at. -/
def bestS (ls : List (List Cl)) (b : Option Nat) (t : Nat) : Option Nat :=
  match ls.getD t [] with
  | [] => b
  | c :: _ => match b with
    | none => some t
    | some j => if c.began < headB (ls.getD j []) then some t else some j
def bestP (ls : List (List Cl)) (n : Nat) : Option Nat := (List.range n).foldl (bestS ls) none
theorem bestP_succ (ls : List (List Cl)) (n : Nat) : bestP ls (n + 1) = bestS ls (bestP ls n) n := by
  unfold bestP
  rw [List.range_succ, List.foldl_append]; rfl
theorem bestP_spec (ls : List (List Cl)) : ∀ n, (∀ t, bestP ls n = some t → t < n ∧ ls.getD t [] ≠ []) ∧ (bestP ls n = none → ∀ t, t < n → ls.getD t [] = [])
  | 0 => ⟨fun t h => (by cases h), fun _ t h => (by omega)⟩
  | n + 1 => by
    obtain ⟨h1, h2⟩ := bestP_spec ls n
    rw [bestP_succ]
    unfold bestS
    cases hl : ls.getD n [] with
    | nil =>
      refine ⟨fun t h => ?_, fun h t ht => ?_⟩
      · have := h1 t h; exact ⟨by omega, this.2⟩
      · by_cases e : t = n
        · subst e; exact hl
        · exact h2 h t (by omega)
    | cons c r =>
      dsimp only
      cases hb : bestP ls n with
      | none =>
        refine ⟨fun t h => ?_, fun h => by cases h⟩
        injection h with h; subst h
        exact ⟨by omega, by rw [hl]; simp⟩
      | some j =>
        dsimp only
        have hj := h1 j hb
        split
        · refine ⟨fun t h => ?_, fun h => by cases h⟩
          injection h with h; subst h
          exact ⟨by omega, by rw [hl]; simp⟩
        · refine ⟨fun t h => ?_, fun h => by cases h⟩
          injection h with h; subst h
          exact ⟨by omega, hj.2⟩
/-- What trace.Calls does with the threads' calls, so many rounds. -/
def mergeP : Nat → List (List Cl) → List Cl → List Cl
  | 0, _, o => o
  | f + 1, ls, o => match bestP ls ls.length with
    | none => o
    | some t => match ls.getD t [] with
      | [] => o
      | c :: r => mergeP f (ls.set t r) (o ++ [c])
theorem flat_nil : ∀ (ls : List (List Cl)), (∀ t, t < ls.length → ls.getD t [] = []) → ls.flatten = []
  | [], _ => rfl
  | a :: ls, h => by
    have h0 := h 0 (by simp)
    have h1 := flat_nil ls (fun t ht => by have := h (t + 1) (by simp; omega); simpa using this)
    have ha : a = [] := by simpa using h0
    rw [List.flatten_cons, ha, h1]; rfl
theorem flat_set : ∀ (ls : List (List Cl)) (t : Nat) (c : Cl) (r : List Cl), ls.getD t [] = c :: r → ls.flatten.Perm (c :: (ls.set t r).flatten) ∧ (ls.set t r).flatten.length + 1 = ls.flatten.length
  | [], t, c, r, h => by simp at h
  | a :: ls, 0, c, r, h => by
    have ha : a = c :: r := by simpa using h
    subst ha
    exact ⟨List.Perm.refl _, by simp⟩
  | a :: ls, t + 1, c, r, h => by
    obtain ⟨h1, h2⟩ := flat_set ls t c r (by simpa using h)
    rw [List.set_cons_succ, List.flatten_cons, List.flatten_cons]
    refine ⟨(List.Perm.append_left a h1).trans List.perm_middle, ?_⟩
    rw [List.length_append, List.length_append]; omega
/-- All calls, each once. -/
theorem mergeP_perm : ∀ (f : Nat) (ls : List (List Cl)) (o : List Cl), ls.flatten.length ≤ f → (mergeP f ls o).Perm (o ++ ls.flatten)
  | 0, ls, o, h => by
    have : ls.flatten = [] := List.eq_nil_of_length_eq_zero (by omega)
    rw [this, List.append_nil]; exact List.Perm.refl _
  | f + 1, ls, o, h => by
    unfold mergeP
    have hs := bestP_spec ls ls.length
    cases hb : bestP ls ls.length with
    | none =>
      dsimp only
      rw [flat_nil ls (hs.2 hb), List.append_nil]
    | some t =>
      dsimp only
      have ht := hs.1 t hb
      cases hl : ls.getD t [] with
      | nil => exact absurd hl ht.2
      | cons c r =>
        dsimp only
        obtain ⟨h1, h2⟩ := flat_set ls t c r hl
        refine (mergeP_perm f (ls.set t r) (o ++ [c]) (by omega)).trans ?_
        rw [List.append_assoc]
        exact List.Perm.append_left o h1.symm
/-- What trace.Calls answers, of eight threads. -/
def perT (evs : List Ev) : List (List Cl) := (List.range 8).map fun t : Nat => (callsF (t : Int) (ofI evs (t : Int) evs.length)).1
def callsAll (evs : List Ev) : List Cl := mergeP (perT evs).flatten.length (perT evs) []
theorem callsAll_perm (evs : List Ev) : (callsAll evs).Perm (perT evs).flatten := by
  have := mergeP_perm _ (perT evs) [] (Nat.le_refl _)
  simpa [callsAll] using this
end Go.Proofs.YtckmkaeopnnbbaaGreatDoor.As
