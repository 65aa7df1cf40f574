/- Plain Lean: with weak code both of two come to be there. No program in sight. -/
import Derived.Test.YtipepbfpfmadaaaGreatDoorTqG
import Derived.Test.YtipepbfpfmadaaaGreatDoorDnW
import Derived.Test.YtipepbfpfmadaaaGreatDoorLocks2
set_option linter.unusedVariables false
set_option linter.unusedSimpArgs false
namespace Go.Proofs.YtipepbfpfmadaaaGreatDoor.As.T

def duF (k A t : Nat) : List Ln := if k = 6 then (if t = A then linPetInA 16 t else linPetInB 16 t) else (if t = A then linDekFast 16 t else linDekSlow 16 t)
def duG (k A t : Nat) : List Ln := if k = 6 then (if t = A then linPetOutA 16 t else linPetOutB 16 t) else (if t = A then linDekOutA 16 t else linDekOutB 16 t)
def duM (k : Nat) : List Int := if k = 6 then [0, 0, 0, 0] else [0, 0, 0]
def wkF (k A t : Nat) : List Ins := (lim (duF k A) t).map weak1
def wkG (k A t : Nat) : List Ins := (lim (duG k A) t).map weak1
def stopE (l : List Ev) (t : Nat) : Bool := match l.getLast? with
  | some e => e.kind == 7 && e.who == t && e.k == 1
  | none => false
def press (codes : List (List Ins)) (t : Nat) : Nat → Ts → Option Ts
  | 0, s => some s
  | n + 1, s => match s.pick codes (0, t) with
    | none => none
    | some s' => if stopE s'.evs t then some s' else press codes t n s'
def bothIn (k A room : Nat) : Bool := match press (codesR (wkF k A) (wkG k A) 2 1) A 100 (ts0 (mem0 (duM k)) room 2) with
  | none => false
  | some s1 => match press (codesR (wkF k A) (wkG k A) 2 1) (1 - A) 100 s1 with
    | none => false
    | some s2 => oneF s2.evs == none
theorem both_in : ∀ (k A : Fin 2) (r : Fin 14), bothIn (k + 6) A (r + 3) = true := by decide +kernel
def fineW (L : List Ins) : Bool := decide (L.length ≤ 200) && decide (0 < L.length) && L.all fun x => wd x.k
theorem short_wk : ∀ (k A : Fin 2) (t : Fin 4), fineW (wkF (k + 6) A t) = true ∧ fineW (wkG (k + 6) A t) = true := by decide +kernel
theorem wk_min (k A t : Nat) : wkF k A t = wkF k A (min t 3) ∧ wkG k A t = wkG k A (min t 3) := by
  unfold wkF wkG lim
  rw [show min (min t 3) 3 = min t 3 by omega]
  exact ⟨rfl, rfl⟩
theorem k_fin {k : Nat} (h : k = 6 ∨ k = 7) : ∃ q : Fin 2, k = q + 6 := by
  rcases h with rfl | rfl
  · exact ⟨0, rfl⟩
  · exact ⟨1, rfl⟩
theorem fineW_of {L : List Ins} (h : fineW L = true) : L.length ≤ 200 ∧ 0 < L.length ∧ ∀ x ∈ L, 0 ≤ x.k ∧ x.k ≤ 4294967295 := by
  simp only [fineW, Bool.and_eq_true, decide_eq_true_eq] at h
  exact ⟨h.1.1, h.1.2, fun x hx => wd_iff.1 (List.all_eq_true.1 h.2 x hx)⟩
theorem wk_short {k A : Nat} (hk : k = 6 ∨ k = 7) (hA : A < 2) (t : Nat) : ((wkF k A t).length ≤ 200 ∧ 0 < (wkF k A t).length ∧ ∀ x ∈ wkF k A t, 0 ≤ x.k ∧ x.k ≤ 4294967295) ∧ ((wkG k A t).length ≤ 200 ∧ 0 < (wkG k A t).length ∧ ∀ x ∈ wkG k A t, 0 ≤ x.k ∧ x.k ≤ 4294967295) := by
  obtain ⟨q, rfl⟩ := k_fin hk
  obtain ⟨h1, h2⟩ := short_wk q ⟨A, hA⟩ ⟨min t 3, by omega⟩
  rw [(wk_min _ A t).1, (wk_min _ A t).2]
  exact ⟨fineW_of h1, fineW_of h2⟩
theorem fine_wk : ∀ (k A t : Fin 2), fineL (roundsR (wkF (k + 6) A t) (wkG (k + 6) A t) 1 []) = true := by decide +kernel
theorem wk_ok {k A : Nat} (hk : k = 6 ∨ k = 7) (hA : A < 2) : CodesOk (codesR (wkF k A) (wkG k A) 2 1) := by
  obtain ⟨q, rfl⟩ := k_fin hk
  intro L hL
  unfold codesR at hL
  obtain ⟨t, ht, rfl⟩ := List.mem_map.1 hL
  have := fine_wk q ⟨A, hA⟩ ⟨t, List.mem_range.1 ht⟩
  simp only [fineL, Bool.and_eq_true, decide_eq_true_eq] at this
  exact ⟨this.1.1, this.1.2, fun x hx => List.all_eq_true.1 this.2 x hx⟩
theorem wk_runs {k A M : Nat} (hk : k = 6 ∨ k = 7) (hA : A < 2) (h3 : 3 ≤ M) (h16 : M ≤ 16) : ∃ s1 s2, press (codesR (wkF k A) (wkG k A) 2 1) A 100 (ts0 (mem0 (duM k)) M 2) = some s1 ∧ press (codesR (wkF k A) (wkG k A) 2 1) (1 - A) 100 s1 = some s2 ∧ oneF s2.evs = none := by
  obtain ⟨q, rfl⟩ := k_fin hk
  have h := both_in q ⟨A, hA⟩ ⟨M - 3, by omega⟩
  unfold bothIn at h
  have e : M - 3 + 3 = M := by omega
  dsimp only at h
  rw [e] at h
  split at h
  · cases h
  · next s1 h1 =>
    split at h
    · cases h
    · next s2 h2 => exact ⟨s1, s2, h1, h2, by simpa using h⟩
theorem press_step {codes : List (List Ins)} {t n : Nat} {s e : Ts} (h : press codes t (n + 1) s = some e) : ∃ s', s.pick codes (0, t) = some s' ∧ (stopE s'.evs t = true ∧ e = s' ∨ stopE s'.evs t = false ∧ press codes t n s' = some e) := by
  rw [press] at h
  split at h
  · cases h
  · next s' hp =>
    refine ⟨s', hp, ?_⟩
    split at h
    · next hs => exact .inl ⟨hs, (Option.some.inj h).symm⟩
    · next hs => exact .inr ⟨by simpa using hs, h⟩
end Go.Proofs.YtipepbfpfmadaaaGreatDoor.As.T
