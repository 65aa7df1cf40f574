/- Plain Lean: a row that is kept as a heap: up, down; the first is the least; nothing is lost. No program in sight. -/
import Derived.Calls
set_option linter.unusedVariables false
set_option linter.unusedSimpArgs false
namespace Go.Proofs.YtckmkaeopnnbbaaGreatDoor.As

structure It where
 k : Nat
 t : Nat
 due : Int
 deriving DecidableEq
def dueP (l : List It) (i : Nat) : Int := match l[i]? with | some x => x.due | none => 0
def swapP (l : List It) (i j : Nat) : List It := match l[i]?, l[j]? with
 | some x, some y => (l.set i y).set j x
 | _, _ => l
def upP : Nat → List It → Nat → List It
 | 0, l, _ => l
 | f + 1, l, j => if (j - 1) / 2 = j ∨ ¬ dueP l j < dueP l ((j - 1) / 2) then l else upP f (swapP l ((j - 1) / 2) j) ((j - 1) / 2)
def kidP (l : List It) (i n : Nat) : Nat := if 2 * i + 2 < n ∧ dueP l (2 * i + 2) < dueP l (2 * i + 1) then 2 * i + 2 else 2 * i + 1
def downP : Nat → List It → Nat → Nat → List It × Nat
 | 0, l, i, _ => (l, i)
 | f + 1, l, i, n => if n ≤ 2 * i + 1 then (l, i) else if ¬ dueP l (kidP l i n) < dueP l i then (l, i) else downP f (swapP l i (kidP l i n)) (kidP l i n) n
theorem swapP_len (l : List It) (i j : Nat) : (swapP l i j).length = l.length := by
 unfold swapP
 split <;> simp
theorem swapP_get {l : List It} {i j : Nat} (hi : i < l.length) (hj : j < l.length) (u : Nat) : (swapP l i j)[u]? = if u = j then l[i]? else if u = i then l[j]? else l[u]? := by
 have h1 : l[i]? = some l[i] := List.getElem?_eq_getElem hi
 have h2 : l[j]? = some l[j] := List.getElem?_eq_getElem hj
 unfold swapP
 rw [h1, h2]
 show ((l.set i l[j]).set j l[i])[u]? = _
 by_cases e : u = j
 ·subst e; rw [if_pos rfl, List.getElem?_set_self (by rw [List.length_set]; exact hj)]
 ·rw [if_neg e, List.getElem?_set_ne (fun e2 => e e2.symm)]
  by_cases e2 : u = i
  ·subst e2; rw [if_pos rfl, List.getElem?_set_self hi]
  ·rw [if_neg e2, List.getElem?_set_ne (fun e3 => e2 e3.symm)]
theorem dueP_swap {l : List It} {i j : Nat} (hi : i < l.length) (hj : j < l.length) (u : Nat) : dueP (swapP l i j) u = if u = j then dueP l i else if u = i then dueP l j else dueP l u := by
 unfold dueP
 rw [swapP_get hi hj]
 by_cases e : u = j
 ·rw [if_pos e, if_pos e]
 ·rw [if_neg e, if_neg e]
  by_cases e2 : u = i
  ·rw [if_pos e2, if_pos e2]
  ·rw [if_neg e2, if_neg e2]
theorem swapP_mem {l : List It} {i j : Nat} (hi : i < l.length) (hj : j < l.length) (x : It) : x ∈ swapP l i j ↔ x ∈ l := by
 rw [List.mem_iff_getElem?, List.mem_iff_getElem?]
 constructor
 ·rintro ⟨u, hu⟩
  rw [swapP_get hi hj] at hu
  by_cases e : u = j
  ·rw [if_pos e] at hu; exact ⟨i, hu⟩
  ·rw [if_neg e] at hu
   by_cases e2 : u = i
   ·rw [if_pos e2] at hu; exact ⟨j, hu⟩
   ·rw [if_neg e2] at hu; exact ⟨u, hu⟩
 ·rintro ⟨u, hu⟩
  by_cases e : u = i
  ·exact ⟨j, by rw [swapP_get hi hj, if_pos rfl, ← e]; exact hu⟩
  ·by_cases e2 : u = j
   ·refine ⟨i, ?_⟩
    rw [swapP_get hi hj]
    by_cases e3 : i = j
    ·rw [if_pos e3, e3, ← e2]; exact hu
    ·rw [if_neg e3, if_pos rfl, ← e2]; exact hu
   ·exact ⟨u, by rw [swapP_get hi hj, if_neg e2, if_neg e]; exact hu⟩
def HeapP (l : List It) : Prop := ∀ i, 0 < i → i < l.length → dueP l ((i - 1) / 2) ≤ dueP l i
theorem HeapP.min {l : List It} (h : HeapP l) : ∀ n i, i ≤ n → i < l.length → dueP l 0 ≤ dueP l i
 | 0, i, hn, _ => by rw [Nat.le_zero.1 hn]; exact Int.le_refl _
 | n + 1, i, hn, hl => by
  by_cases e : i = 0
  ·subst e; exact Int.le_refl _
  ·have h1 := h i (by omega) hl
   have h2 := HeapP.min h n ((i - 1) / 2) (by omega) (by omega)
   omega
theorem upP_len : ∀ (f : Nat) (l : List It) (j : Nat), (upP f l j).length = l.length
 | 0, _, _ => rfl
 | f + 1, l, j => by
  unfold upP
  split
  ·rfl
  ·rw [upP_len f, swapP_len]
theorem downP_len : ∀ (f : Nat) (l : List It) (i n : Nat), (downP f l i n).1.length = l.length
 | 0, _, _, _ => rfl
 | f + 1, l, i, n => by
  unfold downP
  split
  ·rfl
  ·split
   ·rfl
   ·rw [downP_len f, swapP_len]
theorem upP_mem : ∀ (f : Nat) (l : List It) (j : Nat), j < l.length → ∀ x, x ∈ upP f l j ↔ x ∈ l
 | 0, _, _, _, _ => Iff.rfl
 | f + 1, l, j, h, x => by
  unfold upP
  split
  ·exact Iff.rfl
  ·rw [upP_mem f _ _ (by rw [swapP_len]; omega), swapP_mem (by omega) h]
theorem kidP_lt {l : List It} {i n : Nat} (h : 2 * i + 1 < n) : kidP l i n < n ∧ i < kidP l i n ∧ (kidP l i n - 1) / 2 = i := by
 unfold kidP
 split <;> omega
theorem downP_mem : ∀ (f : Nat) (l : List It) (i n : Nat), n ≤ l.length → i < n → ∀ x, x ∈ (downP f l i n).1 ↔ x ∈ l
 | 0, _, _, _, _, _, _ => Iff.rfl
 | f + 1, l, i, n, h, hi, x => by
  unfold downP
  split
  ·exact Iff.rfl
  ·rename_i h1
   split
   ·exact Iff.rfl
   ·obtain ⟨k1, k2, _⟩ := kidP_lt (l := l) (i := i) (n := n) (by omega)
    rw [downP_mem f _ _ n (by rw [swapP_len]; exact h) k1, swapP_mem (by omega) (by omega)]
def HeapUp (l : List It) (j : Nat) : Prop := (∀ i, 0 < i → i < l.length → i ≠ j → dueP l ((i - 1) / 2) ≤ dueP l i) ∧ (0 < j → ∀ i, 0 < i → i < l.length → (i - 1) / 2 = j → dueP l ((j - 1) / 2) ≤ dueP l i)
theorem upP_heap : ∀ (f : Nat) (l : List It) (j : Nat), j < f → j < l.length → HeapUp l j → HeapP (upP f l j)
 | 0, _, _, h, _, _ => by omega
 | f + 1, l, j, hf, hj, ⟨h1, h2⟩ => by
  unfold upP
  split
  ·rename_i hc
   intro i hi hl
   by_cases e : i = j
   ·subst e
    rcases hc with hc | hc
    ·omega
    ·omega
   ·exact h1 i hi hl e
  ·rename_i hc
   have hc1 : (j - 1) / 2 ≠ j := fun e => hc (.inl e)
   have hc2 : dueP l j < dueP l ((j - 1) / 2) := Decidable.byContradiction fun e => hc (.inr e)
   have hp : (j - 1) / 2 < l.length := by omega
   refine upP_heap f _ _ (by omega) (by rw [swapP_len]; exact hp) ⟨fun i hi hl hne => ?_, fun hj0 i hi hl hpar => ?_⟩
   ·rw [swapP_len] at hl
    rw [dueP_swap hp hj, dueP_swap hp hj]
    by_cases e : i = j
    ·subst e
     rw [if_pos rfl, if_neg hc1, if_pos rfl]; omega
    ·rw [if_neg e, if_neg hne]
     by_cases e2 : (i - 1) / 2 = j
     ·rw [if_pos e2]; exact h2 (by omega) i hi hl e2
     ·rw [if_neg e2]
      have h3 := h1 i hi hl e
      by_cases e3 : (i - 1) / 2 = (j - 1) / 2
      ·rw [if_pos e3]; rw [e3] at h3; omega
      ·rw [if_neg e3]; exact h3
   ·rw [swapP_len] at hl
    have hgp : dueP l (((j - 1) / 2 - 1) / 2) ≤ dueP l ((j - 1) / 2) := h1 _ hj0 hp (by omega)
    rw [dueP_swap hp hj, dueP_swap hp hj, if_neg (by omega), if_neg (by omega)]
    by_cases e : i = j
    ·rw [if_pos e]; exact hgp
    ·rw [if_neg e, if_neg (by omega)]
     have := h1 i hi hl e
     rw [hpar] at this
     omega
def HeapDn (l : List It) (j : Nat) : Prop := (∀ i, 0 < i → i < l.length → (i - 1) / 2 ≠ j → dueP l ((i - 1) / 2) ≤ dueP l i) ∧ (0 < j → ∀ i, 0 < i → i < l.length → (i - 1) / 2 = j → dueP l ((j - 1) / 2) ≤ dueP l i)
theorem downP_heap : ∀ (f : Nat) (l : List It) (i : Nat), l.length ≤ i + f → i < l.length → HeapDn l i → HeapP (downP f l i l.length).1
 | 0, _, _, h, h2, _ => by omega
 | f + 1, l, j, hf, hj, ⟨h1, h2⟩ => by
  unfold downP
  split
  ·rename_i hc
   intro i hi hl
   have hl : i < l.length := hl
   exact h1 i hi hl (by omega)
  ·rename_i hc
   obtain ⟨k1, k2, k3⟩ := kidP_lt (l := l) (i := j) (n := l.length) (by omega)
   have kmin : ∀ i, 0 < i → i < l.length → (i - 1) / 2 = j → dueP l (kidP l j l.length) ≤ dueP l i := fun i hi hl hpar => by
    have : i = 2 * j + 1 ∨ i = 2 * j + 2 := by omega
    unfold kidP
    rcases this with rfl | rfl
    ·split
     ·rename_i h; omega
     ·exact Int.le_refl _
    ·split
     ·exact Int.le_refl _
     ·rename_i h
      have : ¬ dueP l (2 * j + 2) < dueP l (2 * j + 1) := fun e => h ⟨hl, e⟩
      omega
   split
   ·rename_i hd
    intro i hi hl
    have hl : i < l.length := hl
    show dueP l ((i - 1) / 2) ≤ dueP l i
    by_cases e : (i - 1) / 2 = j
    ·have := kmin i hi hl e
     rw [e]; omega
    ·exact h1 i hi hl e
   ·rename_i hd
    have hd : dueP l (kidP l j l.length) < dueP l j := Decidable.byContradiction fun e => hd e
    generalize hk : kidP l j l.length = k at *
    have e0 : l.length = (swapP l j k).length := (swapP_len l j k).symm
    rw [e0]
    refine downP_heap f _ _ (by rw [swapP_len]; omega) (by rw [swapP_len]; exact k1) ⟨fun i hi hl hne => ?_, fun hj0 i hi hl hpar => ?_⟩
    ·rw [swapP_len] at hl
     rw [dueP_swap hj k1, dueP_swap hj k1, if_neg hne]
     by_cases e : i = k
     ·rw [if_pos e, e, k3, if_pos rfl]; omega
     ·rw [if_neg e]
      by_cases e2 : i = j
      ·rw [if_pos e2, if_neg (by omega)]
       exact h2 (by omega) k (by omega) k1 k3 |> fun h => by rw [e2]; exact h
      ·rw [if_neg e2]
       by_cases e3 : (i - 1) / 2 = j
       ·rw [if_pos e3]; exact kmin i hi hl e3
       ·rw [if_neg e3]; exact h1 i hi hl e3
    ·rw [swapP_len] at hl
     rw [dueP_swap hj k1, dueP_swap hj k1, k3, if_neg (by omega), if_pos rfl, if_neg (by omega), if_neg (by omega)]
     have := h1 i hi hl (by omega)
     rw [hpar] at this; exact this
end Go.Proofs.YtckmkaeopnnbbaaGreatDoor.As
