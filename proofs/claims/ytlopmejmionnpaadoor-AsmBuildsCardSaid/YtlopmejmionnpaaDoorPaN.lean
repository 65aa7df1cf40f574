/- Plain Lean: a word is read by its value and its digits as the document says. No program in sight. -/
import Derived.Test.YtlopmejmionnpaaDoorPaP
import Derived.Lib.ParseIntBCases
import Derived.Lib.ItoaNum
namespace Go.Proofs.YtlopmejmionnpaaDoor.As
open Go.Lib

def stp (n : Nat) (c : UInt8) : Nat := 10 * n + (c.toNat - 48)
theorem valB_eq (l : B8) : valB l = l.foldl stp 0 := rfl
theorem isDig_iff (c : UInt8) : isDig c = true ↔ 48 ≤ c.toNat ∧ c.toNat ≤ 57 := by simp [isDig, UInt8.le_iff_toNat_le]
theorem fold_ge : ∀ (l : B8) (a : Nat), a ≤ l.foldl stp a
  | [], a => Nat.le_refl _
  | c :: l, a => by
    have := fold_ge l (stp a c)
    rw [List.foldl_cons]
    have h : a ≤ stp a c := by unfold stp; omega
    omega
theorem pm_ok (M : Nat) (hM : M < 1844674407370955162) : ∀ (l : B8) (a u : Nat), a ≤ M → parseUintM M a l = .ok u → l.all isDig = true ∧ u = l.foldl stp a ∧ u ≤ M
  | [], a, u, ha, h => by
    simp only [parseUintM] at h
    injection h with h
    exact ⟨rfl, h.symm, by omega⟩
  | c :: l, a, u, ha, h => by
    simp only [parseUintM] at h
    split at h
    · rename_i hd
      split at h
      · cases h
      · split at h
        · cases h
        · have e : a * 10 + (c.toNat - 48) = stp a c := by unfold stp; omega
          rw [e] at h
          obtain ⟨h1, h2, h3⟩ := pm_ok M hM l (stp a c) u (by rw [← e]; omega) h
          exact ⟨by rw [List.all_cons, h1, (isDig_iff c).2 hd]; rfl, h2, h3⟩
    · cases h
theorem pm_mk (M : Nat) (hM : M < 1844674407370955162) : ∀ (l : B8) (a : Nat), l.all isDig = true → l.foldl stp a ≤ M → parseUintM M a l = .ok (l.foldl stp a)
  | [], a, _, _ => rfl
  | c :: l, a, h, hm => by
    rw [List.all_cons, Bool.and_eq_true] at h
    have hd := (isDig_iff c).1 h.1
    have e : a * 10 + (c.toNat - 48) = stp a c := by unfold stp; omega
    have hg := fold_ge l (stp a c)
    rw [List.foldl_cons] at hm
    simp only [parseUintM]
    rw [if_pos hd, if_neg (by unfold stp at hg hm; omega), e, if_neg (by omega), List.foldl_cons]
    exact pm_mk M hM l (stp a c) h.2 hm
theorem dec_step (u : Nat) (h : 10 ≤ u) : decDigits u = decDigits (u / 10) ++ [UInt8.ofNat (48 + u % 10)] := by
  rw [decDigits, dif_neg (by omega)]
theorem dec_small (u : Nat) (h : u < 10) : decDigits u = [UInt8.ofNat (48 + u)] := by rw [decDigits, dif_pos h]
theorem ofNat_toNat (n : Nat) (h : n < 10) : (UInt8.ofNat (48 + n)).toNat = 48 + n := by
  rw [UInt8.toNat_ofNat']; omega
theorem dec_all (u : Nat) : (decDigits u).all isDig = true := by
  induction u using Nat.strongRecOn with
  | _ u ih =>
    by_cases h : u < 10
    · rw [dec_small u h, List.all_cons, (isDig_iff _).2 (by rw [ofNat_toNat u h]; omega)]; rfl
    · rw [dec_step u (by omega), List.all_append, ih (u / 10) (by omega), List.all_cons, (isDig_iff _).2 (by rw [ofNat_toNat _ (by omega)]; omega)]; rfl
theorem dec_val (u : Nat) : (decDigits u).foldl stp 0 = u := by
  induction u using Nat.strongRecOn with
  | _ u ih =>
    by_cases h : u < 10
    · rw [dec_small u h]
      show stp 0 _ = u
      unfold stp
      rw [ofNat_toNat u h]; omega
    · rw [dec_step u (by omega), List.foldl_append, ih (u / 10) (by omega)]
      show stp (u / 10) _ = u
      unfold stp
      rw [ofNat_toNat _ (by omega)]; omega
theorem dec_ne (u : Nat) : decDigits u ≠ [] := by
  by_cases h : u < 10
  · rw [dec_small u h]; simp
  · rw [dec_step u (by omega)]; simp
theorem dec_len (k : Nat) : ∀ u, u < 10 ^ (k + 1) → (decDigits u).length ≤ k + 1 := by
  induction k with
  | zero => intro u h; rw [dec_small u (by simpa using h)]; simp
  | succ k ih =>
    intro u h
    by_cases h10 : u < 10
    · rw [dec_small u h10]; simp
    · rw [dec_step u (by omega), List.length_append, List.length_singleton]
      have := ih (u / 10) (by rw [Nat.pow_succ] at h; omega)
      omega
theorem dec_head (u : Nat) (h1 : 1 ≤ u) : (decDigits u)[0]? ≠ some 48 := by
  induction u using Nat.strongRecOn with
  | _ u ih =>
    by_cases h : u < 10
    · rw [dec_small u h]
      intro e
      have e1 : UInt8.ofNat (48 + u) = 48 := by simpa using e
      have := congrArg UInt8.toNat e1
      rw [ofNat_toNat u h] at this
      have e2 : (48 : UInt8).toNat = 48 := rfl
      omega
    · rw [dec_step u (by omega), List.getElem?_append_left (by have := dec_ne (u / 10); exact List.length_pos_iff.2 this)]
      exact ih (u / 10) (by omega) (by omega)
/-- Digits without a zero ahead are spelled by their value. -/
theorem dec_of : ∀ (n : Nat) (l : B8), l.length = n → l ≠ [] → l.all isDig = true → (1 < l.length → l[0]? ≠ some 48) → decDigits (l.foldl stp 0) = l ∧ (l[0]? ≠ some 48 → 1 ≤ l.foldl stp 0)
  | 0, l, hn, h0, _, _ => absurd (List.eq_nil_of_length_eq_zero hn) h0
  | n + 1, l, hn, h0, ha, hz => by
    obtain ⟨r, c, rfl⟩ : ∃ r c, l = r ++ [c] := ⟨l.dropLast, l.getLast h0, (List.dropLast_concat_getLast h0).symm⟩
    rw [List.all_append, Bool.and_eq_true] at ha
    have hd : 48 ≤ c.toNat ∧ c.toNat ≤ 57 := (isDig_iff c).1 (by simpa using ha.2)
    rw [List.foldl_append]
    show decDigits (stp (r.foldl stp 0) c) = r ++ [c] ∧ _
    by_cases hr : r = []
    · subst hr
      have e : stp ([].foldl stp 0) c = c.toNat - 48 := by unfold stp; simp
      rw [e]
      refine ⟨?_, ?_⟩
      · rw [dec_small _ (by omega)]
        show [UInt8.ofNat (48 + (c.toNat - 48))] = [c]
        rw [show 48 + (c.toNat - 48) = c.toNat from by omega, UInt8.ofNat_toNat]
      · intro hc
        have hc' : c ≠ 48 := by intro e; apply hc; rw [e]; rfl
        have : c.toNat ≠ 48 := by intro e; exact hc' (UInt8.toNat_inj.1 (by rw [e]; rfl))
        show 1 ≤ stp 0 c
        unfold stp; omega
    · have hrl : 0 < r.length := List.length_pos_iff.2 hr
      have hlen : r.length = n := by simpa using hn
      have hz' : r[0]? ≠ some 48 := by
        have := hz (by simp; omega)
        rwa [List.getElem?_append_left hrl] at this
      obtain ⟨i1, i2⟩ := dec_of n r hlen hr ha.1 (fun _ => hz')
      have hv := i2 hz'
      generalize List.foldl stp 0 r = m at *
      have e10 : stp m c / 10 = m := by unfold stp; omega
      have em : stp m c % 10 = c.toNat - 48 := by unfold stp; omega
      refine ⟨?_, fun _ => ?_⟩
      · rw [dec_step _ (by unfold stp; omega), e10, em, i1, show 48 + (c.toNat - 48) = c.toNat from by omega, UInt8.ofNat_toNat]
      · show 1 ≤ stp m c
        unfold stp; omega
/-- What the document calls a word. -/
def wordOk (l : B8) : Prop := l ≠ [] ∧ l.length ≤ 10 ∧ (1 < l.length → l[0]? ≠ some 48) ∧ l.all isDig = true ∧ valB l ≤ 4294967295
theorem numB_ok (l : B8) (h : wordOk l) : numB l = valB l := by
  obtain ⟨h0, h1, h2, h3, h4⟩ := h
  unfold numB
  rw [if_neg, if_pos h3, if_neg (by omega)]
  rintro (e | e | ⟨e1, e2⟩)
  · exact h0 (List.eq_nil_of_length_eq_zero e)
  · omega
  · exact h2 e1 e2
theorem numB_ge (l : B8) (h : 0 ≤ numB l) : wordOk l := by
  unfold numB at h
  split at h
  · omega
  · rename_i hn
    split at h
    · rename_i ha
      split at h
      · omega
      · rename_i hv
        refine ⟨?_, ?_, ?_, ha, by omega⟩
        · intro e; apply hn; left; rw [e]; rfl
        · apply Nat.le_of_not_lt; intro e; exact hn (.inr (.inl e))
        · intro e1 e2; exact hn (.inr (.inr ⟨e1, e2⟩))
    · omega
/-- A word is what is parsed and spelled the same. -/
theorem num_yes (l : B8) (h : 0 ≤ numB l) : parseUintB 32 l = .ok (valB l) ∧ decDigits (valB l) = l ∧ numB l = valB l ∧ valB l ≤ 4294967295 := by
  have hw := numB_ge l h
  have he := numB_ok l hw
  obtain ⟨h0, h1, h2, h3, h4⟩ := hw
  refine ⟨?_, (dec_of l.length l rfl h0 h3 h2).1, he, h4⟩
  unfold parseUintB
  rw [if_neg h0]
  exact pm_mk (2 ^ 32 - 1) (by decide) l 0 h3 h4
theorem num_no (l : B8) (h : ¬ 0 ≤ numB l) (u : Nat) (hp : parseUintB 32 l = .ok u) : decDigits u ≠ l ∧ u ≤ 4294967295 := by
  unfold parseUintB at hp
  split at hp
  · cases hp
  · rename_i h0
    obtain ⟨h1, h2, h3⟩ := pm_ok (2 ^ 32 - 1) (by decide) l 0 u (by omega) hp
    have h4 : u ≤ 4294967295 := h3
    refine ⟨?_, h4⟩
    intro e
    apply h
    have hw : wordOk l := by
      refine ⟨h0, ?_, ?_, h1, by rw [valB_eq, ← h2]; exact h4⟩
      · rw [← e]; exact dec_len 9 u (by have : (10 : Nat) ^ (9 + 1) = 10000000000 := by decide
                                        omega)
      · intro hl
        rw [← e] at hl ⊢
        refine dec_head u ?_
        by_cases hu : u < 10
        · rw [dec_small u hu] at hl; simp at hl
        · omega
    rw [numB_ok l hw]; omega
end Go.Proofs.YtlopmejmionnpaaDoor.As
