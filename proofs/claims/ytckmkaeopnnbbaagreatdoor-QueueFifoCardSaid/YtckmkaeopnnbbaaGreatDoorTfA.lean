/- Plain Lean: who waits, in the order of the swaps of the word 16; who enters is always the first of them. No program in sight. -/
import Derived.Test.YtckmkaeopnnbbaaGreatDoorGl
set_option linter.unusedVariables false
set_option linter.unusedSimpArgs false
namespace Go.Proofs.YtckmkaeopnnbbaaGreatDoor.As

/-- What an event does to the row of who waits and to each thread's state (0: not in an acquire; 1: in one; 2: it waits in the row); none: somebody entered that was not the first. -/
def ffS : Option (List Nat × (Nat → Nat)) → Ev → Option (List Nat × (Nat → Nat))
  | none, _ => none
  | some (W, st), e =>
    if e.who < 0 ∨ e.k < 0 ∨ 4294967295 < e.k then none
    else if e.kind = 7 then
      (if e.k = 0 then (if st e.who.toNat = 0 then some (W, upF st e.who.toNat 1) else none)
      else if e.k = 1 then (if st e.who.toNat = 2 ∧ W.head? = some e.who.toNat then some (W.tail, upF st e.who.toNat 0) else none)
      else if e.k = 2 ∨ e.k = 3 then (if st e.who.toNat = 0 then some (W, st) else none)
      else none)
    else if e.kind = 4 ∧ e.addr = 16 then
      (if st e.who.toNat = 1 then some (W ++ [e.who.toNat], upF st e.who.toNat 2) else if st e.who.toNat = 0 then some (W, st) else none)
    else some (W, st)
def ffF (l : List Ev) : Option (List Nat × (Nat → Nat)) := l.foldl ffS (some ([], fun _ => 0))
theorem ffF_snoc (l : List Ev) (e : Ev) : ffF (l ++ [e]) = ffS (ffF l) e := by simp [ffF]
section
variable {W r : List Nat} {st : Nat → Nat} {e : Ev} {t : Nat}
theorem ffS_keep (hw : e.who = (t : Int)) (hk : e.k = 0) (h7 : e.kind ≠ 7) (h4 : ¬ (e.kind = 4 ∧ e.addr = 16)) : ffS (some (W, st)) e = some (W, st) := by
  simp only [ffS]
  rw [if_neg (by omega), if_neg h7, if_neg h4]
theorem ffS_begin (hw : e.who = (t : Int)) (h7 : e.kind = 7) (hk : e.k = 0) (h0 : st t = 0) : ffS (some (W, st)) e = some (W, upF st t 1) := by
  simp only [ffS]
  rw [if_neg (by omega), if_pos h7, if_pos hk, hw, Int.toNat_natCast, if_pos h0]
theorem ffS_enter (hw : e.who = (t : Int)) (h7 : e.kind = 7) (hk : e.k = 1) (h2 : st t = 2) (hW : W = t :: r) : ffS (some (W, st)) e = some (r, upF st t 0) := by
  simp only [ffS]
  rw [if_neg (by omega), if_pos h7, if_neg (by omega), if_pos hk, hw, Int.toNat_natCast, if_pos ⟨h2, by rw [hW]; rfl⟩, hW]
  rfl
theorem ffS_mark (hw : e.who = (t : Int)) (h7 : e.kind = 7) (hk : e.k = 2 ∨ e.k = 3) (h0 : st t = 0) : ffS (some (W, st)) e = some (W, st) := by
  simp only [ffS]
  rw [if_neg (by omega), if_pos h7, if_neg (by omega), if_neg (by omega), if_pos hk, hw, Int.toNat_natCast, if_pos h0]
theorem ffS_swap (hw : e.who = (t : Int)) (hk : e.k = 0) (h4 : e.kind = 4) (ha : e.addr = 16) (h1 : st t = 1) : ffS (some (W, st)) e = some (W ++ [t], upF st t 2) := by
  simp only [ffS]
  rw [if_neg (by omega), if_neg (by omega), if_pos ⟨h4, ha⟩, hw, Int.toNat_natCast, if_pos h1]
theorem ffS_swap0 (hw : e.who = (t : Int)) (hk : e.k = 0) (h4 : e.kind = 4) (h0 : st t = 0) : ffS (some (W, st)) e = some (W, st) := by
  simp only [ffS]
  rw [if_neg (by omega), if_neg (by omega)]
  split
  · rw [hw, Int.toNat_natCast, if_neg (by omega), if_pos h0]
  · rfl
end
theorem ffF_k (evs : List Ev) : ∀ g, ffF evs = some g → ∀ e ∈ evs, 0 ≤ e.k ∧ e.k ≤ 4294967295 := by
  rw [← List.reverse_reverse evs]
  induction evs.reverse with
  | nil => exact fun g _ e h => by cases h
  | cons a r ih =>
    rw [List.reverse_cons]
    intro g h e he
    rw [ffF_snoc] at h
    cases hf : ffF r.reverse with
    | none => rw [hf] at h; cases h
    | some p =>
      rcases List.mem_append.1 he with he | he
      · exact ih p hf e he
      · rw [List.mem_singleton.1 he]
        rw [hf] at h
        obtain ⟨W, st⟩ := p
        simp only [ffS] at h
        split at h
        · cases h
        · omega
end Go.Proofs.YtckmkaeopnnbbaaGreatDoor.As
