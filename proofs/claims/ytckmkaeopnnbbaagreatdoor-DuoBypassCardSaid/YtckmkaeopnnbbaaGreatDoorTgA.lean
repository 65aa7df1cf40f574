/- Plain Lean: two threads: who is behind its fence, and who was passed since; nobody is passed twice. No program in sight. -/
import Derived.Test.YtckmkaeopnnbbaaGreatDoorGl
set_option linter.unusedVariables false
set_option linter.unusedSimpArgs false
namespace Go.Proofs.YtckmkaeopnnbbaaGreatDoor.As

/-- What an event does to each thread's state (0: not in an acquire; 1: in one; 2: behind its fence) and to whether it has been passed; none: somebody was passed twice. -/
def byS : Option ((Nat → Nat) × (Nat → Bool)) → Ev → Option ((Nat → Nat) × (Nat → Bool))
  | none, _ => none
  | some (st, p), e =>
    if e.who < 0 ∨ 1 < e.who ∨ e.k < 0 ∨ 4294967295 < e.k then none
    else if e.kind = 7 then
      (if e.k = 0 then (if st e.who.toNat = 0 then some (upF st e.who.toNat 1, p) else none)
      else if e.k = 1 then (if st e.who.toNat = 2 ∧ ¬ (st (1 - e.who.toNat) = 2 ∧ p (1 - e.who.toNat) = true) then some (upF st e.who.toNat 0, if st (1 - e.who.toNat) = 2 then upF p (1 - e.who.toNat) true else p) else none)
      else if e.k = 2 ∨ e.k = 3 then (if st e.who.toNat = 0 then some (st, p) else none)
      else none)
    else if e.kind = 5 then
      (if st e.who.toNat = 1 then some (upF st e.who.toNat 2, upF p e.who.toNat false) else if st e.who.toNat = 0 then some (st, p) else none)
    else some (st, p)
def byF (l : List Ev) : Option ((Nat → Nat) × (Nat → Bool)) := l.foldl byS (some (fun _ => 0, fun _ => false))
theorem byF_snoc (l : List Ev) (e : Ev) : byF (l ++ [e]) = byS (byF l) e := by simp [byF]
section
variable {p : Nat → Bool} {st : Nat → Nat} {e : Ev} {t : Nat}
theorem byS_keep (ht : t < 2) (hw : e.who = (t : Int)) (hk : e.k = 0) (h7 : e.kind ≠ 7) (h5 : e.kind ≠ 5) : byS (some (st, p)) e = some (st, p) := by
  simp only [byS]
  rw [if_neg (by omega), if_neg h7, if_neg h5]
theorem byS_begin (ht : t < 2) (hw : e.who = (t : Int)) (h7 : e.kind = 7) (hk : e.k = 0) (h0 : st t = 0) : byS (some (st, p)) e = some (upF st t 1, p) := by
  simp only [byS]
  rw [if_neg (by omega), if_pos h7, if_pos hk, hw, Int.toNat_natCast, if_pos h0]
theorem byS_enter (ht : t < 2) (hw : e.who = (t : Int)) (h7 : e.kind = 7) (hk : e.k = 1) (h2 : st t = 2) (ho : ¬ (st (1 - t) = 2 ∧ p (1 - t) = true)) : byS (some (st, p)) e = some (upF st t 0, if st (1 - t) = 2 then upF p (1 - t) true else p) := by
  simp only [byS]
  rw [if_neg (by omega), if_pos h7, if_neg (by omega), if_pos hk, hw, Int.toNat_natCast, if_pos ⟨h2, ho⟩]
theorem byS_mark (ht : t < 2) (hw : e.who = (t : Int)) (h7 : e.kind = 7) (hk : e.k = 2 ∨ e.k = 3) (h0 : st t = 0) : byS (some (st, p)) e = some (st, p) := by
  simp only [byS]
  rw [if_neg (by omega), if_pos h7, if_neg (by omega), if_neg (by omega), if_pos hk, hw, Int.toNat_natCast, if_pos h0]
theorem byS_fence (ht : t < 2) (hw : e.who = (t : Int)) (hk : e.k = 0) (h5 : e.kind = 5) (h1 : st t = 1) : byS (some (st, p)) e = some (upF st t 2, upF p t false) := by
  simp only [byS]
  rw [if_neg (by omega), if_neg (by omega), if_pos h5, hw, Int.toNat_natCast, if_pos h1]
end
theorem byF_k (evs : List Ev) : ∀ g, byF evs = some g → ∀ e ∈ evs, 0 ≤ e.k ∧ e.k ≤ 4294967295 := by
  rw [← List.reverse_reverse evs]
  induction evs.reverse with
  | nil => exact fun g _ e h => by cases h
  | cons a r ih =>
    rw [List.reverse_cons]
    intro g h e he
    rw [byF_snoc] at h
    cases hf : byF r.reverse with
    | none => rw [hf] at h; cases h
    | some q =>
      rcases List.mem_append.1 he with he | he
      · exact ih q hf e he
      · rw [List.mem_singleton.1 he]
        rw [hf] at h
        obtain ⟨W, st⟩ := q
        simp only [byS] at h
        split at h
        · cases h
        · omega
end Go.Proofs.YtckmkaeopnnbbaaGreatDoor.As
