/- Plain Lean: runs of peterson's lock: nobody is passed twice. No program in sight. -/
import Derived.Test.YtckmkaeopnnbbaaGreatDoorTqG
import Derived.Test.YtckmkaeopnnbbaaGreatDoorTqP
set_option linter.unusedVariables false
set_option linter.unusedSimpArgs false
namespace Go.Proofs.YtckmkaeopnnbbaaGreatDoor.As.T

theorem inv0G (X : Wg.Lk) (mem : List Int) (room : Nat) (hM : X.M = 16 + mem.length) (hR : 0 < X.R) (hL : ∀ t, 0 < X.Lb t) (hin : ∀ t, X.inR t 0 = false) (hph : X.ph 0 = 0) (hI : X.I (fun _ => false) (mem0 mem) (fun _ => loc0) (ts0 (mem0 mem) room X.T).buf) : X.Inv (ts0 (mem0 mem) room X.T) (fun _ => loc0) ((-1 : Int), fun _ => false) where
  nths := by simp [ts0]
  nb := by simp [ts0]
  nm := by show (mem0 mem).length = X.M; rw [hM]; unfold mem0; rw [List.length_append, List.length_replicate]
  slp := rfl
  hs := fun t ht => by
    show (List.replicate X.T th0)[t]? = _
    rw [List.getElem?_replicate, if_pos ht]
    have e : Loc.th (X.Lb t) loc0 = th0 := by unfold Loc.th loc0 th0; simp
    rw [e]
  fr := fun t ht => .inl ⟨rfl, hR, hL t⟩
  I := hI
  one := rfl
  i1 := .inl rfl
  who := fun t ht => ⟨fun e => by have e3 : (-1 : Int) = t := e; omega, fun e => by have e2 : X.inR t 0 = true := e; rw [hin] at e2; cases e2⟩
  fine := fun e he => by cases he
  sum := by
    have h : ∀ t, t < X.T → loc0.cnt (X.js t) ((ts0 (mem0 mem) room X.T).buf t) = 0 := fun t _ => by rw [buf0]; unfold Loc.cnt loc0 c0; simp
    rw [sumT_congr X.T h, sumT_const]
    show (mem0 mem).getD 0 0 = _
    simp [mem0, wr32, List.replicate]
  ff := ⟨fun _ => 0, rfl, fun t ht => hph.symm⟩
theorem mem4 (i : Nat) : (mem0 [0, 0, 0, 0]).getD i 0 = 0 := by
  show (List.replicate 20 (0 : Int)).getD i 0 = 0
  rw [List.getD_eq_getElem?_getD, List.getElem?_replicate]
  split <;> rfl
theorem pet_runsG {A R : Nat} (room : Nat) (hA : A < 2) (hR0 : 0 < R) (hR : R ≤ 4) (l : List (Nat × Nat)) : ∃ s', Ts.run (codesR (lim (PetF.petF A)) (lim (PetF.petG A)) 2 R) (ts0 (mem0 [0, 0, 0, 0]) room 2) l = some s' ∧ ∃ st p, byF s'.evs = some (st, p) := by
  obtain ⟨s', hr, f', i', h⟩ := PetF.run (A := A) (R := R) hA (by omega) (fun t ht => codes_at (PetF.petF A) (PetF.petG A) (by omega) ht) l (inv0G (PetF.X A R) [0, 0, 0, 0] room rfl hR0 (fun _ => Nat.zero_lt_succ _) (fun _ => rfl) rfl ⟨fun _ => 0, ⟨fun t ht => by
    rw [buf0]
    exact PetF.At.a0H44 rfl (mem4 _) (by rw [mem4]; omega), fun t u _ _ _ e => absurd e (by decide), fun t u _ _ _ e => absurd e (by decide), .inl (mem4 _), fun t u _ _ _ _ e => (by cases e)⟩⟩)
  obtain ⟨st, h1, _⟩ := h.ff
  exact ⟨s', hr, st, _, h1⟩
end Go.Proofs.YtckmkaeopnnbbaaGreatDoor.As.T
