/- Plain Lean: the locks of the package duo: one at a time. No program in sight. -/
import Derived.Test.YtipepbfpfmadaaaGreatDoorTqW
import Derived.Test.YtipepbfpfmadaaaGreatDoorTq4
import Derived.Test.YtipepbfpfmadaaaGreatDoorTq6
import Derived.Test.YtipepbfpfmadaaaGreatDoorDoK
set_option linter.unusedVariables false
set_option linter.unusedSimpArgs false
namespace Go.Proofs.YtipepbfpfmadaaaGreatDoor.As.T

theorem pet_runs {A R : Nat} (room : Nat) (hA : A < 2) (hR0 : 0 < R) (hR : R ≤ 4) : RunsOk (codesR (lim (duF 6 A)) (lim (duG 6 A)) 2 R) (duM 6) room 2 R := fun l => by
  have hc : ∀ t, t < 2 → (codesR (lim (duF 6 A)) (lim (duG 6 A)) 2 R)[t]? = some (Pet.codeT A R t) := fun t ht => codes_at (duF 6 A) (duG 6 A) (by omega) ht
  obtain ⟨s', hr, f', i', h⟩ := Pet.run (A := A) (R := R) hA (by omega) hc l (inv0 (Pet.X A R) (duM 6) room rfl hR0 (Nat.zero_lt_succ _) rfl ⟨fun _ => 0, ⟨fun t ht => by
    rw [buf0]
    have e : (mem0 (duM 6)).getD (Pet.ownA A t) 0 = 0 := by rcases Pet.own_ne A t with ⟨e, _⟩ | ⟨e, _⟩ <;> rw [e] <;> rfl
    rw [e]
    exact Pet.At.a0H44 rfl rfl (by show (0 : Int) ≠ _; omega), fun _ _ _ _ _ h => absurd h (by decide), fun _ _ _ _ _ h => absurd h (by decide), .inl rfl⟩⟩)
  exact ⟨s', hr, facts h⟩
theorem dek_runs {A R : Nat} (room : Nat) (hA : A < 2) (hR0 : 0 < R) (hR : R ≤ 4) : RunsOk (codesR (lim (duF 7 A)) (lim (duG 7 A)) 2 R) (duM 7) room 2 R := fun l => by
  have hc : (codesR (lim (duF 7 A)) (lim (duG 7 A)) 2 R)[A]? = some (Dek.codeF R A) := by
    rw [codes_at (duF 7 A) (duG 7 A) (by omega) hA]
    show some (roundsR (resL (if A = A then linDekFast 16 A else linDekSlow 16 A)) (resL (if A = A then linDekOutA 16 A else linDekOutB 16 A)) R []) = _
    rw [if_pos rfl, if_pos rfl]; rfl
  have hc2 : (codesR (lim (duF 7 A)) (lim (duG 7 A)) 2 R)[1 - A]? = some (Dek.codeS R (1 - A)) := by
    rw [codes_at (duF 7 A) (duG 7 A) (t := 1 - A) (by omega) (by omega)]
    show some (roundsR (resL (if 1 - A = A then linDekFast 16 (1 - A) else linDekSlow 16 (1 - A))) (resL (if 1 - A = A then linDekOutA 16 (1 - A) else linDekOutB 16 (1 - A))) R []) = _
    rw [if_neg (by omega), if_neg (by omega)]; rfl
  obtain ⟨s', hr, f', i', h⟩ := Dek.run (A := A) (R := R) hA (by omega) hc hc2 l (inv0W (Dek.X A R) (duM 7) room rfl hR0 (fun t => by show 0 < if t = A then 36 else 32; split <;> decide) (fun t => by show (if t = A then Dek.inF else Dek.inS) 0 = false; split <;> rfl) ⟨0, 0, 0, false, 0, by rw [buf0]; exact .nil, Dek.AtF.f0, ⟨fun e => by omega, fun e => by omega, fun _ => by show (0 : Int) ≠ _; unfold Dek.meN; omega⟩, rfl, by rw [buf0]; exact Dek.AtS.s0H44 rfl (by show (0 : Int) ≠ _; unfold Dek.meN; omega), rfl, fun e => absurd e (by decide), fun e => absurd e (by decide)⟩)
  exact ⟨s', hr, factsW h⟩
theorem duo_runs (k A R room : Nat) (hk : k = 6 ∨ k = 7) (hA : A < 2) (hR0 : 0 < R) (hR : R ≤ 4) : RunsOk (codesR (lim (duF k A)) (lim (duG k A)) 2 R) (duM k) room 2 R := by
  rcases hk with rfl | rfl
  · exact pet_runs room hA hR0 hR
  · exact dek_runs room hA hR0 hR
end Go.Proofs.YtipepbfpfmadaaaGreatDoor.As.T
