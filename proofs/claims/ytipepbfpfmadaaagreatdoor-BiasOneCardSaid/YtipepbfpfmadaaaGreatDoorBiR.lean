/- Plain Lean: the biased lock: one at a time. No program in sight. -/
import Derived.Test.YtipepbfpfmadaaaGreatDoorTqW
import Derived.Test.YtipepbfpfmadaaaGreatDoorTq9
import Derived.Test.YtipepbfpfmadaaaGreatDoorBiK
set_option linter.unusedVariables false
set_option linter.unusedSimpArgs false
namespace Go.Proofs.YtipepbfpfmadaaaGreatDoor.As.T

theorem bia_runs (A T R room : Nat) (hA : A < T) (hT : T ≤ 4) (hR0 : 0 < R) (hR : R ≤ 4) : RunsOk (codesR (lim (biF A)) (lim (biG A)) T R) [0, 0, 0, 0] room T R := fun l => by
  have hc : (codesR (lim (biF A)) (lim (biG A)) T R)[A]? = some (Bia.codeB R A) := by
    rw [codes_at (biF A) (biG A) hT hA]
    show some (roundsR (resL (if A = A then linBiasOwn 16 A else linBiasOther 16 A)) (resL (if A = A then linBiasLeave 16 A else linBiasOut 16 A)) R []) = _
    rw [if_pos rfl, if_pos rfl]; rfl
  have hc2 : ∀ u, u < T → u ≠ A → (codesR (lim (biF A)) (lim (biG A)) T R)[u]? = some (Bia.codeO R u) := fun u hu hne => by
    rw [codes_at (biF A) (biG A) hT hu]
    show some (roundsR (resL (if u = A then linBiasOwn 16 u else linBiasOther 16 u)) (resL (if u = A then linBiasLeave 16 u else linBiasOut 16 u)) R []) = _
    rw [if_neg hne, if_neg hne]; rfl
  obtain ⟨s', hr, f', i', h⟩ := Bia.run (A := A) (T := T) (R := R) hA (by omega) hc hc2 l (inv0W (Bia.X A T R) [0, 0, 0, 0] room rfl hR0 (fun t => by show 0 < if t = A then 42 else 37; split <;> decide) (fun t => by show (if t = A then Bia.inB else Bia.inO) 0 = false; split <;> rfl) ⟨false, 0, 0, 0, false, false, fun _ => 0, by rw [buf0]; exact Wd.Pa.nil, (by show 0 ≤ 4; decide), Bia.AtB.b0, ⟨fun e => by omega, fun e => by omega, fun _ => by show (0 : Int) ≠ _; unfold Bia.meN; omega⟩, ⟨fun e => by omega, fun _ => by show (0 : Int) ≠ _; unfold Bia.meN; omega⟩, rfl, fun u hu hne => by rw [buf0]; exact Bia.AtO.o0H44 rfl (by show (0 : Int) ≠ _; unfold Bia.meN; omega) (by show (0 : Int) ≠ _; unfold Bia.meN; omega), .inl rfl, fun _ _ _ e => absurd e (by decide), fun _ _ _ e => absurd e (by decide), fun e => absurd e (by decide), fun _ => ⟨fun _ _ _ => by decide, fun e => absurd (show (0 : Int) = 1 from e) (by decide)⟩, fun _ _ _ e => absurd e (by decide), fun e => absurd e (by decide)⟩)
  exact ⟨s', hr, factsW h⟩
end Go.Proofs.YtipepbfpfmadaaaGreatDoor.As.T
