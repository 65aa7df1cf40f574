/- Plain Lean: the locks of the package spin: one at a time. No program in sight. -/
import Derived.Test.YtipepbfpfmadaaaGreatDoorTqG
import Derived.Test.YtipepbfpfmadaaaGreatDoorTq1
import Derived.Test.YtipepbfpfmadaaaGreatDoorTq2
import Derived.Test.YtipepbfpfmadaaaGreatDoorTq3
set_option linter.unusedVariables false
set_option linter.unusedSimpArgs false
namespace Go.Proofs.YtipepbfpfmadaaaGreatDoor.As.T

theorem fine_tas : ∀ r : Fin 4, ∀ t : Fin 4, fineL (roundsR (resL (linTas 16 t)) (resL (linRel 16 t)) (r + 1) []) = true := by decide +kernel
theorem fine_ttas : ∀ r : Fin 4, ∀ t : Fin 4, fineL (roundsR (resL (linTtas 16 t)) (resL (linRel 16 t)) (r + 1) []) = true := by decide +kernel
theorem fine_tick : ∀ r : Fin 4, ∀ t : Fin 4, fineL (roundsR (resL (linTick 16 t)) (resL (linPass 16 t)) (r + 1) []) = true := by decide +kernel
theorem short_tas : ∀ t : Fin 4, shortL (resL (linTas 16 t)) = true := by decide +kernel
theorem short_ttas : ∀ t : Fin 4, shortL (resL (linTtas 16 t)) = true := by decide +kernel
theorem short_tick : ∀ t : Fin 4, shortL (resL (linTick 16 t)) = true := by decide +kernel
theorem short_rel : ∀ t : Fin 4, shortL (resL (linRel 16 t)) = true := by decide +kernel
theorem short_pass : ∀ t : Fin 4, shortL (resL (linPass 16 t)) = true := by decide +kernel
theorem tas_runs {T R : Nat} (room : Nat) (hT : T ≤ 4) (hR0 : 0 < R) (hR : R ≤ 3) : RunsOk (codesR (lim (linTas 16)) (lim (linRel 16)) T R) [0] room T R := fun l => by
  obtain ⟨s', hr, f', i', h⟩ := Tas.run (T := T) (R := R) hR0 (by omega) (fun t ht => codes_at (linTas 16) (linRel 16) hT ht) l (inv0 (Tas.X T R) [0] room rfl hR0 (Nat.zero_lt_succ _) rfl (fun t ht => by
    rw [buf0]
    exact Tas.At.a0F (by show (0 : Int) ≠ _; omega)))
  exact ⟨s', hr, facts h⟩
theorem ttas_runs {T R : Nat} (room : Nat) (hT : T ≤ 4) (hR0 : 0 < R) (hR : R ≤ 3) : RunsOk (codesR (lim (linTtas 16)) (lim (linRel 16)) T R) [0] room T R := fun l => by
  obtain ⟨s', hr, f', i', h⟩ := Ttas.run (T := T) (R := R) hR0 (by omega) (fun t ht => codes_at (linTtas 16) (linRel 16) hT ht) l (inv0 (Ttas.X T R) [0] room rfl hR0 (Nat.zero_lt_succ _) rfl (fun t ht => by
    rw [buf0]
    exact Ttas.At.a0F (by show (0 : Int) ≠ _; omega)))
  exact ⟨s', hr, facts h⟩
theorem tick_runs {T R : Nat} (room : Nat) (hT : T ≤ 4) (hR0 : 0 < R) (hR : R ≤ 3) : RunsOk (codesR (lim (linTick 16)) (lim (linPass 16)) T R) [0, 0, 0] room T R := fun l => by
  obtain ⟨s', hr, f', i', h⟩ := Tick.run (T := T) (R := R) (by omega) (by omega) (fun t ht => codes_at (linTick 16) (linPass 16) hT ht) l (inv0 (Tick.X T R) [0, 0, 0] room rfl hR0 (Nat.zero_lt_succ _) rfl ⟨fun _ => none, ⟨fun t ht => by
    rw [buf0]
    exact Tick.At.a0F rfl (by show (0 : Int) ≠ _; omega), fun _ _ _ _ _ _ => rfl, by decide, by decide, by
      have h : ∀ t, t < T → Tick.drew loc0 = 0 := fun t _ => rfl
      rw [sumT_congr T h, sumT_const]
      show (0 : Int) = _
      omega⟩⟩)
  exact ⟨s', hr, facts h⟩
end Go.Proofs.YtipepbfpfmadaaaGreatDoor.As.T
