/- Plain Lean: the locks of the package queue: who waits enters in order. No program in sight. -/
import Derived.Test.YtckmkaeopnnbbaaGreatDoorTqV
import Derived.Test.YtckmkaeopnnbbaaGreatDoorTqM
import Derived.Test.YtckmkaeopnnbbaaGreatDoorTqL
import Derived.Test.YtckmkaeopnnbbaaGreatDoorQuK
set_option linter.unusedVariables false
set_option linter.unusedSimpArgs false
namespace Go.Proofs.YtckmkaeopnnbbaaGreatDoor.As.T

theorem zeros (n i : Nat) : (mem0 (List.replicate n 0)).getD i 0 = 0 := by
  unfold mem0
  rw [List.replicate_append_replicate, List.getD_eq_getElem?_getD, List.getElem?_replicate]
  split <;> rfl
theorem mcs_runsF {T R : Nat} (room : Nat) (hT : T ≤ 4) (hR0 : 0 < R) (hR : R ≤ 4) : RunsF (codesR (lim (quF 4 T)) (lim (quG 4 T)) T R) (quM 4 T) room T := fun l => by
  have hc : ∀ t, t < T → (codesR (lim (quF 4 T)) (lim (quG 4 T)) T R)[t]? = some (McsF.codeT T R t) := fun t ht => codes_at (quF 4 T) (quG 4 T) hT ht
  obtain ⟨s', hr, f', i', h⟩ := McsF.run (T := T) (R := R) (by omega) (by omega) hc l (inv0F (McsF.X T R) (quM 4 T) room (by show 18 + 2 * T = 16 + (List.replicate (2 + 2 * T) (0 : Int)).length; rw [List.length_replicate]; omega) hR0 (fun _ => by show 0 < 46; decide) (fun _ => rfl) rfl ⟨fun _ => 0, fun _ => 0, fun _ => 0, [], fun t ht => by
    rw [buf0]
    exact McsF.At.a0H44 rfl (by rw [show quM 4 T = List.replicate (2 + 2 * T) 0 from rfl, zeros]; show (0 : Int) ≠ _; unfold McsF.meN; omega), fun t ht => zeros _ _, fun t ht e => absurd e (by decide), by simp, fun t ht => ⟨fun e => (by cases e), fun e => absurd rfl e⟩, fun t ht => (by cases ht), fun h r e => (by cases e), zeros _ _, rfl⟩)
  exact ⟨s', hr, factsF h⟩
theorem clh_facts : ∀ T : Fin 5, ∀ t : Fin 4, t.val < T.val → (mem0 (quM 5 T)).getD (19 + T + t) 0 = (t.val : Int) ∧ (mem0 (quM 5 T)).getD (19 + 2 * T + t) 0 = 0 := by decide +kernel
theorem clh_facts2 : ∀ T : Fin 5, (mem0 (quM 5 T)).getD 16 0 = (T.val : Int) ∧ (mem0 (quM 5 T)).getD 17 0 = 0 ∧ (mem0 (quM 5 T)).getD (18 + T) 0 = 0 ∧ (quM 5 T).length = 3 + 3 * T := by decide +kernel
theorem clh_runsF {T R : Nat} (room : Nat) (hT : T ≤ 4) (hR0 : 0 < R) (hR : R ≤ 4) : RunsF (codesR (lim (quF 5 T)) (lim (quG 5 T)) T R) (quM 5 T) room T := fun l => by
  have hc : ∀ t, t < T → (codesR (lim (quF 5 T)) (lim (quG 5 T)) T R)[t]? = some (ClhF.codeT T R t) := fun t ht => codes_at (quF 5 T) (quG 5 T) hT ht
  have h1 := fun t (ht : t < T) => clh_facts ⟨T, by omega⟩ ⟨t, by omega⟩ ht
  obtain ⟨f1, f2, f3, f4⟩ := clh_facts2 ⟨T, by omega⟩
  dsimp only at h1 f1 f2 f3 f4
  obtain ⟨s', hr, f', i', h⟩ := ClhF.run (T := T) (R := R) (by omega) (by omega) hc l (inv0F (ClhF.X T R) (quM 5 T) room (by show 19 + 3 * T = _; rw [f4]; omega) hR0 (fun _ => by show 0 < 37; decide) (fun _ => rfl) rfl ⟨fun _ => 0, fun t => t, fun _ => 0, fun t => t, fun _ => 0, T, [], fun t ht => by
    rw [buf0]
    exact ClhF.At.a0H66 rfl (by rw [f2]; unfold ClhF.meN; omega) rfl, fun t ht => (h1 t ht).1, fun t ht => (h1 t ht).2, fun t ht => ⟨by omega, by omega⟩, fun t u _ _ e => e, ⟨Nat.le_refl _, f3⟩, fun t ht e => absurd rfl e, by simp, fun t ht => ⟨fun e => (by cases e), fun e => absurd rfl e⟩, fun t ht => (by cases ht), fun h r e => (by cases e), fun t ht => (by cases ht), f1, rfl⟩)
  exact ⟨s', hr, factsF h⟩
theorem que_runsF (k T R room : Nat) (hk : k = 4 ∨ k = 5) (hT : T ≤ 4) (hR0 : 0 < R) (hR : R ≤ 4) : RunsF (codesR (lim (quF k T)) (lim (quG k T)) T R) (quM k T) room T := by
  rcases hk with rfl | rfl
  · exact mcs_runsF room hT hR0 hR
  · exact clh_runsF room hT hR0 hR
end Go.Proofs.YtckmkaeopnnbbaaGreatDoor.As.T
