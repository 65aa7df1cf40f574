/- Plain Lean: runs whose events put in by the row of who waits. No program in sight. -/
import Derived.Test.YtckmkaeopnnbbaaGreatDoorTqG
import Derived.Test.YtckmkaeopnnbbaaGreatDoorTfP
set_option linter.unusedVariables false
set_option linter.unusedSimpArgs false
namespace Go.Proofs.YtckmkaeopnnbbaaGreatDoor.As.T

theorem inv0F (X : Wf.Lk) (mem : List Int) (room : Nat) (hM : X.M = 16 + mem.length) (hR : 0 < X.R) (hL : ∀ t, 0 < X.Lb t) (hin : ∀ t, X.inR t 0 = false) (hph : X.ph 0 = 0) (hI : X.I [] (mem0 mem) (fun _ => loc0) (ts0 (mem0 mem) room X.T).buf) : X.Inv (ts0 (mem0 mem) room X.T) (fun _ => loc0) ((-1 : Int), []) where
  nths := by simp [ts0]
  nb := by simp [ts0]
  nm := by show (mem0 mem).length = X.M; rw [hM]; unfold mem0; rw [List.length_append, List.length_replicate]
  slp := rfl
  hs := fun t ht => by
    show (List.replicate X.T th0)[t]? = _
    rw [List.getElem?_replicate, if_pos ht]
    have e : Loc.th (X.Lb t) loc0 = th0 := by unfold Loc.th loc0 th0; simp
    rw [e]
  fr := fun t ht => .inl ⟨rfl, hR, hL t⟩
  I := hI
  one := rfl
  i1 := .inl rfl
  who := fun t ht => ⟨fun e => by have e3 : (-1 : Int) = t := e; omega, fun e => by have e2 : X.inR t 0 = true := e; rw [hin] at e2; cases e2⟩
  fine := fun e he => by cases he
  sum := by
    have h : ∀ t, t < X.T → loc0.cnt (X.js t) ((ts0 (mem0 mem) room X.T).buf t) = 0 := fun t _ => by rw [buf0]; unfold Loc.cnt loc0 c0; simp
    rw [sumT_congr X.T h, sumT_const]
    show (mem0 mem).getD 0 0 = _
    simp [mem0, wr32, List.replicate]
  ff := ⟨fun _ => 0, rfl, fun t ht => hph.symm⟩
/-- Whatever the picks, whoever enters is the first that waits. -/
def RunsF (codes : List (List Ins)) (mem : List Int) (room T : Nat) : Prop := ∀ l, ∃ s', Ts.run codes (ts0 (mem0 mem) room T) l = some s' ∧ ∃ W st, ffF s'.evs = some (W, st)
theorem factsF {X : Wf.Lk} {s : Ts} {f : Nat → Loc} {i : Int × List Nat} (h : X.Inv s f i) : ∃ W st, ffF s.evs = some (W, st) := by
  obtain ⟨st, h1, _⟩ := h.ff
  exact ⟨_, st, h1⟩
end Go.Proofs.YtckmkaeopnnbbaaGreatDoor.As.T
