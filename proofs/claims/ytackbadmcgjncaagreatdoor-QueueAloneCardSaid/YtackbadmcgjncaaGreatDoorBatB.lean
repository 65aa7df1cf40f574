/- A builder's calls beside blocks of their own: a struct that a function was handed. -/
import Derived.Test.YtackbadmcgjncaaGreatDoorSpinB
set_option linter.unusedVariables false
namespace Go.Proofs.YtackbadmcgjncaaGreatDoor.As
open Go.RowKit

/-- A new block is laid. -/
theorem Bat.alloc {w0 w : World} {F0 : Nat → Prop} {g N : Nat} {s : BS} (h : Bat w0 F0 g N s w) (o : Obj) :
    ∃ F, Bat (w.alloc o) F g N s (w.alloc o) ∧ (∀ k, F k → k < w.heap.size) ∧ ∀ N' s' w', Bat (w.alloc o) F g N' s' w' → Bat w0 F0 g N' s' w' := by
  obtain ⟨F, hb, hs, h1, h2⟩ := h
  have ha : Below w.heap.size w (w.alloc o) := (Below.refl _ w).alloc (Nat.le_refl _) o
  have hbl := mem_below hb.mem ha (Nat.le_refl _)
  refine ⟨F, Bat.start ⟨hb.good, hbl⟩ h1 h2, mem_lt hb.mem, ?_⟩
  rintro N' s' w' ⟨F', hb', hs', h1', h2'⟩
  exact ⟨F', hb', (hs.trans (Step.of_below ha (Nat.le_refl _))).trans hs', h1', h2'⟩
theorem Bat.kept {W w' : World} {F : Nat → Prop} {g N n : Nat} {s : BS} {x : Obj} (h : Bat W F g N s w') (hF : ∀ k, F k → k < n) (hn : n < W.heap.size) (hW : W.heap[n]? = some x) : w'.heap[n]? = some x := by
  obtain ⟨F', hb, hs, _, _⟩ := h
  rw [hs.1.block n hn (fun e => Nat.lt_irrefl n (hF n e))]
  exact hW
theorem cells5 {w : World} {n : Nat} {a b c d e : Value} {t : TypeId} (h : w.heap[n]? = some (.cells #[a, b, c, d, e] t (0, 0))) :
    w.cell? ⟨n, 0, none⟩ = some a ∧ w.cell? ⟨n, 1, none⟩ = some b ∧ w.cell? ⟨n, 2, none⟩ = some c ∧ w.cell? ⟨n, 3, none⟩ = some d ∧ w.cell? ⟨n, 4, none⟩ = some e := by
  have c0 := cell_of_row w n 0 _ _ _ h
  have c1 := cell_of_row w n 1 _ _ _ h
  have c2 := cell_of_row w n 2 _ _ _ h
  have c3 := cell_of_row w n 3 _ _ _ h
  have c4 := cell_of_row w n 4 _ _ _ h
  exact ⟨c0, c1, c2, c3, c4⟩
theorem cells3 {w : World} {n : Nat} {a b c : Value} {t : TypeId} (h : w.heap[n]? = some (.cells #[a, b, c] t (0, 0))) :
    w.cell? ⟨n, 0, none⟩ = some a ∧ w.cell? ⟨n, 1, none⟩ = some b ∧ w.cell? ⟨n, 2, none⟩ = some c := by
  have c0 := cell_of_row w n 0 _ _ _ h
  have c1 := cell_of_row w n 1 _ _ _ h
  have c2 := cell_of_row w n 2 _ _ _ h
  exact ⟨c0, c1, c2⟩
end Go.Proofs.YtackbadmcgjncaaGreatDoor.As
