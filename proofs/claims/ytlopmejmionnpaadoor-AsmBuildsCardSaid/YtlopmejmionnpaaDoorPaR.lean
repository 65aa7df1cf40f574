/- A builder from call to call, beside other memory that is kept. -/
import Derived.Test.YtlopmejmionnpaaDoorPaQ
import Derived.Test.YtlopmejmionnpaaDoorAsmAt
import Derived.Test.YtlopmejmionnpaaDoorAsmB2
set_option linter.unusedVariables false
namespace Go.Proofs.YtlopmejmionnpaaDoor.As
open Go.RowKit

/-- A builder with state s at block g; w: the world when it began; K: blocks that it leaves alone. -/
def BB (w W : World) (g : Nat) (s : BS) (K : Nat → Prop) : Prop :=
  ∃ F, Bld W g s F ∧ (∀ k, F k → w.heap.size ≤ k) ∧ Below w.heap.size w W ∧ ∀ k, K k → ¬ F k ∧ k < W.heap.size
theorem BB.bel {w W : World} {g : Nat} {s : BS} {K : Nat → Prop} (h : BB w W g s K) : Below w.heap.size w W := by obtain ⟨F, _, _, h, _⟩ := h; exact h
theorem BB.new (w : World) (K : Nat → Prop) (hK : ∀ k, K k → k < w.heap.size) : BB w (w.alloc (.cells #[.slice none 0 0, .map none, .slice none 0 0, .bool false] 43)) w.heap.size BS.zero K := by
  refine ⟨fun k => k = w.heap.size, ⟨⟨Nat.le_refl _, fun p hp => (by cases hp), fun p hp => (by cases hp)⟩, .slice none 0 0, .map none, .slice none 0 0, heap_alloc_new _ _, World.ownsRow_nil _ _ _ _, World.ownsRow_nil _ _ _ _, .inl ⟨rfl, rfl⟩, fun k => ?_⟩, fun k hk => by omega, (Below.refl _ _).alloc (Nat.le_refl _) _, fun k hk => ⟨fun e => ?_, ?_⟩⟩
  · simp [mapBlock, Value.ownBlock]
  · have := hK k hk; omega
  · have := hK k hk; simp; omega
theorem BB.step {w W : World} {g : Nat} {s s' : BS} {K : Nat → Prop} {f : FuncId} {args : Array Value} (h : BB w W g s K) (hc : ∀ F, Bld W g s F → Calls Tryd.prog f args W (BPost W g F s')) :
    Calls Tryd.prog f args W fun e W' => e = .returned (.tuple #[]) ∧ BB w W' g s' K ∧ W.heap.size ≤ W'.heap.size ∧ ∀ k, K k → W'.heap[k]? = W.heap[k]? := by
  obtain ⟨F, hb, hF, hw, hK⟩ := h
  refine (hc F hb).mono ?_
  rintro e W' ⟨rfl, F', hb', hs⟩
  obtain ⟨hB, hF'⟩ := hs.below hw.size hF
  exact ⟨rfl, ⟨F', hb', hF', hw.trans hB, fun k hk => ⟨fun e => by
    rcases hs.foot k e with e | e
    · exact (hK k hk).1 e
    · have := (hK k hk).2; omega, Nat.lt_of_lt_of_le (hK k hk).2 hs.only.size⟩⟩, hs.only.size, fun k hk => hs.only.block k (hK k hk).2 (hK k hk).1⟩
theorem BB.below {w W W' : World} {g : Nat} {s : BS} {K : Nat → Prop} (h : BB w W g s K) (hb : Below W.heap.size W W') : BB w W' g s K := by
  obtain ⟨F, h1, hF, hw, hK⟩ := h
  exact ⟨F, ⟨h1.good, mem_below h1.mem hb (Nat.le_refl _)⟩, hF, hw.trans (hb.mono hw.size), fun k hk => ⟨(hK k hk).1, Nat.lt_of_lt_of_le (hK k hk).2 hb.size⟩⟩
/-- More is kept: what the builder does not own. -/
theorem BB.keep {w W W' : World} {g : Nat} {s : BS} {K : Nat → Prop} (h : BB w W g s K) (hb : Below W.heap.size W W') (K' : Nat → Prop) (hK : ∀ k, K' k → K k ∨ (W.heap.size ≤ k ∧ k < W'.heap.size)) : BB w W' g s K' := by
  obtain ⟨F, h1, hF, hw, hk⟩ := h
  refine ⟨F, ⟨h1.good, mem_below h1.mem hb (Nat.le_refl _)⟩, hF, hw.trans (hb.mono hw.size), fun k e => ?_⟩
  rcases hK k e with e | ⟨e1, e2⟩
  · exact ⟨(hk k e).1, Nat.lt_of_lt_of_le (hk k e).2 hb.size⟩
  · refine ⟨fun e => ?_, e2⟩
    obtain ⟨cv, pv, lv, hg, hown, hlinks, hpl, hF2⟩ := h1.mem
    rcases (hF2 k).1 e with e | e | e | e
    · have := (Array.getElem?_eq_some_iff.1 hg).1; omega
    · have := own_lt hown k e; omega
    · have := own_lt hlinks k e; omega
    · cases pv with
      | map m =>
        cases m with
        | none => simp [mapBlock] at e
        | some mb =>
          have e2 : mb = k := by simpa [mapBlock] using e
          obtain ⟨es, cl, hm⟩ := map_ne hpl rfl
          have := (Array.getElem?_eq_some_iff.1 hm).1
          omega
      | _ => simp [mapBlock] at e
theorem BB.code {w W : World} {g : Nat} {s : BS} {K : Nat → Prop} (h : BB w W g s K) (T : TabI W) (hn : s.code.length < 1000000) (hnm : ∀ p ∈ s.links, p.2.length ≤ maxLen) :
    Calls Tryd.prog 23 #[.pointer (some ⟨g, 0, none⟩)] W fun e W' => BB w W' g s K ∧ CodePost W s e W' := by
  have h' := h
  obtain ⟨F, h1, _, _, _⟩ := h
  exact (code_any W g s F h1 T hn hnm).mono fun e W' hp => ⟨h'.below hp.1, hp⟩
end Go.Proofs.YtlopmejmionnpaaDoor.As
