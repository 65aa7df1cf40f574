/- The walk of deadlatchlaw15.turns. -/
import Derived.Test.YtckmkaeopnnbbaaGreatDoorTwA
import Derived.Test.YtckmkaeopnnbbaaGreatDoorGe
import Derived.Test.YtckmkaeopnnbbaaGreatDoorNL
set_option linter.unusedVariables false
set_option linter.unusedSimpArgs false
namespace Go.Proofs.YtckmkaeopnnbbaaGreatDoor.As
open Go.RowKit

theorem flatC_get : ∀ (l : List Cl) (vs : List Value), vs.length = l.length → ∀ (i : Nat) (c : Cl) (u : Value), l[i]? = some c → vs[i]? = some u → ∀ j, j < 6 → (flatC l vs)[i * 6 + j]? = (c.cells u)[j]?
  | [], _, _, i, c, u, h, _, _, _ => by simp at h
  | _ :: _, [], h, _, _, _, _, _, _, _ => by simp at h
  | a :: l, v :: vs, h, 0, c, u, h1, h2, j, hj => by
    injection h1 with h1; injection h2 with h2; subst h1; subst h2
    show (a.cells v ++ flatC l vs)[0 * 6 + j]? = _
    rw [Nat.zero_mul, Nat.zero_add, List.getElem?_append_left (by show j < 6; exact hj)]
  | a :: l, v :: vs, h, i + 1, c, u, h1, h2, j, hj => by
    show (a.cells v ++ flatC l vs)[(i + 1) * 6 + j]? = _
    rw [List.getElem?_append_right (by show 6 ≤ _; omega), show (i + 1) * 6 + j - (a.cells v).length = i * 6 + j by show (i + 1) * 6 + j - 6 = _; omega]
    exact flatC_get l vs (by simpa using h) i c u (by simpa using h1) (by simpa using h2) j hj
structure CallAt (W : World) (b off : Nat) (i : Nat) (c : Cl) (Au : Option Addr) (cu : Nat) : Prop where
  c0 : W.cell? ⟨b, off + i * 6, none⟩ = some (.int .i64 c.site)
  c1 : W.cell? ⟨b, off + i * 6 + 1, none⟩ = some (.int .i64 c.who)
  c2 : W.cell? ⟨b, off + i * 6 + 2, none⟩ = some (.int .i64 c.began)
  c3 : W.cell? ⟨b, off + i * 6 + 3, none⟩ = some (.int .i64 c.ended)
  c4 : W.cell? ⟨b, off + i * 6 + 4, none⟩ = some (.int .u32 c.res)
  c5 : W.cell? ⟨b, off + i * 6 + 5, none⟩ = some (.slice Au c.inner.length cu)
  rd : Rd W 1 (.slice Au c.inner.length cu) c.inner.length (c.inner.map (Value.int .i64))
theorem RdC.at {W : World} {l : List Cl} {A : Option Addr} {cap : Nat} (h : RdC W (.slice A l.length cap) l) (hl : 0 < l.length) : ∃ b off, A = some ⟨b, off, none⟩ ∧ b < W.heap.size ∧ ∀ (i : Nat) (c : Cl), l[i]? = some c → ∃ Au cu, CallAt W b off i c Au cu := by
  obtain ⟨vs, hvl, hrd, hri⟩ := h
  obtain ⟨b, off, hA, hb, hc⟩ := hrd.cells hl
  refine ⟨b, off, hA, hb, fun i c hi => ?_⟩
  have hlt := (List.getElem?_eq_some_iff.1 hi).1
  obtain ⟨u, hu⟩ : ∃ u, vs[i]? = some u := ⟨_, List.getElem?_eq_getElem (by omega)⟩
  have hr := hri i c u hi hu
  obtain ⟨Au, cu, rfl⟩ := hr.form
  have g := fun j hj => flatC_get l vs hvl i c _ hi hu j hj
  exact ⟨Au, cu, hc _ _ (g 0 (by decide)), hc _ _ (g 1 (by decide)), hc _ _ (g 2 (by decide)), hc _ _ (g 3 (by decide)), hc _ _ (g 4 (by decide)), hc _ _ (g 5 (by decide)), hr⟩
theorem CallAt.below {W W' : World} {B b off i : Nat} {c : Cl} {Au : Option Addr} {cu : Nat} (h : CallAt W b off i c Au cu) (hb : Below B W W') (hB : W.heap.size ≤ B) : CallAt W' b off i c Au cu := by
  have k : ∀ {x : Addr} {v : Value}, W.cell? x = some v → W'.cell? x = some v := fun {x v} hx => (World.cell?_of_block (hb.block x.block (Nat.lt_of_lt_of_le (block_lt_of_cell hx) hB))).trans hx
  exact ⟨k h.c0, k h.c1, k h.c2, k h.c3, k h.c4, k h.c5, h.rd.below hb hB⟩
end Go.Proofs.YtckmkaeopnnbbaaGreatDoor.As
