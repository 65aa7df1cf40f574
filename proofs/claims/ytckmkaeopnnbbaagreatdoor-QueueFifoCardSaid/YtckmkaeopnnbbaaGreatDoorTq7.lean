/- Plain Lean: threads of different codes: what the framework asks, with a thread's own sizes; remote flushes. No program in sight. -/
import Derived.Test.YtckmkaeopnnbbaaGreatDoorTq5
set_option linter.unusedVariables false
set_option linter.unusedSimpArgs false
namespace Go.Proofs.YtckmkaeopnnbbaaGreatDoor.As.Wd

section
variable {X : Lk} {s : Ts} {f : Nat → Loc} {i : Int} {t L js : Nat} {r : Nat → Bool}
theorem get_set {l : List Int} {a b : Nat} {v : Int} (h : a < l.length) : (l.set a v).getD b 0 = if a = b then v else l.getD b 0 := by
  rw [List.getD_eq_getElem?_getD, List.getElem?_set]
  by_cases e : a = b
  · subst e; rw [if_pos rfl, if_pos rfl, if_pos h]; rfl
  · rw [if_neg e, if_neg e, ← List.getD_eq_getElem?_getD]
theorem load_q {q : List (Nat × Int)} (hq : s.buf t = q) (a : Nat) : s.load t a = (lastQ q a).getD (s.mem.getD a 0) := by unfold Ts.load; rw [hq]
theorem empty_q {q : List (Nat × Int)} (hq : s.buf t = q) : s.empty t = decide (q.length = 0) := by unfold Ts.empty; rw [hq]
theorem at_ins {codes : List (List Ins)} {C B : List Ins} {p j : Nat} {r0 r1 r2 r3 r4 r5 r6 r7 : Int} (hc : codes[t]? = some C) (hs : s.ths[t]? = some (Loc.th L ⟨p, j, r0, r1, r2, r3, r4, r5, r6, r7, 0⟩)) (hg : C[p * L + j]? = (B[j]?).map (movI (p * L))) {i : Ins} (hi : B[j]? = some i) : AtI codes s t ⟨((p * L + j : Nat) : Int), [r0, r1, r2, r3, r4, r5, r6, r7], 0⟩ (movI (p * L) i) := by
  refine ⟨hs, ⟨C, hc, ?_⟩, rfl, by show (0 : Int) ≤ ((p * L + j : Nat) : Int); omega⟩
  show C[((p * L + j : Nat) : Int).toNat]? = _
  rw [Int.toNat_natCast, hg, hi]; rfl
theorem th_of {p j j' : Nat} {r0 r1 r2 r3 r4 r5 r6 r7 st : Int} (e : j' = j + 1) : Loc.th L ⟨p, j', r0, r1, r2, r3, r4, r5, r6, r7, st⟩ = ⟨((p * L + j : Nat) : Int) + 1, [r0, r1, r2, r3, r4, r5, r6, r7], st⟩ := by
  subst e; unfold Loc.th; congr 1
theorem th_jmp {p k : Nat} {r0 r1 r2 r3 r4 r5 r6 r7 st : Int} (hp : p ≤ 100) (hL : L ≤ 100) (hk : k < L) : Loc.th L ⟨p, k, r0, r1, r2, r3, r4, r5, r6, r7, st⟩ = ⟨wr32 ((k : Int) + ((p * L : Nat) : Int)), [r0, r1, r2, r3, r4, r5, r6, r7], st⟩ := by
  unfold Loc.th
  have h1 : p * L ≤ 100 * 100 := Nat.mul_le_mul hp hL
  have : wr32 ((k : Int) + ((p * L : Nat) : Int)) = ((p * L + k : Nat) : Int) := by unfold wr32; omega
  rw [this]
theorem th_last {p j : Nat} {r0 r1 r2 r3 r4 r5 r6 r7 st : Int} (e : j + 1 = L) : Loc.th L ⟨p + 1, 0, r0, r1, r2, r3, r4, r5, r6, r7, st⟩ = ⟨((p * L + j : Nat) : Int) + 1, [r0, r1, r2, r3, r4, r5, r6, r7], st⟩ := by
  unfold Loc.th; congr 1; show (((p + 1) * L + 0 : Nat) : Int) = _; rw [Nat.succ_mul]; omega
/-! ### Remote flushes -/
end
end Go.Proofs.YtckmkaeopnnbbaaGreatDoor.As.Wd
