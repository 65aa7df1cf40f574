/- Memory: a slice that is read, nil let in; slices.Clone of instructions. -/
import Derived.Test.YtlopmejmionnpaaDoorAsmMem2
import Derived.Test.YtlopmejmionnpaaDoorAsmB
set_option linter.unusedVariables false
namespace Go.Proofs.YtlopmejmionnpaaDoor.As
open Go.RowKit

theorem add_at (b off j : Nat) : (⟨b, off, none⟩ : Addr).add j = ⟨b, off + j, none⟩ := by unfold Addr.add; split <;> simp_all
/-- The slice value v of n elements, of so many cells each, reads as the cells xs. -/
def Rd (w : World) (size : Nat) (v : Value) (n : Nat) (xs : List Value) : Prop :=
  ∃ A cap, v = .slice A n cap ∧ n ≤ cap ∧ xs.length = n * size ∧ ((A = none ∧ n = 0) ∨ ∃ b off, A = some ⟨b, off, none⟩ ∧ b < w.heap.size ∧ ∀ j u, xs[j]? = some u → w.cell? ⟨b, off + j, none⟩ = some u)
theorem Rd.of_own {w : World} {base : Nat} {e : TypeId} {size : Nat} {v : Value} {n : Nat} {xs : List Value} (h : w.ownsRow base e size v n xs) : Rd w size v n xs := by
  rcases h.2 with ⟨rfl, rfl⟩ | ⟨g, cap, cur, rfl, _, hh, hc, _⟩
  · exact ⟨none, 0, rfl, Nat.le_refl _, h.1, .inl ⟨rfl, rfl⟩⟩
  · exact ⟨some ⟨g, 0, none⟩, cap, rfl, hc, h.1, .inr ⟨g, 0, rfl, (Array.getElem?_eq_some_iff.1 hh).1, fun j u hu => by rw [← add_at]; exact h.cells (g := g) rfl j u hu⟩⟩
theorem Rd.keep {w w' : World} {size : Nat} {v : Value} {n : Nat} {xs : List Value} (h : Rd w size v n xs) (hz : w.heap.size ≤ w'.heap.size) (hk : ∀ b off cap, v = .slice (some ⟨b, off, none⟩) n cap → w'.heap[b]? = w.heap[b]?) : Rd w' size v n xs := by
  obtain ⟨A, cap, rfl, hc, hl, h⟩ := h
  refine ⟨A, cap, rfl, hc, hl, ?_⟩
  rcases h with h | ⟨b, off, rfl, hb, h⟩
  · exact .inl h
  · exact .inr ⟨b, off, rfl, Nat.lt_of_lt_of_le hb hz, fun j u hu => (World.cell?_of_block (w := w) (a := ⟨b, off + j, none⟩) (hk b off cap rfl)).trans (h j u hu)⟩
theorem Rd.lt {w : World} {size : Nat} {n cap b off : Nat} {xs : List Value} (h : Rd w size (.slice (some ⟨b, off, none⟩) n cap) n xs) : b < w.heap.size := by
  obtain ⟨A, cap', e, _, _, h⟩ := h
  injection e with e1 e2 e3
  subst e1
  rcases h with ⟨h, _⟩ | ⟨b', off', h, hb, _⟩
  · cases h
  · injection h with h; injection h with h1 h2; subst h1; exact hb
theorem Rd.below {w w' : World} {B size : Nat} {v : Value} {n : Nat} {xs : List Value} (h : Rd w size v n xs) (hb : Below B w w') (hB : w.heap.size ≤ B) : Rd w' size v n xs :=
  h.keep hb.size (fun b off cap e => by subst e; exact hb.block b (Nat.lt_of_lt_of_le h.lt hB))
theorem Rd.drew {w : World} {size : Nat} {v : Value} {n : Nat} {xs : List Value} (h : Rd w size v n xs) : Rd w.drew size v n xs := h
theorem Rd.alloc {w : World} {size : Nat} {v : Value} {n : Nat} {xs : List Value} (h : Rd w size v n xs) (o : Obj) : Rd (w.alloc o) size v n xs := h.below ((Below.refl w.heap.size w).alloc (Nat.le_refl _) o) (Nat.le_refl _)
theorem Rd.len {w : World} {size : Nat} {v : Value} {n : Nat} {xs : List Value} (h : Rd w size v n xs) : xs.length = n * size := by
  obtain ⟨A, cap, rfl, hc, hl, h⟩ := h; exact hl
theorem Rd.form {w : World} {size : Nat} {v : Value} {n : Nat} {xs : List Value} (h : Rd w size v n xs) : ∃ A cap, v = .slice A n cap := by
  obtain ⟨A, cap, rfl, _⟩ := h; exact ⟨A, cap, rfl⟩
/-- The cells of what is read. -/
theorem Rd.cells {w : World} {size : Nat} {n cap : Nat} {A : Option Addr} {xs : List Value} (h : Rd w size (.slice A n cap) n xs) (hn : 0 < n) : ∃ b off, A = some ⟨b, off, none⟩ ∧ b < w.heap.size ∧ ∀ j u, xs[j]? = some u → w.cell? ⟨b, off + j, none⟩ = some u := by
  obtain ⟨A', cap', e, hc, hl, h⟩ := h
  injection e with e1 e2 e3
  subst e1
  rcases h with ⟨_, h⟩ | h
  · omega
  · exact h

set_option maxRecDepth 100000 in
set_option maxHeartbeats 400000 in
/-- slices.Clone of instructions. -/
theorem clone_any (w : World) (v : Value) (n : Nat) (xs : List Value) (h : Rd w 5 v n xs) (hn : n < 2000000) (h1 : ∀ u ∈ xs, u.oneCell' = true) :
    Calls Tryd.prog 38 #[v] w fun e w' => ∃ v', e = .returned v' ∧ w'.ownsRow w.heap.size 34 5 v' n xs ∧ Below w.heap.size w w' := by
  obtain ⟨A, cap, rfl, hc, hl, h⟩ := h
  obtain ⟨i0, hi, hz0, hz1, hz2⟩ := info_parts infoI
  rcases h with ⟨rfl, rfl⟩ | ⟨b, off, rfl, hb, hcell⟩
  · have hx : xs = [] := List.eq_nil_of_length_eq_zero (by simpa using hl)
    subst hx
    have hnil : ∀ W, (binOp .eql 23 (.slice none 0 cap) (.slice none 0 0)).run Tryd.prog W = .ok (.bool true) W := fun W => Lib.run_eql_slice_nil W _ _ _ _ _ _ _ Tryd.underlying23
    go_enter Tryd.func38, Tryd.ntmps38
    go_wp2_with fail
    go_ret
    exact ⟨_, rfl, World.ownsRow_nil _ _ _ _, Below.refl _ _⟩
  · have hnil : ∀ W, (binOp .eql 23 (.slice (some ⟨b, off, none⟩) n cap) (.slice none 0 0)).run Tryd.prog W = .ok (.bool false) W := fun W => Lib.run_eql_slice_nil W _ _ _ _ _ _ _ Tryd.underlying23
    have hne : (World.ownsRow (w.alloc (.cells #[] 34)) w.heap.size 34 5 (.slice (some ⟨w.heap.size, 0, none⟩) 0 0) 0 []) := ⟨rfl, .inr ⟨w.heap.size, 0, #[], rfl, Nat.le_refl _, heap_alloc_new _ _, Nat.le_refl _, Nat.zero_le _, rfl, rfl⟩⟩
    go_enter Tryd.func38, Tryd.ntmps38
    go_wp2_with (at_builtin; refine wpList_append_own _ rfl (.tmp 5) (.tmp 6) 23 rfl w.heap.size 34 i0 _ 5 40 Tryd.underlying23 hi hz0 hz1 hz2 rfl (by decide) _ 0 [] rfl hne ⟨b, off, none⟩ n cap xs rfl hl (fun j u hu => by rw [add_at]; exact (Below.cell ((Below.refl w.heap.size w).alloc (Nat.le_refl _) _) (p := ⟨b, off + j, none⟩) hb).trans (hcell j u hu)) h1 (by unfold maxLen; omega) (by omega) (by simp) ?_; intro v' w1 ho hgr hat)
    go_wp2_with fail
    go_ret
    have hgr2 : (w.alloc (.cells #[] 34)).grownBy w1 (some w.heap.size) := hgr
    exact ⟨_, rfl, by simpa using ho, ((Below.refl w.heap.size w).alloc (Nat.le_refl _) _).grown hgr2 (by simp) (fun k hk => by injection hk with hk; omega)⟩
end Go.Proofs.YtlopmejmionnpaaDoor.As
