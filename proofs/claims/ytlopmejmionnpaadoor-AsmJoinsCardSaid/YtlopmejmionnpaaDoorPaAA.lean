/- One slice of instructions behind the other. -/
import Derived.Test.YtlopmejmionnpaaDoorPaZ
import Derived.Maps.AppendAt
import Derived.Laws.AppendOwnNone
set_option linter.unusedVariables false
set_option linter.unusedSimpArgs false
namespace Go.Proofs.YtlopmejmionnpaaDoor.As
open Go.ChangeShapes Go.WideShapes Go.ChangeAt Go.RowKit

theorem grown_refl (w : World) (r : Option Nat) : w.grownBy w r := ⟨rfl, rfl, rfl, Nat.le_refl _, fun _ _ _ => rfl⟩
/-- A nil slice has no room. -/
def NilZ (v : Value) : Prop := ∀ n c, v = .slice none n c → n = 0 ∧ c = 0
theorem nil_open {H : Type} {enc : TypeId × Value → H} {W : World} {base : Nat} {sp : Nat → Bool} {held : Bool} {v : Value} {d : DataW H} {p : List MemPlace}
    (h : DataW.Trod enc Tryd.prog W base sp held 23 v d p) : NilZ v := by
  intro n c e
  subst e
  obtain ⟨fuel, hf⟩ := h
  rcases Go.Deep.open_slice Tryd.underlying23 hf with ⟨h0, _⟩ | ⟨a, len, cap', m, q, D, Pl, hcs, _⟩
  · have h1 : (Value.slice none n c) = .slice none 0 0 := by
      have : [Value.slice none n c] = [.slice none 0 0] := h0
      simpa using this
    injection h1 with e1 e2 e3
    exact ⟨e2, e3⟩
  · have : [Value.slice none n c] = [.slice (some a) len cap'] := hcs
    simp at this
theorem wpList_append_z {w : World} {ops : Array Oper} {rest : List Oper} {o : Oper} {a : Act} {Q : Exit → Act → World → Prop} (hgd : o.guard = none) (s x : Operand)
    (ho : o.op = .call { callee := .builtin .append, args := #[s, x], argTypes := #[23, 23] })
    (base : Nat) (v : Value) (n : Nat) (xs : List Value) (hs : a.eval s = v) (hown : w.ownsRow base 34 5 v n xs)
    (u : Value) (m : Nat) (l : List Ins) (hx : a.eval x = u) (hz : RdZ w u m l) (hnil : NilZ u) (h63 : n + m ≤ 1000000) (hbase : base ≤ w.heap.size)
    (h : ∀ v' w', w'.ownsRow base 34 5 v' (n + m) (xs ++ flat l) → w.grownBy w' v.ownBlock → wpList Tryd.prog ops Q rest (a.put o.dst v') w') : wpList Tryd.prog ops Q (o :: rest) a w := by
  obtain ⟨i0, hi, hz0, hz1, hz2⟩ := info_parts infoI
  obtain ⟨A, c, rfl, hl, hrd⟩ := hz
  cases A with
  | none =>
    obtain ⟨rfl, rfl⟩ := hnil m c rfl
    obtain rfl : l = [] := List.length_eq_zero_iff.1 hl
    exact wpList_append_own_none hgd s x _ ho base _ i0 5 Tryd.underlying23 hi v n xs hs hown hx (h v w (by simpa [flat] using hown) (grown_refl _ _))
  | some ad =>
    refine wpList_append_own_at (w := w) hgd s x _ ho base _ i0 _ 5 40 Tryd.underlying23 hi hz0 hz1 hz2 rfl (by decide) v n xs hs hown ad m c (flat l) hx (by rw [flat_len, hl]) (fun j q hq => ?_) (flat_one l) (by unfold maxLen; omega) (by omega) hbase (fun v' w' h1 h2 _ _ => h v' w' h1 h2)
    have hj := (List.getElem?_eq_some_iff.1 hq).1
    rw [flat_len, hl] at hj
    have hm : 0 < m := Nat.pos_of_ne_zero (fun e => by rw [e, Nat.zero_mul] at hj; exact absurd hj (Nat.not_lt_zero _))
    obtain ⟨A', c', e, _, _, hc⟩ := hrd hm
    clear h63
    rcases hc with ⟨e1, e2⟩ | ⟨b, off, e1, _, hc⟩
    · exact absurd e2 (Nat.pos_iff_ne_zero.1 hm)
    · have e3 : some ad = A' := (Value.slice.inj e).1
      obtain rfl : ad = ⟨b, off, none⟩ := Option.some.inj (e3.trans e1)
      rw [add_at]
      exact hc j q hq
end Go.Proofs.YtlopmejmionnpaaDoor.As
