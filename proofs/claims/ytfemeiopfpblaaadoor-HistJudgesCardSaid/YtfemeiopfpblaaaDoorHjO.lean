/- What comes into the law HistJudges, opened: objects; acts, each with its data. -/
import Derived.Test.YtfemeiopfpblaaaDoorHjJ1
import Derived.WalkKit
import Derived.ProofKit
import Derived.OpenShut
import Derived.Deep.DeepHandedRow
import Derived.Deep.Slices
import Derived.Lib.LaidTab
set_option linter.unusedVariables false
set_option linter.unusedSimpArgs false
set_option maxRecDepth 20000
namespace Go.Proofs.YtfemeiopfpblaaaDoor.As
open Go.ChangeShapes Go.WideShapes Go.ChangeAt Go.RowKit

theorem cell_in {w : World} {a : Addr} {v : Value} (h : w.cell? a = some v) : a.block < w.heap.size ∧ a.spot = none := by
  unfold World.cell? at h
  split at h
  · next e =>
    refine ⟨(Array.getElem?_eq_some_iff.1 e).1, ?_⟩
    cases hs : a.spot with
    | none => rfl
    | some x => rw [hs] at h; simp at h
  · cases h

theorem get_some {α : Type} {xs : List α} {i n : Nat} (h : xs.length = n) (hi : i < n) : ∃ y, xs[i]? = some y := ⟨_, List.getElem?_eq_getElem (by omega)⟩
theorem list4 {α : Type} : ∀ {l : List α}, l.length = 4 → ∃ a b c d, l = [a, b, c, d]
  | [a, b, c, d], _ => ⟨a, b, c, d, rfl⟩
theorem list1 {α : Type} : ∀ {l : List α}, l.length = 1 → ∃ a, l = [a]
  | [a], _ => ⟨a, rfl⟩
theorem list11 {α : Type} : ∀ {l : List α}, l.length = 11 → ∃ a b c d e f g h i j k, l = [a, b, c, d, e, f, g, h, i, j, k]
  | [a, b, c, d, e, f, g, h, i, j, k], _ => ⟨a, b, c, d, e, f, g, h, i, j, k, rfl⟩
theorem one_ob {H : Type} {enc : TypeId × Value → H} {W : World} {base n : Nat} {sp : Nat → Bool} {held : Bool} {cs : List Value} {x : DataW H × List MemPlace}
    (h : DataW.trod enc Tryd.prog W base sp held n 48 cs = some x) (hl : cs.length = 4) : ∃ o : Ob, cs = o.cells := by
  obtain ⟨x0, x1, x2, x3, rfl⟩ := list4 hl
  have z1 : Tryd.prog.cellsOf 3 = 1 := by kernel_rfl
  obtain ⟨xs, m, _, _, _, hx, hfs⟩ := DataW.trod_struct Tryd.underlying48 h
  have hx4 : xs.length = 4 := hx
  have f0 : DataW.trod enc Tryd.prog W base sp held m 3 (List.take (Tryd.prog.cellsOf 3) [x0, x1, x2, x3]) = xs[0]? := hfs 0 _ rfl
  have f1 : DataW.trod enc Tryd.prog W base sp held m 3 (List.take (Tryd.prog.cellsOf 3) [x1, x2, x3]) = xs[1]? := hfs 1 _ rfl
  have f2 : DataW.trod enc Tryd.prog W base sp held m 3 (List.take (Tryd.prog.cellsOf 3) [x2, x3]) = xs[2]? := hfs 2 _ rfl
  have f3 : DataW.trod enc Tryd.prog W base sp held m 3 (List.take (Tryd.prog.cellsOf 3) [x3]) = xs[3]? := hfs 3 _ rfl
  rw [z1] at f0 f1 f2 f3
  obtain ⟨y0, hy0⟩ := get_some hx4 (show 0 < 4 by decide)
  obtain ⟨y1, hy1⟩ := get_some hx4 (show 1 < 4 by decide)
  obtain ⟨y2, hy2⟩ := get_some hx4 (show 2 < 4 by decide)
  obtain ⟨y3, hy3⟩ := get_some hx4 (show 3 < 4 by decide)
  obtain ⟨a, ha, _, _⟩ := DataW.trod_int Tryd.underlying3 (f0.trans hy0)
  obtain ⟨b, hb, _, _⟩ := DataW.trod_int Tryd.underlying3 (f1.trans hy1)
  obtain ⟨c, hc, _, _⟩ := DataW.trod_int Tryd.underlying3 (f2.trans hy2)
  obtain ⟨d, hd, _, _⟩ := DataW.trod_int Tryd.underlying3 (f3.trans hy3)
  simp only [List.take_succ_cons, List.take_zero, List.cons.injEq, and_true] at ha hb hc hd
  subst ha hb hc hd
  exact ⟨⟨a, b, c, d⟩, rfl⟩
/-- A slice of objects that comes in. -/
theorem objs_open {H : Type} {enc : TypeId × Value → H} {W : World} {b0 base : Nat} {r : Reach} {sp : Nat → Bool} {held : Bool} {v : Value} {d : DataW H} {p : List MemPlace}
    (hv : Value.okWide Tryd.prog W r b0 22 v) (h : DataW.Trod enc Tryd.prog W base sp held 22 v d p) : ∃ n l, InO W v n l := by
  obtain ⟨A, n, cap, rfl⟩ := okWide_slice Tryd.underlying22 hv
  obtain ⟨fuel, hf⟩ := h
  have z4 : Tryd.prog.cellsOf 48 = 4 := by kernel_rfl
  rcases Go.Deep.open_slice Tryd.underlying22 hf with ⟨h0, _⟩ | ⟨a, len, cap', m, q, D, Pl, hcs, _, hl, hm, hmm, _, hel⟩
  · have h1 : (Value.slice A n cap) = .slice none 0 0 := by
      have : [Value.slice A n cap] = [.slice none 0 0] := h0
      simpa using this
    injection h1 with e1 e2 e3
    subst e1 e2 e3
    exact ⟨0, [], rfl, none, 0, rfl, fun h => by omega⟩
  · have h1 : (Value.slice A n cap) = .slice (some a) len cap' := by
      have : [Value.slice A n cap] = [.slice (some a) len cap'] := hcs
      simpa using this
    injection h1 with e1 e2 e3
    subst e1 e2 e3
    have hlm : n ≤ m := by rw [hmm]; split <;> omega
    rw [z4] at hel
    have each : ∀ i : Fin n, ∃ x : Ob, ∀ j, j < 4 → W.cell? (a.add (i.1 * 4 + j)) = x.cells[j]? := by
      intro i
      obtain ⟨cs', h1, h2⟩ := hel i.1 (by have := i.2; omega)
      obtain ⟨_, hlen, hcell⟩ := World.cells?_some h1
      obtain ⟨x, rfl⟩ := one_ob h2 hlen
      refine ⟨x, fun j hj => ?_⟩
      have := hcell j hj
      rwa [Go.Deep.add_add] at this
    refine ⟨n, List.ofFn (fun i => Classical.choose (each i)), List.length_ofFn, some a, cap, rfl, fun hn => ?_⟩
    have c0 := (Classical.choose_spec (each ⟨0, hn⟩)) 0 (by omega)
    have c1 : W.cell? a = _ := c0
    obtain ⟨h1, h2⟩ := cell_in (c1.trans rfl)
    obtain ⟨b, off, spot⟩ := a
    simp only at h1 h2
    subst h2
    refine ⟨b, off, rfl, h1, fun j u hu => ?_⟩
    have hj : j < n * 4 := by
      have := (List.getElem?_eq_some_iff.1 hu).1
      rw [show (flatO (List.ofFn (fun i => Classical.choose (each i)))).length = n * 4 by rw [flatO, flatMap_len Ob.cells 4 (fun _ => rfl), List.length_ofFn]] at this
      exact this
    have hi : j / 4 < n := by omega
    have hg := flatO_get (List.ofFn (fun i => Classical.choose (each i))) (j / 4) _ (by rw [List.getElem?_ofFn, dif_pos hi]) (j % 4) (by omega)
    rw [show j / 4 * 4 + j % 4 = j from by omega, hu] at hg
    have hc := (Classical.choose_spec (each ⟨j / 4, hi⟩)) (j % 4) (by omega)
    rw [show j / 4 * 4 + j % 4 = j from by omega, ← hg, add_at] at hc
    exact hc
/-- Words that come in. -/
theorem data_open {H : Type} {enc : TypeId × Value → H} {W : World} {base n : Nat} {sp : Nat → Bool} {held : Bool} {v : Value} {x : DataW H × List MemPlace}
    (h : DataW.trod enc Tryd.prog W base sp held n 33 [v] = some x) : ∃ l : List Int, InU W v l.length l := by
  have z1 : Tryd.prog.cellsOf 30 = 1 := by kernel_rfl
  rcases Go.Deep.open_slice Tryd.underlying33 h with ⟨h0, _⟩ | ⟨a, len, cap, m, q, D, Pl, hcs, _, hl, hm, hmm, _, hel⟩
  · have h1 : v = .slice none 0 0 := by simpa using h0
    subst h1
    exact ⟨[], rfl, none, 0, rfl, fun h => by simp at h⟩
  · have h1 : v = .slice (some a) len cap := by simpa using hcs
    subst h1
    have hlm : len ≤ m := by rw [hmm]; split <;> omega
    rw [z1] at hel
    have each : ∀ i : Fin len, ∃ x : Int, W.cell? (a.add i.1) = some (.int .u32 x) := by
      intro i
      obtain ⟨cs', h1, h2⟩ := hel i.1 (by have := i.2; omega)
      obtain ⟨_, hlen, hcell⟩ := World.cells?_some h1
      obtain ⟨k, rfl, _, _⟩ := DataW.trod_int Tryd.underlying30 h2
      have := hcell 0 (by omega)
      rw [Go.Deep.add_add, Nat.mul_one] at this
      exact ⟨k, this⟩
    refine ⟨List.ofFn (fun i => Classical.choose (each i)), rfl, some a, cap, by rw [List.length_ofFn], fun hn => ?_⟩
    rw [List.length_ofFn] at hn
    have c0 := (Classical.choose_spec (each ⟨0, hn⟩))
    have c1 : W.cell? a = _ := c0
    obtain ⟨h1, h2⟩ := cell_in c1
    obtain ⟨b, off, spot⟩ := a
    simp only at h1 h2
    subst h2
    refine ⟨b, off, rfl, h1, fun j u hu => ?_⟩
    have hj : j < len := by
      have := (List.getElem?_eq_some_iff.1 hu).1
      rwa [List.length_ofFn] at this
    rw [List.getElem?_ofFn, dif_pos hj] at hu
    injection hu with hu
    rw [← hu]
    have hh := Classical.choose_spec (each ⟨j, hj⟩)
    revert hh
    generalize Classical.choose (each ⟨j, hj⟩) = z
    intro hh
    rw [add_at] at hh
    exact hh
theorem one_act {H : Type} {enc : TypeId × Value → H} {W : World} {base n : Nat} {sp : Nat → Bool} {held : Bool} {cs : List Value} {x : DataW H × List MemPlace}
    (h : DataW.trod enc Tryd.prog W base sp held n 35 cs = some x) (hl : cs.length = 11) :
    ∃ y : Act × Value, cs = y.1.cells y.2 ∧ InU W y.2 y.1.data.length y.1.data ∧ 0 ≤ y.1.x.arg ∧ y.1.x.arg ≤ 4294967295 := by
  obtain ⟨x0, x1, x2, x3, x4, x5, x6, x7, x8, x9, x10, rfl⟩ := list11 hl
  have z1 : Tryd.prog.cellsOf 3 = 1 := by kernel_rfl
  have z2 : Tryd.prog.cellsOf 30 = 1 := by kernel_rfl
  have z3 : Tryd.prog.cellsOf 4 = 1 := by kernel_rfl
  have z4 : Tryd.prog.cellsOf 33 = 1 := by kernel_rfl
  have z6 : Tryd.prog.cellsOf 32 = 6 := by kernel_rfl
  obtain ⟨xs, m, _, _, _, hx, hfs⟩ := DataW.trod_struct Tryd.underlying35 h
  have hx6 : xs.length = 6 := hx
  have f0 : DataW.trod enc Tryd.prog W base sp held m 32 (List.take (Tryd.prog.cellsOf 32) [x0, x1, x2, x3, x4, x5, x6, x7, x8, x9, x10]) = xs[0]? := hfs 0 _ rfl
  have f1 : DataW.trod enc Tryd.prog W base sp held m 3 (List.take (Tryd.prog.cellsOf 3) [x6, x7, x8, x9, x10]) = xs[1]? := hfs 1 _ rfl
  have f2 : DataW.trod enc Tryd.prog W base sp held m 3 (List.take (Tryd.prog.cellsOf 3) [x7, x8, x9, x10]) = xs[2]? := hfs 2 _ rfl
  have f3 : DataW.trod enc Tryd.prog W base sp held m 4 (List.take (Tryd.prog.cellsOf 4) [x8, x9, x10]) = xs[3]? := hfs 3 _ rfl
  have f4 : DataW.trod enc Tryd.prog W base sp held m 30 (List.take (Tryd.prog.cellsOf 30) [x9, x10]) = xs[4]? := hfs 4 _ rfl
  have f5 : DataW.trod enc Tryd.prog W base sp held m 33 (List.take (Tryd.prog.cellsOf 33) [x10]) = xs[5]? := hfs 5 _ rfl
  rw [z6] at f0
  rw [z1] at f1 f2
  rw [z3] at f3
  rw [z2] at f4
  rw [z4] at f5
  obtain ⟨y0, hy0⟩ := get_some hx6 (show 0 < 6 by decide)
  obtain ⟨y1, hy1⟩ := get_some hx6 (show 1 < 6 by decide)
  obtain ⟨y2, hy2⟩ := get_some hx6 (show 2 < 6 by decide)
  obtain ⟨y3, hy3⟩ := get_some hx6 (show 3 < 6 by decide)
  obtain ⟨y4, hy4⟩ := get_some hx6 (show 4 < 6 by decide)
  obtain ⟨y5, hy5⟩ := get_some hx6 (show 5 < 6 by decide)
  obtain ⟨st, hst, _, _⟩ := DataW.trod_int Tryd.underlying3 (f1.trans hy1)
  obtain ⟨t, ht, _, _⟩ := DataW.trod_int Tryd.underlying3 (f2.trans hy2)
  obtain ⟨e, he, _⟩ := DataW.trod_bool Tryd.underlying4 (f3.trans hy3)
  obtain ⟨rs, hrs, _, _⟩ := DataW.trod_int Tryd.underlying30 (f4.trans hy4)
  obtain ⟨ds, hds⟩ := data_open (f5.trans hy5)
  obtain ⟨ys, q, _, _, _, hym, hgs⟩ := DataW.trod_struct Tryd.underlying32 (f0.trans hy0)
  have hys : ys.length = 6 := hym
  have g0 : DataW.trod enc Tryd.prog W base sp held q 3 (List.take (Tryd.prog.cellsOf 3) [x0, x1, x2, x3, x4, x5]) = ys[0]? := hgs 0 _ rfl
  have g1 : DataW.trod enc Tryd.prog W base sp held q 3 (List.take (Tryd.prog.cellsOf 3) [x1, x2, x3, x4, x5]) = ys[1]? := hgs 1 _ rfl
  have g2 : DataW.trod enc Tryd.prog W base sp held q 3 (List.take (Tryd.prog.cellsOf 3) [x2, x3, x4, x5]) = ys[2]? := hgs 2 _ rfl
  have g3 : DataW.trod enc Tryd.prog W base sp held q 3 (List.take (Tryd.prog.cellsOf 3) [x3, x4, x5]) = ys[3]? := hgs 3 _ rfl
  have g4 : DataW.trod enc Tryd.prog W base sp held q 30 (List.take (Tryd.prog.cellsOf 30) [x4, x5]) = ys[4]? := hgs 4 _ rfl
  have g5 : DataW.trod enc Tryd.prog W base sp held q 30 (List.take (Tryd.prog.cellsOf 30) [x5]) = ys[5]? := hgs 5 _ rfl
  rw [z1] at g0 g1 g2 g3
  rw [z2] at g4 g5
  obtain ⟨u0, hu0⟩ := get_some hys (show 0 < 6 by decide)
  obtain ⟨u1, hu1⟩ := get_some hys (show 1 < 6 by decide)
  obtain ⟨u2, hu2⟩ := get_some hys (show 2 < 6 by decide)
  obtain ⟨u3, hu3⟩ := get_some hys (show 3 < 6 by decide)
  obtain ⟨u4, hu4⟩ := get_some hys (show 4 < 6 by decide)
  obtain ⟨u5, hu5⟩ := get_some hys (show 5 < 6 by decide)
  obtain ⟨who, hwho, _, _⟩ := DataW.trod_int Tryd.underlying3 (g0.trans hu0)
  obtain ⟨obj, hobj, _, _⟩ := DataW.trod_int Tryd.underlying3 (g1.trans hu1)
  obtain ⟨cl, hcl, _, _⟩ := DataW.trod_int Tryd.underlying3 (g2.trans hu2)
  obtain ⟨pt, hpt, _, _⟩ := DataW.trod_int Tryd.underlying3 (g3.trans hu3)
  obtain ⟨ar, har, _, wa⟩ := DataW.trod_int Tryd.underlying30 (g4.trans hu4)
  obtain ⟨vl, hvl, _, _⟩ := DataW.trod_int Tryd.underlying30 (g5.trans hu5)
  simp only [List.take_succ_cons, List.take_zero, List.cons.injEq, and_true] at hst ht he hrs hwho hobj hcl hpt har hvl
  subst hst ht he hrs hwho hobj hcl hpt har hvl
  simp [Lit.wf] at wa
  have e1 : IntKind.u32.min = 0 := by decide
  have e2 : IntKind.u32.max = 4294967295 := by decide
  exact ⟨(⟨⟨who, obj, cl, pt, ar, vl⟩, st, t, e, rs, ds⟩, x10), rfl, hds, show 0 ≤ ar by omega, show ar ≤ _ by omega⟩
/-- A slice of acts that came in, each with the value of its data. -/
def RdP (w : World) (v : Value) (n : Nat) (L : List (Act × Value)) : Prop :=
  L.length = n ∧ ∃ A cap, v = .slice A n cap ∧ (0 < n → ∃ b off, A = some ⟨b, off, none⟩ ∧ b < w.heap.size ∧ ∀ (i : Nat) y, L[i]? = some y → InU w y.2 y.1.data.length y.1.data ∧ ∀ (j : Nat) u, (y.1.cells y.2)[j]? = some u → w.cell? ⟨b, off + i * 11 + j, none⟩ = some u)
theorem RdP.rdK {w : World} {v : Value} {n : Nat} {L : List (Act × Value)} (h : RdP w v n L) : RdK w v n (L.map (·.1)) := by
  obtain ⟨hl, A, cap, rfl, h⟩ := h
  refine ⟨by rw [List.length_map]; exact hl, A, cap, rfl, fun hn => ?_⟩
  obtain ⟨b, off, rfl, hlt, hc⟩ := h hn
  refine ⟨b, off, rfl, hlt, fun i a ha => ?_⟩
  rw [List.getElem?_map] at ha
  obtain ⟨y, hy, rfl⟩ := Option.map_eq_some_iff.1 ha
  exact ⟨y.2, hc i y hy⟩
/-- A slice of acts that comes in. -/
theorem acts_open {H : Type} {enc : TypeId × Value → H} {W : World} {b0 base : Nat} {r : Reach} {sp : Nat → Bool} {held : Bool} {v : Value} {d : DataW H} {p : List MemPlace}
    (hv : Value.okWide Tryd.prog W r b0 23 v) (h : DataW.Trod enc Tryd.prog W base sp held 23 v d p) : ∃ n L, RdP W v n L ∧ ∀ y ∈ L, 0 ≤ y.1.x.arg ∧ y.1.x.arg ≤ 4294967295 := by
  obtain ⟨A, n, cap, rfl⟩ := okWide_slice Tryd.underlying23 hv
  obtain ⟨fuel, hf⟩ := h
  have z11 : Tryd.prog.cellsOf 35 = 11 := by kernel_rfl
  rcases Go.Deep.open_slice Tryd.underlying23 hf with ⟨h0, _⟩ | ⟨a, len, cap', m, q, D, Pl, hcs, _, hl, hm, hmm, _, hel⟩
  · have h1 : (Value.slice A n cap) = .slice none 0 0 := by
      have : [Value.slice A n cap] = [.slice none 0 0] := h0
      simpa using this
    injection h1 with e1 e2 e3
    subst e1 e2 e3
    exact ⟨0, [], ⟨rfl, none, 0, rfl, fun h => by omega⟩, fun y hy => by cases hy⟩
  · have h1 : (Value.slice A n cap) = .slice (some a) len cap' := by
      have : [Value.slice A n cap] = [.slice (some a) len cap'] := hcs
      simpa using this
    injection h1 with e1 e2 e3
    subst e1 e2 e3
    have hlm : n ≤ m := by rw [hmm]; split <;> omega
    rw [z11] at hel
    have each : ∀ i : Fin n, ∃ y : Act × Value, (∀ j, j < 11 → W.cell? (a.add (i.1 * 11 + j)) = (y.1.cells y.2)[j]?) ∧ InU W y.2 y.1.data.length y.1.data ∧ 0 ≤ y.1.x.arg ∧ y.1.x.arg ≤ 4294967295 := by
      intro i
      obtain ⟨cs', h1, h2⟩ := hel i.1 (by have := i.2; omega)
      obtain ⟨_, hlen, hcell⟩ := World.cells?_some h1
      obtain ⟨y, rfl, hU, hA⟩ := one_act h2 hlen
      refine ⟨y, fun j hj => ?_, hU, hA⟩
      have := hcell j hj
      rwa [Go.Deep.add_add] at this
    refine ⟨n, List.ofFn (fun i => Classical.choose (each i)), ⟨List.length_ofFn, some a, cap, rfl, fun hn => ?_⟩, fun y hy => ?_⟩
    · have c0 := (Classical.choose_spec (each ⟨0, hn⟩)).1 0 (by omega)
      have c1 : W.cell? a = _ := c0
      obtain ⟨h1, h2⟩ := cell_in (c1.trans rfl)
      obtain ⟨b, off, spot⟩ := a
      simp only at h1 h2
      subst h2
      refine ⟨b, off, rfl, h1, fun i y hy => ?_⟩
      have hi : i < n := by
        have := (List.getElem?_eq_some_iff.1 hy).1
        rwa [List.length_ofFn] at this
      rw [List.getElem?_ofFn, dif_pos hi] at hy
      injection hy with hy
      rw [← hy]
      obtain ⟨e1, e2, _⟩ := Classical.choose_spec (each ⟨i, hi⟩)
      refine ⟨e2, fun j u hu => ?_⟩
      have hj : j < 11 := (List.getElem?_eq_some_iff.1 hu).1
      have := e1 j hj
      rw [hu, add_at, ← Nat.add_assoc] at this
      exact this
    · obtain ⟨q, rfl⟩ := List.mem_ofFn.1 hy
      exact (Classical.choose_spec (each q)).2.2

end Go.Proofs.YtfemeiopfpblaaaDoor.As
