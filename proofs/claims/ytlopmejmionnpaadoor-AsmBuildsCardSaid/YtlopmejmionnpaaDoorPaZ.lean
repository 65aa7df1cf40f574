/- The walks of the package asm: a code is printed. A slice of instructions that comes in, opened. -/
import Derived.Test.YtlopmejmionnpaaDoorPaY
import Derived.Test.YtlopmejmionnpaaDoorLaidP
import Derived.Deep.Slices
section
set_option linter.unusedVariables false
set_option linter.unusedSimpArgs false
namespace Go.Proofs.YtlopmejmionnpaaDoor.As
open Go.RowKit

/-- A slice of instructions: of one that is empty nothing else is known. -/
def RdZ (w : World) (v : Value) (n : Nat) (l : List Ins) : Prop := ∃ A cap, v = .slice A n cap ∧ l.length = n ∧ (0 < n → Rd w 5 v n (flat l))
theorem RdZ.of {w : World} {v : Value} {n : Nat} {l : List Ins} (h : Rd w 5 v n (flat l)) (hl : l.length = n) : RdZ w v n l := by
  have h' := h
  obtain ⟨A, cap, rfl⟩ := h.form
  exact ⟨A, cap, rfl, hl, fun _ => h'⟩
theorem RdZ.below {B : Nat} {w w' : World} {v : Value} {n : Nat} {l : List Ins} (h : RdZ w v n l) (hb : Below B w w') (hB : w.heap.size ≤ B) : RdZ w' v n l := by
  obtain ⟨A, cap, e, hl, h⟩ := h
  exact ⟨A, cap, e, hl, fun hn => (h hn).below hb hB⟩
theorem RdZ.drewN {w : World} {v : Value} {n : Nat} {l : List Ins} (h : RdZ w v n l) (m : Nat) : RdZ (w.drewN m) v n l := h.below (below_dn (Below.refl w.heap.size w) m) (Nat.le_refl _)
theorem same04_zero (w : World) (A B : Option Addr) (c d : Nat) : Calls Tryd.prog 13 #[.slice A 0 c, .slice B 0 d] w fun e w' => e = .returned (.bool true) ∧ ∃ m, w' = w.drewN m := by
  go_enter Tryd.func13, Tryd.ntmps13
  go_wp2_with fail
  go_loopw [5] (fun iv wr => iv = .int .i64 0 ∧ wr = w) (fun i _ => 0)
  case atStart => exact ⟨rfl, rfl⟩
  case round =>
    obtain ⟨rfl, rfl⟩ := hrel
    go_wp2_with fail
    go_ret
    exact ⟨rfl, 0, rfl⟩
theorem same04_z (w : World) (v u : Value) (l : List Ins) (n : Nat) (hv : RdZ w v n l) (hu : RdZ w u n l) (hs : n ≤ 1000000) :
    Calls Tryd.prog 13 #[v, u] w fun e w' => e = .returned (.bool true) ∧ ∃ m, w' = w.drewN m := by
  obtain ⟨A, c, rfl, hl, hv⟩ := hv
  obtain ⟨B, d, rfl, _, hu⟩ := hu
  by_cases hn : n = 0
  · subst hn
    exact same04_zero w A B c d
  · exact same04_any w _ _ l n hl (hv (by omega)) (hu (by omega)) hs
/-- A code as text. -/
def textI (l : List Ins) : B8 := l.flatMap (fun i => lineOf i [] ++ [10])
theorem textI_app (a b : List Ins) : textI (a ++ b) = textI a ++ textI b := by simp [textI]
def printB (l : List Ins) : B8 × Int := if 4000 < l.length then ([], 4) else if l.all (fun i => rightB i l.length) then (textI l, 0) else ([], 3)
theorem fits_right {i : Ins} {n : Nat} (hn : n ≤ 1000000) (hk : 0 ≤ i.k ∧ i.k ≤ 4294967295) (h : rightB i n = true) : Fits i [] := by
  unfold rightB fieldI at h
  simp only [Bool.and_eq_true, decide_eq_true_eq] at h
  obtain ⟨⟨⟨⟨h1, h2⟩, h3⟩, h4⟩, h5⟩ := h
  refine ⟨h1, ?_, ?_, ?_, ⟨hk.1, ?_⟩, fun e => absurd rfl e⟩
  · cases hA : hasB i.op 65 <;> rw [hA] at h2 <;> simp at h2 ⊢ <;> omega
  · cases hA : hasB i.op 77 <;> cases hB : hasB i.op 66 <;> rw [hA, hB] at h3 <;> simp at h3 ⊢ <;> omega
  · cases hA : hasB i.op 67 <;> rw [hA] at h4 <;> simp at h4 ⊢ <;> omega
  · cases hA : hasB i.op 84 <;> cases hB : hasB i.op 75 <;> rw [hA] at h5 <;> (try rw [hB] at h5) <;> simp at h5 ⊢ <;> omega
theorem isb_below {T e : TypeId} {B b : Nat} {bs : List Value} {w w' : World} (h : Lib.IsBuilder T e B b bs w) (hb : Below w.heap.size w w') : Lib.IsBuilder T e B b bs w' := by
  have one : ∀ p, Lib.BuilderAt T e B b p bs w → Lib.BuilderAt T e B b p bs w' := fun p ⟨h1, v, h2, h3, h4⟩ =>
    ⟨h1, v, (hb.block b (Array.getElem?_eq_some_iff.1 h2).1).trans h2, own_only h3 (Only.of_below (F := fun _ => False) hb (Nat.le_refl _)) (fun _ _ e => e), h4⟩
  exact h.elim (fun h => .inl (one _ h)) (fun h => .inr (one _ h))
theorem take_snoc {α : Type} {l : List α} {i : Nat} {x : α} (h : l[i]? = some x) : l.take (i + 1) = l.take i ++ [x] := by
  rw [List.take_add_one, h]; rfl
theorem textI_len (l : List Ins) (h : ∀ x ∈ l, Fits x []) : (textI l).length ≤ 111 * l.length := by
  induction l with
  | nil => simp [textI]
  | cons x r ih =>
    have h1 := line_len (h x List.mem_cons_self)
    have h2 := ih (fun y hy => h y (List.mem_cons_of_mem _ hy))
    have : textI (x :: r) = lineOf x [] ++ [10] ++ textI r := by simp [textI]
    rw [this]
    simp only [List.length_append, List.length_cons, List.length_nil]
    omega
/-- Between two rounds: what is written so far. -/
structure PR (w wr : World) (l : List Ins) (i : Nat) : Prop where
  isb : Lib.IsBuilder 81 5 w.heap.size w.heap.size (Lib.byteCells (textI (l.take i))) wr
  bel : Below w.heap.size w wr
  ok : ∀ x ∈ l.take i, rightB x l.length = true ∧ Fits x []
theorem all_take {α : Type} {l : List α} {f : α → Bool} {i : Nat} {x : α} (hx : l[i]? = some x) (hf : f x = false) : l.all f = false := by
  rw [Bool.eq_false_iff]
  intro h
  have := List.all_eq_true.1 h x (List.mem_of_getElem? hx)
  rw [hf] at this
  cases this
set_option maxHeartbeats 4000000 in
set_option maxRecDepth 100000 in
theorem print_any (w : World) (v : Value) (l : List Ins) (n : Nat) (hv : RdZ w v n l) (hnm : n ≤ maxLen) (hk : ∀ x ∈ l, 0 ≤ x.k ∧ x.k ≤ 4294967295) (T : TabA w) :
    Calls Tryd.prog 28 #[v] w fun e w' => e = .returned (.tuple #[.string (strB (printB l).1), .int .i64 (printB l).2]) ∧ Below w.heap.size w w' := by
  obtain ⟨A, cap, rfl, hn, hv⟩ := hv
  obtain ⟨r, hr⟩ : ∃ r, r = printB l := ⟨_, rfl⟩
  rw [← hr]
  have HR := Lib.hid hr
  have HK := Lib.hid hk
  have HV := Lib.hid hv
  have HT := Lib.hid T
  clear hr hk hv T
  by_cases hbig : 4000 < n
  · have hb : (4000 : Int) < (n : Int) := by omega
    have hr4 : r = ([], 4) := by rw [HR.out]; unfold printB; rw [if_pos (by omega)]
    subst hr4
    go_enter Tryd.func28, Tryd.ntmps28
    go_wp2_with fail
    go_ret2
    exact ⟨rfl, Below.refl _ _⟩
  · have hb : decide ((4000 : Int) < (n : Int)) = false := decide_eq_false (by omega)
    have hr3 : r = if l.all (fun i => rightB i n) then (textI l, 0) else ([], 3) := by rw [HR.out]; unfold printB; rw [if_neg (by omega), hn]
    have HR3 := Lib.hid hr3
    clear hr3 HR
    have hp0 : PR w (w.alloc (.cells #[.pointer none, .slice none 0 0] 81)) l 0 :=
      ⟨Lib.fresh_isBuilder _ _ w, (Below.refl _ _).alloc (Nat.le_refl _) _, fun x hx => by simp at hx⟩
    have HP0 := Lib.hid hp0
    clear hp0
    go_enter Tryd.func28, Tryd.ntmps28
    go_wp2_with fail
    go_loopw [12] (fun iv wr => ∃ i : Nat, i ≤ n ∧ iv = .int .i64 i ∧ Hid (PR w wr l i)) (fun i _ => n - (intOf i).toNat)
    case atStart => exact ⟨0, by omega, rfl, HP0⟩
    case round =>
      obtain ⟨i, hin, rfl, HP⟩ := hrel
      have hwz := HP.out.bel.size
      by_cases hlt : i < n
      · obtain ⟨x, hx⟩ : ∃ x, l[i]? = some x := ⟨_, List.getElem?_eq_getElem (by omega)⟩
        have hxk := HK.out x (List.mem_of_getElem? hx)
        obtain ⟨o, a, b, c, k⟩ := x
        obtain ⟨b1, o1, rfl, hb1, c0, c1, c2, c3, c4⟩ := ins_cells ((HV.out (by omega)).below HP.out.bel (Nat.le_refl _)) hx (by omega)
        have f1 : (0 : Int) ≤ (i : Int) := by omega
        have f2 : (i : Int) < (n : Int) := by omega
        simp only [] at c0 c1 c2 c3 c4 hxk
        have HX := Lib.hid hx
        have HXK := Lib.hid hxk
        clear hx hxk
        go_wp2_with fail
        have HBA := Lib.hid (((Below.refl wr.heap.size wr).alloc (Nat.le_refl _) (.cells #[.int .i64 o, .int .i64 a, .int .i64 b, .int .i64 c, .int .u32 k] 34)))
        have HIA := Lib.hid (Blk.new wr ⟨o, a, b, c, k⟩)
        refine (right_any _ o a b c k n (by omega) HXK.out (HT.out.below (HP.out.bel.trans (HBA.out.mono HP.out.bel.size)) (Nat.le_refl _)).isa).mono ?_
        rintro e w1 ⟨rfl, hb⟩
        have HB1 := Lib.hid (HBA.out.trans (hb.mono HBA.out.size))
        have HI1 : Hid (Blk w1 wr.heap.size ⟨o, a, b, c, k⟩) := Lib.hid (HIA.out.below hb (by simp))
        clear hb HBA HIA c0 c1 c2 c3 c4
        obtain ⟨c0, c1, c2, c3, c4⟩ := HI1.out.c
        simp only [] at c0 c1 c2 c3 c4
        cases hrt : rightB ⟨o, a, b, c, k⟩ n with
        | false =>
          have h3 : r = ([], 3) := by rw [HR3.out, all_take HX.out hrt]; rfl
          subst h3
          clear hrt
          go_wp2_with fail
          go_ret2
          exact ⟨rfl, HP.out.bel.trans (HB1.out.mono HP.out.bel.size)⟩
        | true =>
          have hft := fits_right (n := n) (by omega) HXK.out hrt
          have hll := line_len hft
          have HFT := Lib.hid hft
          have HRT := Lib.hid hrt
          clear hft hrt
          have zL : (strB (lineOf ⟨o, a, b, c, k⟩ [])).size ≤ 200 := by rw [strB_size]; omega
          have HT1 := Lib.hid (HT.out.below (HP.out.bel.trans (HB1.out.mono HP.out.bel.size)) (Nat.le_refl _))
          go_wp2_with fail
          refine (told_any w1 o a b c k HFT.out HT1.out).mono ?_
          rintro e w2 ⟨rfl, hb⟩
          have HB2 := Lib.hid (HB1.out.trans (hb.mono HB1.out.size))
          have hq : strB (lineOf ⟨o, a, b, c, k⟩ []) ++ ⟨#[10]⟩ = strB (lineOf ⟨o, a, b, c, k⟩ [] ++ [10]) := strB_app _ [10]
          have htl := textI_len (l.take i) (fun x hx => (HP.out.ok x hx).2)
          have htk : (l.take i).length ≤ 4000 := by rw [List.length_take]; omega
          have HQ := Lib.hid hq
          clear hb hq
          go_wp2_with fail
          refine (Tryd.Builder_WriteString w.heap.size w.heap.size _ _ w2 (isb_below HP.out.isb HB2.out) (by
            rw [Lib.byteCells_length, HQ.out, strB_size, List.length_append, List.length_singleton]; omega) (Nat.le_trans HP.out.bel.size HB2.out.size)).mono ?_
          rintro e w3 ⟨rfl, hbb, hb⟩
          have hpr : PR w w3 l (i + 1) := by
            refine ⟨.inr ?_, HP.out.bel.trans ((HB2.out.mono HP.out.bel.size).trans hb), ?_⟩
            · rw [take_snoc HX.out, textI_app]
              rw [HQ.out] at hbb
              have e1 : Lib.byteCells (textI (l.take i) ++ textI [⟨o, a, b, c, k⟩]) = Lib.byteCells (textI (l.take i)) ++ Lib.strCells (strB (lineOf ⟨o, a, b, c, k⟩ [] ++ [10])) := by
                unfold Lib.byteCells Lib.strCells strB textI
                simp
              rw [e1]
              exact hbb
            · intro y hy
              rw [take_snoc HX.out] at hy
              rcases List.mem_append.1 hy with hy | hy
              · exact HP.out.ok y hy
              · rw [List.mem_singleton.1 hy, hn]; exact ⟨HRT.out, HFT.out⟩
          have HPR := Lib.hid hpr
          clear hpr hbb hb
          go_wp2_with fail
          exact ⟨⟨i + 1, by omega, by simp, HPR⟩, by simp [intOf]; omega⟩
      · have hi2 : i = n := by omega
        have hwz2 := HP.out.bel.size
        have hok : r = (textI l, 0) := by
          rw [HR3.out, if_pos]
          rw [List.all_eq_true]
          intro x hx
          have := HP.out.ok x (by rw [List.take_of_length_le (by omega)]; exact hx)
          rw [hn] at this
          exact this.1
        subst hok
        have hd : decide ((i : Int) < (n : Int)) = false := decide_eq_false (by omega)
        have HSTR := Lib.hid (Tryd.Builder_String_any w.heap.size w.heap.size (textI l) wr (by
          have := HP.out.isb
          rw [List.take_of_length_le (by omega)] at this
          exact this) hwz2)
        go_wp2_with fail
        refine HSTR.out.mono ?_
        rintro e w3 ⟨rfl, hb⟩
        have HE := Lib.hid (HP.out.bel.trans hb)
        clear hb
        go_wp2_with fail
        go_ret2
        exact ⟨rfl, HE.out⟩
end Go.Proofs.YtlopmejmionnpaaDoor.As
end
section
set_option linter.unusedVariables false
set_option linter.unusedSimpArgs false
set_option maxRecDepth 20000
namespace Go.Proofs.YtlopmejmionnpaaDoor.As
open Go.ChangeShapes Go.WideShapes Go.ChangeAt Go.RowKit

theorem cell_in {w : World} {a : Addr} {v : Value} (h : w.cell? a = some v) : a.block < w.heap.size ∧ a.spot = none := by
  unfold World.cell? at h
  split at h
  · next e =>
    refine ⟨(Array.getElem?_eq_some_iff.1 e).1, ?_⟩
    cases hs : a.spot with
    | none => rfl
    | some x => rw [hs] at h; simp at h
  · cases h
theorem get_some {α : Type} {xs : List α} {n i : Nat} (h : xs.length = n) (hi : i < n) : ∃ y, xs[i]? = some y := ⟨_, List.getElem?_eq_getElem (h ▸ hi)⟩
theorem list5 {α : Type} : ∀ {l : List α}, l.length = 5 → ∃ a b c d e, l = [a, b, c, d, e]
  | [a, b, c, d, e], _ => ⟨a, b, c, d, e, rfl⟩
theorem one_ins {H : Type} {enc : TypeId × Value → H} {W : World} {base n : Nat} {sp : Nat → Bool} {held : Bool} {cs : List Value} {x : DataW H × List MemPlace}
    (h : DataW.trod enc Tryd.prog W base sp held n 34 cs = some x) (hl : cs.length = 5) :
    ∃ i : Ins, cs = i.cells ∧ (-9223372036854775808 ≤ i.op ∧ i.op ≤ 9223372036854775807) ∧ 0 ≤ i.k ∧ i.k ≤ 4294967295 := by
  obtain ⟨x0, x1, x2, x3, x4, rfl⟩ := list5 hl
  have z1 : Tryd.prog.cellsOf 3 = 1 := by kernel_rfl
  have z3 : Tryd.prog.cellsOf 32 = 1 := by kernel_rfl
  obtain ⟨xs, m, _, _, _, hx, hfs⟩ := DataW.trod_struct Tryd.underlying34 h
  have hx5 : xs.length = 5 := hx
  have f0 : DataW.trod enc Tryd.prog W base sp held m 3 (List.take (Tryd.prog.cellsOf 3) [x0, x1, x2, x3, x4]) = xs[0]? := hfs 0 _ rfl
  have f1 : DataW.trod enc Tryd.prog W base sp held m 3 (List.take (Tryd.prog.cellsOf 3) [x1, x2, x3, x4]) = xs[1]? := hfs 1 _ rfl
  have f2 : DataW.trod enc Tryd.prog W base sp held m 3 (List.take (Tryd.prog.cellsOf 3) [x2, x3, x4]) = xs[2]? := hfs 2 _ rfl
  have f3 : DataW.trod enc Tryd.prog W base sp held m 3 (List.take (Tryd.prog.cellsOf 3) [x3, x4]) = xs[3]? := hfs 3 _ rfl
  have f4 : DataW.trod enc Tryd.prog W base sp held m 32 (List.take (Tryd.prog.cellsOf 32) [x4]) = xs[4]? := hfs 4 _ rfl
  rw [z1] at f0 f1 f2 f3
  rw [z3] at f4
  obtain ⟨y0, hy0⟩ := get_some hx5 (show 0 < 5 by decide)
  obtain ⟨y1, hy1⟩ := get_some hx5 (show 1 < 5 by decide)
  obtain ⟨y2, hy2⟩ := get_some hx5 (show 2 < 5 by decide)
  obtain ⟨y3, hy3⟩ := get_some hx5 (show 3 < 5 by decide)
  obtain ⟨y4, hy4⟩ := get_some hx5 (show 4 < 5 by decide)
  obtain ⟨a, ha, _, wa⟩ := DataW.trod_int Tryd.underlying3 (f0.trans hy0)
  obtain ⟨b, hb, _, _⟩ := DataW.trod_int Tryd.underlying3 (f1.trans hy1)
  obtain ⟨c, hc, _, _⟩ := DataW.trod_int Tryd.underlying3 (f2.trans hy2)
  obtain ⟨d, hd, _, _⟩ := DataW.trod_int Tryd.underlying3 (f3.trans hy3)
  obtain ⟨k, hk, _, wk⟩ := DataW.trod_int Tryd.underlying32 (f4.trans hy4)
  simp only [List.take_succ_cons, List.take_zero, List.cons.injEq, and_true] at ha hb hc hd hk
  subst ha hb hc hd hk
  simp [Lit.wf] at wa wk
  have e1 : IntKind.u32.min = 0 := by decide
  have e2 : IntKind.u32.max = 4294967295 := by decide
  have e3 : IntKind.i64.min = -9223372036854775808 := by decide
  have e4 : IntKind.i64.max = 9223372036854775807 := by decide
  exact ⟨⟨a, b, c, d, k⟩, rfl, ⟨show _ ≤ a by omega, show a ≤ _ by omega⟩, show 0 ≤ k by omega, show k ≤ _ by omega⟩
/-- A slice of instructions that came in. -/
def InX (W : World) (v : Value) : Prop := ∃ n l, RdZ W v n l ∧ n ≤ maxLen ∧ ∀ i ∈ l, 0 ≤ i.k ∧ i.k ≤ 4294967295
/-- A slice of instructions that comes in. -/
theorem ins_open {H : Type} {enc : TypeId × Value → H} {W : World} {b0 base : Nat} {r : Reach} {sp : Nat → Bool} {held : Bool} {v : Value} {d : DataW H} {p : List MemPlace}
    (hv : Value.okWide Tryd.prog W r b0 23 v) (h : DataW.Trod enc Tryd.prog W base sp held 23 v d p) :
    InX W v := by
  obtain ⟨A, n, cap, rfl⟩ := okWide_slice Tryd.underlying23 hv
  obtain ⟨fuel, hf⟩ := h
  have z5 : Tryd.prog.cellsOf 34 = 5 := by kernel_rfl
  rcases Go.Deep.open_slice Tryd.underlying23 hf with ⟨h0, _⟩ | ⟨a, len, cap', m, q, D, Pl, hcs, _, hl, hm, hmm, _, hel⟩
  · have h1 : (Value.slice A n cap) = .slice none 0 0 := by
      have : [Value.slice A n cap] = [.slice none 0 0] := h0
      simpa using this
    injection h1 with e1 e2 e3
    subst e1 e2 e3
    exact ⟨0, [], ⟨none, 0, rfl, rfl, fun h => absurd h (by omega)⟩, Nat.zero_le _, fun i hi => by cases hi⟩
  · have h1 : (Value.slice A n cap) = .slice (some a) len cap' := by
      have : [Value.slice A n cap] = [.slice (some a) len cap'] := hcs
      simpa using this
    injection h1 with e1 e2 e3
    subst e1 e2 e3
    have hlm : n ≤ m := by rw [hmm]; split <;> omega
    rw [z5] at hel
    have each : ∀ i : Fin n, ∃ x : Ins, (∀ j, j < 5 → W.cell? (a.add (i.1 * 5 + j)) = x.cells[j]?) ∧ 0 ≤ x.k ∧ x.k ≤ 4294967295 := by
      intro i
      obtain ⟨cs', h1, h2⟩ := hel i.1 (by have := i.2; omega)
      obtain ⟨_, hlen, hcell⟩ := World.cells?_some h1
      obtain ⟨x, rfl, _, hk⟩ := one_ins h2 hlen
      refine ⟨x, fun j hj => ?_, hk⟩
      have := hcell j hj
      rwa [Go.Deep.add_add] at this
    refine ⟨n, List.ofFn (fun i => Classical.choose (each i)), ⟨some a, cap, rfl, List.length_ofFn, fun hn => ⟨some a, cap, rfl, hl, by rw [flat_len, List.length_ofFn], .inr ?_⟩⟩, Nat.le_trans hl hm, ?_⟩
    · have c0 := (Classical.choose_spec (each ⟨0, hn⟩)).1 0 (by omega)
      have c1 : W.cell? a = _ := c0
      obtain ⟨h1, h2⟩ := cell_in (c1.trans rfl)
      obtain ⟨b, off, spot⟩ := a
      simp only at h1 h2
      subst h2
      refine ⟨b, off, rfl, h1, fun j u hu => ?_⟩
      have hj : j < n * 5 := by
        have := (List.getElem?_eq_some_iff.1 hu).1
        rw [flat_len, List.length_ofFn] at this
        exact this
      have hi : j / 5 < n := by omega
      have hg := flat_get (List.ofFn (fun i => Classical.choose (each i))) (j / 5) _ (by rw [List.getElem?_ofFn, dif_pos hi]) (j % 5) (by omega)
      rw [show j / 5 * 5 + j % 5 = j from by omega, hu] at hg
      have hc := (Classical.choose_spec (each ⟨j / 5, hi⟩)).1 (j % 5) (by omega)
      rw [show j / 5 * 5 + j % 5 = j from by omega, ← hg, add_at] at hc
      exact hc
    · intro i hi
      obtain ⟨q, rfl⟩ := List.mem_ofFn.1 hi
      exact (Classical.choose_spec (each q)).2
end Go.Proofs.YtlopmejmionnpaaDoor.As
end
