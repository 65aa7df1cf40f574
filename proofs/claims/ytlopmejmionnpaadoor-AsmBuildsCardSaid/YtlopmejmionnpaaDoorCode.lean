/- The walk of the package asm: a builder's Code. -/
import Derived.Test.YtlopmejmionnpaaDoorAsmAt
import Derived.Test.YtlopmejmionnpaaDoorIsa
import Derived.Test.YtlopmejmionnpaaDoorRd
set_option linter.unusedVariables false
namespace Go.Proofs.YtlopmejmionnpaaDoor.As
open Go.RowKit

set_option maxRecDepth 100000 in
/-- What a look-up among the places answers. -/
theorem places_look (w : World) (pv : Value) (s : BS) (hp : Places w pv s) (nm : ByteArray) (hnm : nm.size ≤ maxLen) :
    (Instr.lookup 40 pv (.string nm) true).run Tryd.prog w = .ok (.tuple #[.int .i64 (((s.find nm.data.toList).getD 0 : Nat) : Int), .bool (s.find nm.data.toList).isSome]) w := by
  have hkey := _root_.Go.WideMaps.keyOf_string_mk Tryd.underlying9 hnm
  rcases hp with ⟨rfl, h0⟩ | ⟨mb, n, D, rfl, hm, hn, hd⟩
  · have e : s.find nm.data.toList = none := by unfold BS.find; rw [h0]; rfl
    rw [e, Maps.look_nil true lawS Tryd.underlying40 (zeroE w) hkey]
    rfl
  · have hz : (plainElem (H := Unit) Tryd.prog 3 (.int .i64 0)) = some (.lit (.int .i64 0), []) := plainElem_int Tryd.underlying3 (by decide)
    obtain ⟨v, ps, hrun, hv⟩ := hm.look_ok lawS Tryd.underlying40 (zeroE w) hz hkey
    obtain ⟨c, rfl, hc, hwc⟩ := plainElem_int_inv Tryd.underlying3 hv
    have hc2 := congrArg Prod.fst hc
    simp only at hc2
    rw [hrun]
    obtain ⟨h1, h2⟩ := hd.2 nm.data.toList
    rw [h1]
    cases hf : s.find nm.data.toList with
    | some m =>
      rw [h2 m hf] at hc2
      injection hc2 with hc2
      injection hc2 with _ hc2
      rw [← hc2]; rfl
    | none =>
      rw [hf] at h1
      rw [Maps.atKey_of_not_has h1] at hc2
      injection hc2 with hc2
      injection hc2 with _ hc2
      rw [← hc2]; rfl
theorem bl_drewN {B : Nat} {a w : World} (h : Below B a w) (n : Nat) : Below B a (w.drewN n) := ⟨h.os, h.tape, h.output, h.size, h.block⟩
theorem places_drewN {w : World} {pv : Value} {s : BS} (hp : Places w pv s) (n : Nat) : Places (w.drewN n) pv s := places_kept hp fun _ _ => rfl

/-! ### Flat lists of cells -/
theorem flatMap_get {α : Type} (f : α → List Value) (n : Nat) (hf : ∀ x, (f x).length = n) : ∀ (l : List α) (i : Nat) (x : α), l[i]? = some x → ∀ j, j < n → (l.flatMap f)[i * n + j]? = (f x)[j]?
  | [], i, x, h, j, hj => by simp at h
  | y :: r, 0, x, h, j, hj => by
    have e : y = x := by simpa using h
    subst e
    rw [List.flatMap_cons, Nat.zero_mul, Nat.zero_add, List.getElem?_append_left (by rw [hf]; exact hj)]
  | y :: r, i + 1, x, h, j, hj => by
    have e : r[i]? = some x := by simpa using h
    rw [List.flatMap_cons, List.getElem?_append_right (by rw [hf, Nat.succ_mul]; omega), hf, show (i + 1) * n + j - n = i * n + j from by rw [Nat.succ_mul]; omega]
    exact flatMap_get f n hf r i x e j hj
theorem flatMap_len {α : Type} (f : α → List Value) (n : Nat) (hf : ∀ x, (f x).length = n) : ∀ (l : List α), (l.flatMap f).length = l.length * n
  | [] => by simp
  | y :: r => by rw [List.flatMap_cons, List.length_append, hf, flatMap_len f n hf r, List.length_cons, Nat.succ_mul]; omega
theorem flat_get (l : List Ins) (i : Nat) (x : Ins) (h : l[i]? = some x) (j : Nat) (hj : j < 5) : (flat l)[i * 5 + j]? = x.cells[j]? := flatMap_get Ins.cells 5 (fun _ => rfl) l i x h j hj
theorem flatL_get (l : List (Nat × B8)) (i : Nat) (x : Nat × B8) (h : l[i]? = some x) (j : Nat) (hj : j < 2) : (flatL l)[i * 2 + j]? = (linkCells x)[j]? := flatMap_get linkCells 2 (fun _ => rfl) l i x h j hj
theorem flat_len (l : List Ins) : (flat l).length = l.length * 5 := flatMap_len Ins.cells 5 (fun _ => rfl) l
theorem flat_setK : ∀ (l : List Ins) (i : Nat) (x : Ins) (k : Int), l[i]? = some x → flat (l.set i { x with k := k }) = (flat l).set (i * 5 + 4) (.int .u32 k)
  | [], i, x, k, h => by simp at h
  | y :: r, 0, x, k, h => by
    have e : y = x := by simpa using h
    subst e
    rfl
  | y :: r, i + 1, x, k, h => by
    have e : r[i]? = some x := by simpa using h
    have ih := flat_setK r i x k e
    show y.cells ++ flat (r.set i _) = (y.cells ++ flat r).set ((i + 1) * 5 + 4) _
    rw [ih, List.set_append, if_neg (by show ¬ _ < 5; omega)]
    congr 2
    show i * 5 + 4 = (i + 1) * 5 + 4 - 5
    omega
theorem flat_one (l : List Ins) : ∀ u ∈ flat l, u.oneCell' = true := by
  intro u hu
  obtain ⟨i, _, hi⟩ := List.mem_flatMap.1 hu
  simp [Ins.cells] at hi
  rcases hi with rfl | rfl | rfl | rfl | rfl <;> rfl

/-- What Code answers. -/
def CodePost (w : World) (s : BS) (e : Ending) (w' : World) : Prop :=
  Below w.heap.size w w' ∧ ((s.out = none ∧ e = .returned (.tuple #[.slice none 0 0, .bool false])) ∨
    ∃ l v, s.out = some l ∧ e = .returned (.tuple #[v, .bool true]) ∧ w'.ownsRow w.heap.size 34 5 v l.length (flat l))
theorem linkTo_none (s : BS) (i : Nat) (nm : B8) (r : List (Nat × B8)) (out : List Ins) (h : s.find nm = none) : s.linkTo ((i, nm) :: r) out = none := by
  unfold BS.linkTo; rw [h]
theorem linkTo_no (s : BS) (i : Nat) (nm : B8) (r : List (Nat × B8)) (out : List Ins) (m : Nat) (x : Ins) (h : s.find nm = some m) (hx : out[i]? = some x) (hj : jumps x.op = false) : s.linkTo ((i, nm) :: r) out = none := by
  unfold BS.linkTo; rw [h, hx]; simp [hj]
theorem linkTo_yes (s : BS) (i : Nat) (nm : B8) (r : List (Nat × B8)) (out : List Ins) (m : Nat) (x : Ins) (h : s.find nm = some m) (hx : out[i]? = some x) (hj : jumps x.op = true) : s.linkTo ((i, nm) :: r) out = s.linkTo r (out.set i { x with k := (m : Int) }) := by
  rw [BS.linkTo, h, hx]; simp [hj]
theorem out_none (s : BS) (h : s.linkTo s.links s.code = none) : s.out = none := by unfold BS.out; rw [h]; split <;> rfl
theorem out_bad (s : BS) (h : s.bad = true) : s.out = none := by unfold BS.out; rw [if_pos h]; cases s.linkTo s.links s.code <;> rfl
theorem out_some (s : BS) (l : List Ins) (h : s.linkTo s.links s.code = some l) (hb : s.bad = false) : s.out = some l := by unfold BS.out; rw [if_neg (by simp [hb]), h]

set_option maxRecDepth 100000 in
set_option maxHeartbeats 2000000 in
theorem code_any (w : World) (g : Nat) (s : BS) (F : Nat → Prop) (h : Bld w g s F) (T : TabI w) (hn : s.code.length < 1000000) (hnm : ∀ p ∈ s.links, p.2.length ≤ maxLen) :
    Calls Tryd.prog 23 #[.pointer (some ⟨g, 0, none⟩)] w (CodePost w s) := by
  obtain ⟨hgood, cv, pv, lv, hg, hown, hlinks, hpl, hF⟩ := h
  have c0 := cell_of_row w g 0 _ _ _ hg
  have c1 := cell_of_row w g 1 _ _ _ hg
  have c2 := cell_of_row w g 2 _ _ _ hg
  have c3 := cell_of_row w g 3 _ _ _ hg
  simp at c0 c1 c2 c3
  have hlt : g < w.heap.size := (Array.getElem?_eq_some_iff.1 hg).1
  have HL := Lib.hid (Rd.of_own hlinks)
  have HPL := Lib.hid hpl
  have HG := Lib.hid hgood
  have HNM := Lib.hid hnm
  have HO := Lib.hid (Rd.of_own hown)
  have hll := hgood.links
  have HT := Lib.hid T
  clear hlinks hpl hF hgood T hown hg hnm
  go_enter Tryd.func23, Tryd.ntmps23
  go_wp2_with fail
  refine (clone_any _ cv _ _ HO.out (by omega) (flat_one _)).mono ?_; rintro e w1 ⟨ov, rfl, ho, hb1⟩
  obtain ⟨oA, oc, rfl⟩ := (Rd.of_own ho).form
  obtain ⟨lA, lc, rfl⟩ := HL.out.form
  have k2 := (hb1.cell (p := ⟨g, 2, none⟩) hlt).trans c2
  have HO1 := Lib.hid ho
  have HB1 := Lib.hid hb1
  clear ho hb1
  go_wp2_with fail
  go_loopw [19] (fun i wr => ∃ k : Nat, ∃ cur : List Ins, k ≤ s.links.length ∧ i = .int .i64 k ∧ Hid (cur.length = s.code.length) ∧ Hid (s.linkTo s.links s.code = s.linkTo (s.links.drop k) cur) ∧ Hid (wr.ownsRow w.heap.size 34 5 (.slice oA s.code.length oc) s.code.length (flat cur)) ∧ Hid (Below w.heap.size w wr)) (fun i _ => s.links.length - (intOf i).toNat)
  case atStart => exact ⟨0, s.code, by omega, rfl, rfl, rfl, HO1, HB1⟩
  case round =>
    obtain ⟨k, cur, hk, rfl, HCL, HEQ, HOW, HB⟩ := hrel
    by_cases hlt2 : k < s.links.length
    · obtain ⟨lb, lo, rfl, hlb, hlc⟩ := HL.out.cells (by omega)
      obtain ⟨i, nm, hi⟩ : ∃ i nm, s.links[k]? = some (i, nm) := ⟨_, _, List.getElem?_eq_getElem hlt2⟩
      have l0 : wr.cell? ⟨lb, lo + k * 2, none⟩ = some (.int .i64 i) := (HB.out.cell (p := ⟨lb, lo + k * 2, none⟩) hlb).trans (hlc (k * 2 + 0) _ (by rw [flatL_get _ _ _ hi 0 (by omega)]; rfl))
      have l1 : wr.cell? ⟨lb, lo + k * 2 + 1, none⟩ = some (.string ⟨nm.toArray⟩) := (HB.out.cell (p := ⟨lb, lo + k * 2 + 1, none⟩) hlb).trans (hlc (k * 2 + 1) _ (by rw [flatL_get _ _ _ hi 1 (by omega)]; rfl))
      have hmem := List.mem_of_getElem? hi
      have hic := HG.out.at_ _ hmem
      have hnl : nm.length ≤ maxLen := HNM.out _ hmem
      have HDR := Lib.hid (show s.links.drop k = (i, nm) :: s.links.drop (k + 1) by
        rw [List.drop_eq_getElem_cons hlt2]
        congr 1
        rw [List.getElem?_eq_getElem hlt2] at hi
        injection hi)
      clear hi hlc hmem
      have k1 := (HB.out.cell (p := ⟨g, 1, none⟩) hlt).trans c1
      have hgw : g < wr.heap.size := Nat.lt_of_lt_of_le hlt HB.out.size
      have hlk : ∀ n, (Instr.lookup 40 pv (.string ⟨nm.toArray⟩) true).run Tryd.prog ((wr.alloc (.cells #[.int .i64 i, .string ⟨nm.toArray⟩] 77)).drewN n) = .ok (.tuple #[.int .i64 (((s.find nm).getD 0 : Nat) : Int), .bool (s.find nm).isSome]) ((wr.alloc (.cells #[.int .i64 i, .string ⟨nm.toArray⟩] 77)).drewN n) := by
        intro n
        have hp : Places ((wr.alloc (.cells #[.int .i64 i, .string ⟨nm.toArray⟩] 77)).drewN n) pv s := places_drewN (places_kept HPL.out fun mb e => by
          obtain ⟨es, cl, hm⟩ := map_ne HPL.out e
          have hmb := (Array.getElem?_eq_some_iff.1 hm).1
          rw [Below.heap_alloc _ _ _ (Nat.lt_of_lt_of_le hmb HB.out.size)]
          exact HB.out.block mb hmb) n
        have := places_look _ pv s hp ⟨nm.toArray⟩ (by show nm.toArray.size ≤ _; simpa using hnl)
        simpa using this
      cases hf : s.find nm with
      | none =>
        rw [hf] at hlk
        simp only [Option.isSome, Option.getD] at hlk
        have HF := Lib.hid hf
        clear hf
        go_wp2_with fail
        go_quiet (fail)
        go_wp2_with fail
        go_ret2
        have HQ := HEQ.out
        rw [HDR.out, linkTo_none s i nm _ _ HF.out] at HQ
        exact ⟨HB.out.trans (((Below.refl _ _).alloc HB.out.size _).trans ⟨rfl, rfl, rfl, Nat.le_refl _, fun _ _ => rfl⟩), .inl ⟨out_none s HQ, rfl⟩⟩
      | some m =>
        rw [hf] at hlk
        simp only [Option.isSome, Option.getD] at hlk
        have hm := find_le HG.out hf
        have HF := Lib.hid hf
        clear hf
        obtain ⟨x, hx⟩ : ∃ x, cur[i]? = some x := ⟨_, List.getElem?_eq_getElem (by rw [HCL.out]; exact hic)⟩
        have HX := Lib.hid hx
        obtain ⟨ob, oc2, heq, hob, hob2⟩ := HOW.out.form (by omega : 0 < s.code.length)
        injection heq with heq1 _ heq3
        subst heq1
        subst heq3
        have x0 : wr.cell? ⟨ob, i * 5, none⟩ = some (.int .i64 x.op) := by
          rw [HOW.out.cellAt _ (by omega)]
          exact (flat_get cur i x hx 0 (by omega)).trans rfl
        have x4 : wr.cell? ⟨ob, i * 5 + 4, none⟩ = some (.int .u32 x.k) := by
          rw [HOW.out.cellAt _ (by omega)]
          exact (flat_get cur i x hx 4 (by omega)).trans rfl
        have z4 : wr.frozen? ⟨ob, i * 5 + 4, none⟩ = false := HOW.out.frozenAt _
        clear hx
        have HTQ : ∀ nq, Hid (TabI ((wr.alloc (.cells #[.int .i64 i, .string ⟨nm.toArray⟩] 77)).drewN nq)) := fun nq => HT.out.below (HB.out.trans (((Below.refl _ _).alloc HB.out.size _).trans ⟨rfl, rfl, rfl, Nat.le_refl _, fun _ _ => rfl⟩)) (Nat.le_refl _)
        cases hj : jumps x.op with
        | false =>
          have HJ := Lib.hid hj
          clear hj
          go_wp2_with fail
          go_quiet (fail)
          go_wp2_with fail
          refine (jumps_any _ _ (HTQ _).out).mono ?_; rintro e w' ⟨rfl, rfl⟩
          rw [HJ.out]
          go_wp2_with fail
          go_ret2
          have HQ := HEQ.out
          rw [HDR.out, linkTo_no s i nm _ _ m x HF.out HX.out HJ.out] at HQ
          exact ⟨HB.out.trans (((Below.refl _ _).alloc HB.out.size _).trans ⟨rfl, rfl, rfl, Nat.le_refl _, fun _ _ => rfl⟩), .inl ⟨out_none s HQ, rfl⟩⟩
        | true =>
          have HJ := Lib.hid hj
          clear hj
          go_wp2_with fail
          go_quiet (fail)
          go_wp2_with fail
          refine (jumps_any _ _ (HTQ _).out).mono ?_; rintro e w' ⟨rfl, rfl⟩
          rw [HJ.out]
          go_wp2_with fail
          have HQ := HEQ.out
          rw [HDR.out, linkTo_yes s i nm _ _ m x HF.out HX.out HJ.out] at HQ
          have hst := (HOW.out.alloc (.cells #[.int .i64 i, .string ⟨nm.toArray⟩] 77)).stored (i * 5 + 4) (.int .u32 m)
          refine ⟨⟨k + 1, cur.set i { x with k := (m : Int) }, by omega, rfl, ?_, HQ, ?_, ?_⟩, by simp [intOf]; omega⟩
          · show (cur.set i _).length = _
            rw [List.length_set]; exact HCL.out
          · show World.ownsRow _ _ _ _ _ _ _
            rw [flat_setK cur i x m HX.out]
            exact hst.1
          · exact (bl_drewN (HB.out.alloc HB.out.size _) nq).setCell (p := ⟨ob, i * 5 + 4, none⟩) hob _
    · have hkk : k = s.links.length := by omega
      have HQ := HEQ.out
      rw [hkk, List.drop_length] at HQ
      have HQ2 := Lib.hid HQ
      clear HQ hkk
      have k3 := (HB.out.cell (p := ⟨g, 3, none⟩) hlt).trans c3
      cases hbad : s.bad with
      | true =>
        rw [hbad] at k3
        have HBAD := Lib.hid hbad
        clear hbad
        go_wp2_with fail
        go_ret2
        exact ⟨HB.out, .inl ⟨out_bad s HBAD.out, rfl⟩⟩
      | false =>
        rw [hbad] at k3
        have HBAD := Lib.hid hbad
        clear hbad
        go_wp2_with fail
        go_ret2
        refine ⟨HB.out, .inr ⟨cur, _, out_some s cur HQ2.out HBAD.out, rfl, ?_⟩⟩
        rw [HCL.out]
        exact HOW.out
end Go.Proofs.YtlopmejmionnpaaDoor.As
