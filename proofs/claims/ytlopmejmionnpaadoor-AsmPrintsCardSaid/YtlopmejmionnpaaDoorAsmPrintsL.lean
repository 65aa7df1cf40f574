/- The law AsmPrints: its walk. -/
import Derived.Test.YtlopmejmionnpaaDoorPaZ
import Derived.Test.YtlopmejmionnpaaDoorPaT
set_option linter.unusedVariables false
set_option linter.unusedSimpArgs false
namespace Go.Proofs.YtlopmejmionnpaaDoor.As
open Go.RowKit

/-- Between two rounds. -/
structure LR (w wr : World) (l : List Ins) (n i : Nat) : Prop where
  bel : Below w.heap.size w wr
  ok : ∀ x ∈ l.take i, rightB x n = true ∧ Fits x []
theorem LR.step {w wr w' : World} {l : List Ins} {n i : Nat} {x : Ins} (h : LR w wr l n i) (hb : Below wr.heap.size wr w') (hx : l[i]? = some x) (h1 : rightB x n = true) (h2 : Fits x []) : LR w w' l n (i + 1) :=
  ⟨h.bel.trans (hb.mono h.bel.size), fun y hy => by
    rw [take_snoc hx] at hy
    rcases List.mem_append.1 hy with hy | hy
    · exact h.ok y hy
    · rw [List.mem_singleton.1 hy]; exact ⟨h1, h2⟩⟩
theorem print_out {l : List Ins} {n i : Nat} {x : Ins} (hn : l.length = n) (hs : n ≤ 4000) (hx : l[i]? = some x) (h : rightB x n = false) : printB l = ([], 3) := by
  unfold printB
  rw [if_neg (by omega), hn, all_take hx h]; rfl
theorem print_in {l : List Ins} {n : Nat} (hn : l.length = n) (hs : n ≤ 4000) (h : ∀ x ∈ l, rightB x n = true) : printB l = (textI l, 0) := by
  unfold printB
  rw [if_neg (by omega), if_pos (by rw [hn, List.all_eq_true]; exact h)]
set_option maxHeartbeats 4000000 in
set_option maxRecDepth 100000 in
theorem asmPrints_any (w : World) (v : Value) (h : InX w v) (T : TabA w) (N : NamesA w) :
    Calls Tryd.prog 7 #[v] w fun e w' => e = .returned (.bool true) ∧ Below w.heap.size w w' := by
  obtain ⟨n, l, ⟨A, cap, rfl, hn, hv⟩, hnm, hk⟩ := h
  have HV := Lib.hid hv
  have HK := Lib.hid hk
  have HT := Lib.hid T
  have HN := Lib.hid N
  clear hv hk T N
  by_cases hbig : 600 < n
  · have hb : (600 : Int) < (n : Int) := by omega
    go_enter Tryd.func7, Tryd.ntmps7
    go_wp2_with fail
    refine (awake_any _ HT.out HN.out).mono ?_
    rintro e w1 ⟨rfl, hb1⟩
    have HB1 := Lib.hid hb1
    have HT1 := Lib.hid (HT.out.below hb1 (Nat.le_refl _))
    have HN1 := Lib.hid (HN.out.of_blk (hb1.block _ HN.out.lt))
    clear hb1
    go_wp2_with fail
    refine (awake_any _ HT1.out HN1.out).mono ?_
    rintro e w2 ⟨rfl, hb2⟩
    have HB2 := Lib.hid (HB1.out.trans (hb2.mono HB1.out.size))
    clear hb2
    go_wp2_with fail
    go_ret
    exact ⟨rfl, HB2.out⟩
  · have hb : decide ((600 : Int) < (n : Int)) = false := decide_eq_false (by omega)
    go_enter Tryd.func7, Tryd.ntmps7
    go_wp2_with fail
    refine (awake_any _ HT.out HN.out).mono ?_
    rintro e w1 ⟨rfl, hb1⟩
    have HB1 := Lib.hid hb1
    have HT1 := Lib.hid (HT.out.below hb1 (Nat.le_refl _))
    clear hb1
    go_wp2_with fail
    refine (print_any w1 _ l n (RdZ.below ⟨A, cap, rfl, hn, HV.out⟩ HB1.out (Nat.le_refl _)) hnm HK.out HT1.out).mono ?_
    rintro e w2 ⟨rfl, hb2⟩
    have HB2 := Lib.hid (HB1.out.trans (hb2.mono HB1.out.size))
    obtain ⟨pr, hpr⟩ : ∃ pr, pr = printB l := ⟨_, rfl⟩
    rw [← hpr]
    have HPR := Lib.hid hpr
    have HL0 : Hid (LR w w2 l n 0) := Lib.hid ⟨HB2.out, fun x hx => by simp at hx⟩
    obtain ⟨pt, pw⟩ := pr
    clear hb2 hpr
    go_wp2_with fail
    go_loopw [5, 6] (fun sv iv wr => ∃ i : Nat, i ≤ n ∧ iv = .int .i64 i ∧ sv = .string (strB (textI (l.take i))) ∧ Hid (LR w wr l n i)) (fun _ i _ => n - (intOf i).toNat)
    case atStart => exact ⟨0, by omega, rfl, rfl, HL0⟩
    case round =>
      obtain ⟨i, hin, rfl, rfl, HL⟩ := hrel
      have htl := textI_len (l.take i) (fun x hx => (HL.out.ok x hx).2)
      have htk : (l.take i).length ≤ 600 := by rw [List.length_take]; omega
      have zT : (strB (textI (l.take i))).size ≤ 100000 := by rw [strB_size]; omega
      have HTR := Lib.hid (HT.out.below HL.out.bel (Nat.le_refl _))
      by_cases hlt : i < n
      · obtain ⟨x, hx⟩ : ∃ x, l[i]? = some x := ⟨_, List.getElem?_eq_getElem (by omega)⟩
        have hxk := HK.out x (List.mem_of_getElem? hx)
        obtain ⟨o, a, b, c, k⟩ := x
        obtain ⟨b1, o1, rfl, hb1, c0, c1, c2, c3, c4⟩ := ins_cells ((HV.out (by omega)).below HL.out.bel (Nat.le_refl _)) hx (by omega)
        have f1 : (0 : Int) ≤ (i : Int) := by omega
        have f2 : (i : Int) < (n : Int) := by omega
        simp only [] at c0 c1 c2 c3 c4 hxk
        have HX := Lib.hid hx
        have HXK := Lib.hid hxk
        clear hx hxk htl htk
        go_wp2_with fail
        refine (r02_any _ o a b c k n (by omega) HXK.out).mono ?_
        rintro e w3 ⟨rfl, hb3⟩
        have HB3 := Lib.hid hb3
        have k0 := bcell hb3 c0
        have k1 := bcell hb3 c1
        have k2 := bcell hb3 c2
        have k3 := bcell hb3 c3
        have k4 := bcell hb3 c4
        clear c0 c1 c2 c3 c4 hb3
        cases hrt : rightB ⟨o, a, b, c, k⟩ n with
        | false =>
          have h3 := print_out hn (by omega) HX.out hrt
          rw [← HPR.out] at h3
          injection h3 with h3 h4
          subst h3 h4
          clear hrt
          have hse : (strB []).toList.isEmpty = true := by rw [ByteArray.toList_eq]; rfl
          go_wp2_with fail
          go_ret
          exact ⟨rfl, HL.out.bel.trans (HB3.out.mono HL.out.bel.size)⟩
        | true =>
          have hft := fits_right (n := n) (by omega) HXK.out hrt
          have hll := line_len hft
          have zL : (strB (lineOf ⟨o, a, b, c, k⟩ [])).size ≤ 200 := by rw [strB_size]; omega
          have HFT := Lib.hid hft
          have HRT := Lib.hid hrt
          clear hft hrt hll
          go_wp2_with fail
          refine (line_any w3 o a b c k HFT.out).mono ?_
          rintro e w4 ⟨rfl, hb4⟩
          have HL4 : Hid (LR w w4 l n (i + 1)) := Lib.hid (HL.out.step (HB3.out.trans (hb4.mono HB3.out.size)) HX.out HRT.out HFT.out)
          clear hb4
          have hq : strB (textI (l.take i)) ++ strB (lineOf ⟨o, a, b, c, k⟩ []) ++ ⟨#[10]⟩ = strB (textI (l.take (i + 1))) := by
            rw [take_snoc HX.out, textI_app, strB_app, show (⟨#[10]⟩ : ByteArray) = strB [10] from rfl, strB_app]
            simp [textI]
          have HQ := Lib.hid hq
          clear hq
          go_wp2_with fail
          exact ⟨⟨i + 1, by omega, by simp, congrArg Value.string HQ.out, HL4⟩, by simp [intOf]; omega⟩
      · have hd : decide ((i : Int) < (n : Int)) = false := decide_eq_false (by omega)
        have hall := print_in hn (by omega) (fun x hx => (HL.out.ok x (by rw [List.take_of_length_le (by omega)]; exact hx)).1)
        rw [← HPR.out] at hall
        injection hall with h3 h4
        subst h3 h4
        rw [List.take_of_length_le (by omega)]
        go_wp2_with fail
        go_ret
        exact ⟨by simp, HL.out.bel⟩
end Go.Proofs.YtlopmejmionnpaaDoor.As
