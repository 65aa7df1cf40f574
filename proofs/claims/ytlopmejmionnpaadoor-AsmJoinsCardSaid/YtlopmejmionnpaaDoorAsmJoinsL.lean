/- The law AsmJoins: its walk. -/
import Derived.Test.YtlopmejmionnpaaDoorPaAA
set_option linter.unusedVariables false
set_option linter.unusedSimpArgs false
namespace Go.Proofs.YtlopmejmionnpaaDoor.As
open Go.RowKit

theorem RdZ.rd {w : World} {v : Value} {n : Nat} {l : List Ins} (h : RdZ w v n l) (hn : 0 < n) : Rd w 5 v n (flat l) := by
  obtain ⟨A, cap, rfl, _, h⟩ := h
  exact h hn
def InX2 (W : World) (v : Value) : Prop := InX W v ∧ NilZ v
set_option maxRecDepth 100000 in
theorem ins2_open {H : Type} {enc : TypeId × Value → H} {W : World} {b0 base : Nat} {r : Reach} {sp : Nat → Bool} {held : Bool} {v : Value} {d : DataW H} {p : List MemPlace}
    (hv : Value.okWide Tryd.prog W r b0 23 v) (h : DataW.Trod enc Tryd.prog W base sp held 23 v d p) : InX2 W v := ⟨ins_open hv h, nil_open h⟩
theorem has84_any (w : World) (op : Int) : Calls Tryd.prog 19 #[.int .i64 op, .int .u8 84] w fun e w' => e = .returned (.bool (hasB op 84)) ∧ Below w.heap.size w w' := has_any w op 84
theorem below_grown {w W w1 : World} {r : Option Nat} (h : Below w.heap.size w W) (hg : W.grownBy w1 r) (hr : ∀ k, r = some k → w.heap.size ≤ k) : Below w.heap.size w w1 :=
  ⟨hg.os.trans h.os, hg.tape.trans h.tape, hg.output.trans h.output, Nat.le_trans h.size hg.size, fun k hk => (hg.block k (Nat.lt_of_lt_of_le hk h.size) (fun e => by have := hr k e.symm; omega)).trans (h.block k hk)⟩
theorem right_plain {i : Ins} {n m : Nat} (h : hasB i.op 84 = false) : rightB i n = rightB i m := by unfold rightB; rw [h]; rfl
theorem flat_app2 (a b : List Ins) : flat (a ++ b) = flat a ++ flat b := by simp [flat]
/-- What Print gives of two codes and of both. -/
theorem print_join {a b : List Ins} (hs : (a ++ b).length ≤ 4000) (h : ∀ x ∈ a ++ b, hasB x.op 84 = false) :
    (printB a = ([], 3) ∨ printB b = ([], 3)) ∧ printB (a ++ b) = ([], 3) ∨ printB a = (textI a, 0) ∧ printB b = (textI b, 0) ∧ printB (a ++ b) = (textI a ++ textI b, 0) := by
  have hl : (a ++ b).length = a.length + b.length := List.length_append
  have e1 : a.all (fun i => rightB i a.length) = a.all (fun i => rightB i (a ++ b).length) := by
    rw [Bool.eq_iff_iff, List.all_eq_true, List.all_eq_true]
    exact ⟨fun H x hx => (right_plain (h x (List.mem_append_left _ hx))).symm.trans (H x hx), fun H x hx => (right_plain (h x (List.mem_append_left _ hx))).trans (H x hx)⟩
  have e2 : b.all (fun i => rightB i b.length) = b.all (fun i => rightB i (a ++ b).length) := by
    rw [Bool.eq_iff_iff, List.all_eq_true, List.all_eq_true]
    exact ⟨fun H x hx => (right_plain (h x (List.mem_append_right _ hx))).symm.trans (H x hx), fun H x hx => (right_plain (h x (List.mem_append_right _ hx))).trans (H x hx)⟩
  unfold printB
  rw [if_neg (show ¬ 4000 < a.length by omega), if_neg (show ¬ 4000 < b.length by omega), if_neg (show ¬ 4000 < (a ++ b).length by omega), e1, e2, List.all_append, textI_app]
  cases a.all (fun i => rightB i (a ++ b).length) <;> cases b.all (fun i => rightB i (a ++ b).length) <;> simp
theorem print_len {l : List Ins} {n : Nat} {t : B8} (hn : l.length = n) (hs : n ≤ 4000) (hk : ∀ x ∈ l, 0 ≤ x.k ∧ x.k ≤ 4294967295) (h : printB l = (t, 0)) : t.length ≤ 111 * n := by
  unfold printB at h
  rw [if_neg (by omega)] at h
  split at h
  · next ha =>
    injection h with h1 _
    rw [← h1, ← hn]
    rw [List.all_eq_true] at ha
    exact textI_len l (fun x hx => fits_right (n := n) (by omega) (hk x hx) (by rw [← hn]; exact ha x hx))
  · injection h with _ h2
    cases h2
set_option maxHeartbeats 4000000 in
set_option maxRecDepth 100000 in
theorem asmJoins_any (w : World) (va : Value) (ha : InX2 w va) (vb : Value) (hb : InX2 w vb) (T : TabA w) (N : NamesA w) :
    Calls Tryd.prog 9 #[va, vb] w fun e w' => e = .returned (.bool true) ∧ Below w.heap.size w w' := by
  obtain ⟨⟨n, l, hza, hnm, hk⟩, hnil⟩ := ha
  obtain ⟨⟨m, k, hzb, hmm, hkb⟩, hnib⟩ := hb
  have HZA := Lib.hid hza
  have HZB := Lib.hid hzb
  obtain ⟨A, ca, rfl, hl, _⟩ := hza
  obtain ⟨B, cb, rfl, hkl, _⟩ := hzb
  have HNA := Lib.hid hnil
  have HNB := Lib.hid hnib
  have HK := Lib.hid hk
  have HKB := Lib.hid hkb
  have HT := Lib.hid T
  have HN := Lib.hid N
  clear hk hkb hnil hnib T N
  by_cases hbig : 200 < n ∨ 200 < m
  · by_cases hb1 : 200 < n
    · have hb : (200 : Int) < (n : Int) := by omega
      clear hbig
      go_enter Tryd.func9, Tryd.ntmps9
      go_wp2_with fail
      refine (awake_any _ HT.out HN.out).mono ?_
      rintro e w1 ⟨rfl, hb1⟩
      have HB1 := Lib.hid hb1
      have HT1 := Lib.hid (HT.out.below hb1 (Nat.le_refl _))
      have HN1 := Lib.hid (HN.out.of_blk (hb1.block _ HN.out.lt))
      clear hb1
      go_wp2_with fail
      refine (awake_any _ HT1.out HN1.out).mono ?_
      rintro e w2 ⟨rfl, hb2⟩
      have HB2 := Lib.hid (HB1.out.trans (hb2.mono HB1.out.size))
      clear hb2
      go_wp2_with fail
      go_ret
      exact ⟨rfl, HB2.out⟩
    · have hb : decide ((200 : Int) < (n : Int)) = false := decide_eq_false (by omega)
      have hbb : (200 : Int) < (m : Int) := by omega
      clear hbig
      go_enter Tryd.func9, Tryd.ntmps9
      go_wp2_with fail
      refine (awake_any _ HT.out HN.out).mono ?_
      rintro e w1 ⟨rfl, hb1⟩
      have HB1 := Lib.hid hb1
      have HT1 := Lib.hid (HT.out.below hb1 (Nat.le_refl _))
      have HN1 := Lib.hid (HN.out.of_blk (hb1.block _ HN.out.lt))
      clear hb1
      go_wp2_with fail
      refine (awake_any _ HT1.out HN1.out).mono ?_
      rintro e w2 ⟨rfl, hb2⟩
      have HB2 := Lib.hid (HB1.out.trans (hb2.mono HB1.out.size))
      clear hb2
      go_wp2_with fail
      go_ret
      exact ⟨rfl, HB2.out⟩
  · have hd1 : decide ((200 : Int) < (n : Int)) = false := decide_eq_false (by omega)
    have hd2 : decide ((200 : Int) < (m : Int)) = false := decide_eq_false (by omega)
    have hn2 : n ≤ 200 := by omega
    have hm2 : m ≤ 200 := by omega
    clear hbig
    go_enter Tryd.func9, Tryd.ntmps9
    go_wp2_with fail
    refine (awake_any _ HT.out HN.out).mono ?_
    rintro e w1 ⟨rfl, hb1⟩
    have HB1 := Lib.hid hb1
    have HZ1 := Lib.hid (HZA.out.below hb1 (Nat.le_refl _))
    have HY1 := Lib.hid (HZB.out.below hb1 (Nat.le_refl _))
    clear hb1
    have hA0 : Below w1.heap.size w1 (w1.alloc (.cells #[] 34)) := (Below.refl _ _).alloc (Nat.le_refl _) _
    have hO0 : (w1.alloc (.cells #[] 34)).ownsRow w1.heap.size 34 5 (.slice (some ⟨w1.heap.size, 0, none⟩) 0 0) 0 [] := ⟨rfl, .inr ⟨w1.heap.size, 0, #[], rfl, Nat.le_refl _, heap_alloc_new _ _, Nat.le_refl _, Nat.zero_le _, rfl, rfl⟩⟩
    have HA0 := Lib.hid hA0
    have HO0 := Lib.hid hO0
    clear hA0 hO0
    go_wp2_with (first
      | (at_builtin; refine wpList_append_z rfl (.tmp 26) (.tmp 27) rfl w1.heap.size (.slice (some ⟨w1.heap.size, 0, none⟩) 0 0) 0 [] rfl HO0.out _ n l rfl (HZ1.out.below HA0.out (Nat.le_refl _)) HNA.out (by omega) HA0.out.size ?_; intro v1 wA hoA hgA; have HBA := Lib.hid (below_grown HA0.out hgA (fun k hk => (HO0.out.lt k hk).1)); have HYA := Lib.hid (HY1.out.below HBA.out (Nat.le_refl _)); have HOA := Lib.hid hoA; clear hoA hgA)
      | (at_builtin; refine wpList_append_z rfl (.tmp 28) (.tmp 29) rfl w1.heap.size v1 (0 + n) ([] ++ flat l) rfl HOA.out _ m k rfl HYA.out HNB.out (by omega) HBA.out.size ?_; intro v2 wB hoB hgB; have HBB := Lib.hid (below_grown HBA.out hgB (fun k hk => (HOA.out.lt k hk).1)); have hzB : RdZ wB v2 (n + m) (l ++ k) := RdZ.of (by rw [flat_app2]; have := Rd.of_own hoB; rwa [Nat.zero_add, List.nil_append] at this) (by rw [List.length_append, hl, hkl]); obtain ⟨A2, c2, rfl, hl2, hrd2⟩ := hzB; have HZB2 := Lib.hid (show RdZ wB (.slice A2 (n + m) c2) (n + m) (l ++ k) from ⟨A2, c2, rfl, hl2, hrd2⟩); clear hoB hgB hrd2))
    obtain ⟨q, hq⟩ : ∃ q, n + m = q := ⟨_, rfl⟩
    obtain ⟨lk, hlk⟩ : ∃ lk, l ++ k = lk := ⟨_, rfl⟩
    rw [hq, hlk] at HZB2
    rw [hq, hlk] at hl2
    rw [hq]
    have HLK := Lib.hid hlk
    have HBW : Hid (Below w.heap.size w wB) := Lib.hid (HB1.out.trans (HBB.out.mono HB1.out.size))
    have HKK : Hid (∀ x ∈ lk, 0 ≤ x.k ∧ x.k ≤ 4294967295) := Lib.hid (fun x hx => by
      rw [← hlk] at hx
      rcases List.mem_append.1 hx with hx | hx
      · exact HK.out x hx
      · exact HKB.out x hx)
    have hq4 : q ≤ 400 := by omega
    clear hlk hd1 hd2
    go_loopw [6] (fun iv wr => ∃ i : Nat, i ≤ q ∧ iv = .int .i64 i ∧ Hid (Below wB.heap.size wB wr) ∧ Hid (∀ x ∈ lk.take i, hasB x.op 84 = false)) (fun i _ => q - (intOf i).toNat)
    case atStart => exact ⟨0, by omega, rfl, Lib.hid (Below.refl _ _), Lib.hid (fun x hx => by simp at hx)⟩
    case round =>
      obtain ⟨i, hin, rfl, HBR, HNO⟩ := hrel
      have HWR := Lib.hid (HBW.out.trans (HBR.out.mono HBW.out.size))
      by_cases hlt : i < q
      · obtain ⟨x, hx⟩ : ∃ x, lk[i]? = some x := ⟨_, List.getElem?_eq_getElem (by omega)⟩
        obtain ⟨o, a, b, c, kk⟩ := x
        obtain ⟨b1, o1, rfl, hb1, c0, c1, c2, c3, c4⟩ := ins_cells ((HZB2.out.rd (by omega)).below HBR.out (Nat.le_refl _)) hx (by omega)
        have f1 : (0 : Int) ≤ (i : Int) := by omega
        have f2 : (i : Int) < (q : Int) := by omega
        simp only [] at c0 c1 c2 c3 c4
        have HX := Lib.hid hx
        clear hx c1 c2 c3 c4
        go_wp2_with fail
        refine (has84_any _ o).mono ?_
        rintro e w3 ⟨rfl, hb3⟩
        have HB3 := Lib.hid (HBR.out.trans (hb3.mono HBR.out.size))
        clear hb3 c0
        cases h84 : hasB o 84 with
        | true =>
          clear h84
          go_wp2_with fail
          go_ret
          exact ⟨rfl, HBW.out.trans (HB3.out.mono HBW.out.size)⟩
        | false =>
          have HNO2 : Hid (∀ x ∈ lk.take (i + 1), hasB x.op 84 = false) := Lib.hid (fun y hy => by
            rw [take_snoc HX.out] at hy
            rcases List.mem_append.1 hy with hy | hy
            · exact HNO.out y hy
            · rw [List.mem_singleton.1 hy]; exact h84)
          clear h84
          go_wp2_with fail
          exact ⟨⟨i + 1, by omega, by simp, HB3, HNO2⟩, by simp [intOf]; omega⟩
      · have hd : decide ((i : Int) < (q : Int)) = false := decide_eq_false (by omega)
        have hno : ∀ x ∈ l ++ k, hasB x.op 84 = false := fun x hx => by
          rw [HLK.out] at hx
          exact HNO.out x (by rw [List.take_of_length_le (by omega)]; exact hx)
        have hpj := print_join (by rw [HLK.out]; omega) hno
        rw [HLK.out] at hpj
        obtain ⟨pa, hpa⟩ : ∃ pa, pa = printB l := ⟨_, rfl⟩
        obtain ⟨pb, hpb⟩ : ∃ pb, pb = printB k := ⟨_, rfl⟩
        obtain ⟨pc, hpc⟩ : ∃ pc, pc = printB lk := ⟨_, rfl⟩
        rw [← hpa, ← hpb, ← hpc] at hpj
        have HPA := Lib.hid hpa
        have HPB := Lib.hid hpb
        have HPC := Lib.hid hpc
        have HPJ := Lib.hid hpj
        have HT2 := Lib.hid (HT.out.below HWR.out (Nat.le_refl _))
        have HZA2 := Lib.hid (HZA.out.below HWR.out (Nat.le_refl _))
        have HZK2 := Lib.hid (HZB.out.below HWR.out (Nat.le_refl _))
        have HZC2 := Lib.hid (HZB2.out.below HBR.out (Nat.le_refl _))
        obtain ⟨ta, ea⟩ := pa
        obtain ⟨tb, eb⟩ := pb
        obtain ⟨tc, ec⟩ := pc
        clear hno hpj hpa hpb hpc
        go_wp2_with fail
        refine (print_any wr _ l n HZA2.out hnm HK.out HT2.out).mono ?_
        rw [← HPA.out]
        rintro e w3 ⟨rfl, hb3⟩
        have HB3 := Lib.hid hb3
        have HT3 := Lib.hid (HT2.out.below hb3 (Nat.le_refl _))
        clear hb3
        go_wp2_with fail
        refine (print_any w3 _ k m (HZK2.out.below HB3.out (Nat.le_refl _)) hmm HKB.out HT3.out).mono ?_
        rw [← HPB.out]
        rintro e w4 ⟨rfl, hb4⟩
        have HB4 := Lib.hid (HB3.out.trans (hb4.mono HB3.out.size))
        have HT4 := Lib.hid (HT2.out.below HB4.out (Nat.le_refl _))
        clear hb4
        go_wp2_with fail
        refine (print_any w4 _ lk q (HZC2.out.below HB4.out (Nat.le_refl _)) (by unfold maxLen; omega) HKK.out HT4.out).mono ?_
        rw [← HPC.out]
        rintro e w5 ⟨rfl, hb5⟩
        have HB5 := Lib.hid (HWR.out.trans ((HB4.out.trans (hb5.mono HB4.out.size)).mono HWR.out.size))
        clear hb5
        rcases HPJ.out with ⟨hab, hc⟩ | ⟨h1, h2, h3⟩
        · injection hc with hc1 hc2
          subst hc1 hc2
          rcases hab with h | h
          · injection h with h1 h2
            subst h1 h2
            go_wp2_with fail
            go_ret
            exact ⟨rfl, HB5.out⟩
          · injection h with h1 h2
            subst h1 h2
            by_cases hea : ea = 0
            · subst hea
              go_wp2_with fail
              go_ret
              exact ⟨rfl, HB5.out⟩
            · have hea2 : (ea == 0) = false := by simpa using hea
              have hea3 : (ea != 0) = true := by simpa using hea
              clear hea
              go_wp2_with fail
              all_goals go_ret
              all_goals exact ⟨rfl, HB5.out⟩
        · have za := print_len hl (by omega) HK.out (HPA.out.symm.trans h1)
          have zb := print_len hkl (by omega) HKB.out (HPB.out.symm.trans h2)
          injection h1 with h1 g1
          injection h2 with h2 g2
          injection h3 with h3 g3
          subst h1 g1 h2 g2 h3 g3
          have ya : (strB (textI l)).size ≤ 30000 := by rw [strB_size]; omega
          have yb : (strB (textI k)).size ≤ 30000 := by rw [strB_size]; omega
          have hq2 : strB (textI l) ++ strB (textI k) = strB (textI l ++ textI k) := strB_app _ _
          go_wp2_with fail
          go_ret
          exact ⟨by simp [hq2], HB5.out⟩
end Go.Proofs.YtlopmejmionnpaaDoor.As
