/- The law AsmBack: its walk. -/
import Derived.Test.YtlopmejmionnpaaDoorPaZ
import Derived.Test.YtlopmejmionnpaaDoorTx4
set_option linter.unusedVariables false
set_option linter.unusedSimpArgs false
namespace Go.Proofs.YtlopmejmionnpaaDoor.As
open Go.RowKit

theorem right_jump {i : Ins} {n : Nat} (h : rightB i n = true) (hj : jumps i.op = true) : i.k ≤ (n : Int) := by
  unfold rightB at h
  simp only [Bool.and_eq_true, decide_eq_true_eq] at h
  have h84 := has84 h.1.1.1.1
  rw [hj] at h84
  have := h.2
  rw [h84] at this
  simpa using this
/-- What Print gives, in two words. -/
theorem print_two {l : List Ins} {n : Nat} (hn : l.length = n) (hs : n ≤ 600) (hk : ∀ x ∈ l, 0 ≤ x.k ∧ x.k ≤ 4294967295) : printB l = ([], 3) ∨ printB l = (textI l, 0) ∧ ((textI l).length ≤ 20000 → parseB (textI l) = (l, 0, 0)) := by
  unfold printB
  rw [if_neg (by omega)]
  by_cases h : l.all (fun i => rightB i l.length) = true
  · right
    rw [if_pos h]
    refine ⟨rfl, fun ht => ?_⟩
    rw [List.all_eq_true] at h
    exact T4.own_back l (fun i hi => ⟨fits_right (n := n) (by omega) (hk i hi) (by rw [← hn]; exact h i hi), fun hj => right_jump (h i hi) hj⟩) (by omega) ht
  · left
    rw [if_neg h]
set_option maxHeartbeats 4000000 in
set_option maxRecDepth 100000 in
theorem asmBack_any (w : World) (v : Value) (h : InX w v) (T : TabA w) (N : NamesA w) :
    Calls Tryd.prog 8 #[v] w fun e w' => e = .returned (.bool true) ∧ Below w.heap.size w w' := by
  obtain ⟨n, l, ⟨A, cap, rfl, hn, hv⟩, hnm, hk⟩ := h
  have HV := Lib.hid hv
  have HK := Lib.hid hk
  have HT := Lib.hid T
  have HN := Lib.hid N
  clear hv hk T N
  by_cases hbig : 600 < n
  · have hb : (600 : Int) < (n : Int) := by omega
    go_enter Tryd.func8, Tryd.ntmps8
    go_wp2_with fail
    refine (awake_any _ HT.out HN.out).mono ?_
    rintro e w1 ⟨rfl, hb1⟩
    have HB1 := Lib.hid hb1
    have HT1 := Lib.hid (HT.out.below hb1 (Nat.le_refl _))
    have HN1 := Lib.hid (HN.out.of_blk (hb1.block _ HN.out.lt))
    clear hb1
    go_wp2_with fail
    refine (awake_any _ HT1.out HN1.out).mono ?_
    rintro e w2 ⟨rfl, hb2⟩
    have HB2 := Lib.hid (HB1.out.trans (hb2.mono HB1.out.size))
    clear hb2
    go_wp2_with fail
    go_ret
    exact ⟨rfl, HB2.out⟩
  · have hb : decide ((600 : Int) < (n : Int)) = false := decide_eq_false (by omega)
    have h2 := print_two hn (by omega) HK.out
    obtain ⟨pr, hpr⟩ : ∃ pr, pr = printB l := ⟨_, rfl⟩
    rw [← hpr] at h2
    have HPR := Lib.hid hpr
    clear hpr
    rcases h2 with rfl | ⟨rfl, hback⟩
    · go_enter Tryd.func8, Tryd.ntmps8
      go_wp2_with fail
      refine (awake_any _ HT.out HN.out).mono ?_
      rintro e w1 ⟨rfl, hb1⟩
      have HB1 := Lib.hid hb1
      have HT1 := Lib.hid (HT.out.below hb1 (Nat.le_refl _))
      clear hb1
      go_wp2_with fail
      refine (print_any w1 _ l n (RdZ.below ⟨A, cap, rfl, hn, HV.out⟩ HB1.out (Nat.le_refl _)) hnm HK.out HT1.out).mono ?_
      rw [← HPR.out]
      rintro e w2 ⟨rfl, hb2⟩
      have HB2 := Lib.hid (HB1.out.trans (hb2.mono HB1.out.size))
      have hse : (strB []).toList.isEmpty = true := by rw [ByteArray.toList_eq]; rfl
      clear hb2
      go_wp2_with fail
      go_ret
      exact ⟨rfl, HB2.out⟩
    · by_cases hlong : 20000 < (textI l).length
      · have hlb : (20000 : Int) < ((strB (textI l)).size : Int) := by rw [strB_size]; omega
        go_enter Tryd.func8, Tryd.ntmps8
        go_wp2_with fail
        refine (awake_any _ HT.out HN.out).mono ?_
        rintro e w1 ⟨rfl, hb1⟩
        have HB1 := Lib.hid hb1
        have HT1 := Lib.hid (HT.out.below hb1 (Nat.le_refl _))
        clear hb1
        go_wp2_with fail
        refine (print_any w1 _ l n (RdZ.below ⟨A, cap, rfl, hn, HV.out⟩ HB1.out (Nat.le_refl _)) hnm HK.out HT1.out).mono ?_
        rw [← HPR.out]
        rintro e w2 ⟨rfl, hb2⟩
        have HB2 := Lib.hid (HB1.out.trans (hb2.mono HB1.out.size))
        clear hb2
        go_wp2_with fail
        go_ret
        exact ⟨rfl, HB2.out⟩
      · have hlb : decide ((20000 : Int) < ((strB (textI l)).size : Int)) = false := decide_eq_false (by rw [strB_size]; omega)
        have hpb := hback (by omega)
        have hsz : (strB (textI l)).size ≤ maxLen := by rw [strB_size]; unfold maxLen; omega
        have HPB := Lib.hid hpb
        have HSZ := Lib.hid hsz
        clear hback hpb hsz
        go_enter Tryd.func8, Tryd.ntmps8
        go_wp2_with fail
        refine (awake_any _ HT.out HN.out).mono ?_
        rintro e w1 ⟨rfl, hb1⟩
        have HB1 := Lib.hid hb1
        have HT1 := Lib.hid (HT.out.below hb1 (Nat.le_refl _))
        clear hb1
        go_wp2_with fail
        refine (print_any w1 _ l n (RdZ.below ⟨A, cap, rfl, hn, HV.out⟩ HB1.out (Nat.le_refl _)) hnm HK.out HT1.out).mono ?_
        rw [← HPR.out]
        rintro e w2 ⟨rfl, hb2⟩
        have HB2 := Lib.hid (HB1.out.trans (hb2.mono HB1.out.size))
        have HT2 := Lib.hid (HT.out.below HB2.out (Nat.le_refl _))
        have HN2 := Lib.hid (HN.out.of_blk (HB2.out.block _ HN.out.lt))
        clear hb2
        go_wp2_with fail
        refine (pparse_any _ (strB (textI l)) HSZ.out HT2.out HN2.out).mono ?_
        rintro e w3 hp
        rw [show parseB (strB (textI l)).data.toList = (l, 0, 0) from HPB.out] at hp
        obtain ⟨v3, rfl, ho3, hb3⟩ := hp
        have HB3 := Lib.hid (HB2.out.trans (hb3.mono HB2.out.size))
        have HR3 := Lib.hid (RdZ.of (n := n) (hn ▸ Rd.of_own ho3) hn)
        clear hb3 ho3
        go_wp2_with fail
        refine (same04_z w3 v3 _ l n HR3.out (RdZ.below ⟨A, cap, rfl, hn, HV.out⟩ HB3.out (Nat.le_refl _)) (by omega)).mono ?_
        rintro e w4 ⟨rfl, m, rfl⟩
        go_wp2_with fail
        go_ret
        exact ⟨rfl, below_dn HB3.out m⟩
end Go.Proofs.YtlopmejmionnpaaDoor.As
