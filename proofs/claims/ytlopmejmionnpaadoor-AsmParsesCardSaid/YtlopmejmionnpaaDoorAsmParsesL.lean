/- The law AsmParses: its walk. -/
import Derived.Test.YtlopmejmionnpaaDoorPaQ
set_option linter.unusedVariables false
namespace Go.Proofs.YtlopmejmionnpaaDoor.As
open Go.RowKit

set_option maxHeartbeats 1000000 in
theorem asmParses_any (w : World) (s : ByteArray) (hx : s.size ≤ maxLen) (T : TabA w) (N : NamesA w) :
    Calls Tryd.prog 3 #[.string s] w fun e w' => e = .returned (.bool true) ∧ Below w.heap.size w w' := by
  have HT := Lib.hid T
  have HN := Lib.hid N
  clear T N
  unfold maxLen at hx
  by_cases hs : 20100 < s.size
  · have d0 : decide (20100 < (s.size : Int)) = true := decide_eq_true (by omega)
    go_enter Tryd.func3, Tryd.ntmps3
    go_wp2_with fail
    refine (awake_any _ HT.out HN.out).mono ?_
    rintro e w1 ⟨rfl, hb1⟩
    have HB1 := Lib.hid hb1
    have HT1 := Lib.hid (HT.out.below hb1 (Nat.le_refl _))
    have HN1 := Lib.hid (HN.out.of_blk (hb1.block _ HN.out.lt))
    clear hb1
    go_wp2_with fail
    refine (awake_any _ HT1.out HN1.out).mono ?_
    rintro e w2 ⟨rfl, hb2⟩
    have HB2 := Lib.hid (HB1.out.trans (hb2.mono HB1.out.size))
    clear hb2
    go_wp2_with fail
    go_ret
    exact ⟨rfl, HB2.out⟩
  · have d0 : decide (20100 < (s.size : Int)) = false := decide_eq_false (by omega)
    have hms : s.size ≤ maxLen := by unfold maxLen; omega
    have HMS := Lib.hid hms
    clear hms
    go_enter Tryd.func3, Tryd.ntmps3
    go_wp2_with fail
    refine (awake_any _ HT.out HN.out).mono ?_
    rintro e w1 ⟨rfl, hb1⟩
    have HB1 := Lib.hid hb1
    have HT1 := Lib.hid (HT.out.below hb1 (Nat.le_refl _))
    have HN1 := Lib.hid (HN.out.of_blk (hb1.block _ HN.out.lt))
    clear hb1
    go_wp2_with fail
    refine (pparse_any _ s HMS.out HT1.out HN1.out).mono ?_
    rintro e w2 hp
    obtain ⟨r, hr⟩ : ∃ r, parseB s.data.toList = r := ⟨_, rfl⟩
    rw [hr] at hp
    have HR := Lib.hid hr
    clear hr
    obtain ⟨v2, rfl, ho2, hb2⟩ := hp
    have HB2 := Lib.hid (HB1.out.trans (hb2.mono HB1.out.size))
    have HO2 := Lib.hid ho2
    clear hb2 ho2
    go_wp2_with fail
    refine (parse_any _ s HMS.out).mono ?_
    rintro e w3 hp
    rw [HR.out] at hp
    obtain ⟨v3, rfl, ho3, hb3⟩ := hp
    have HB3 := Lib.hid (HB2.out.trans (hb3.mono HB2.out.size))
    have HR2 := Lib.hid ((Rd.of_own HO2.out).below hb3 (Nat.le_refl _))
    have HR3 := Lib.hid (Rd.of_own ho3)
    have hl : r.1.length ≤ 4000 := by
      rw [← HR.out]
      exact parse_len _
    clear hb3 ho3
    go_wp2_with fail
    refine (same04_any _ v2 v3 r.1 _ rfl HR2.out HR3.out (by omega)).mono ?_
    rintro e w4 ⟨rfl, m, rfl⟩
    go_wp2_with fail
    refine (name_any _ s HMS.out).mono ?_
    rintro e w5 ⟨rfl, hb5⟩
    have HB5 := Lib.hid ((below_dn HB3.out m).trans (hb5.mono (below_dn HB3.out m).size))
    clear hb5
    go_wp2_with fail
    refine (rname_any _ s (by omega)).mono ?_
    rintro e w6 ⟨rfl, rfl⟩
    go_wp2_with fail
    go_ret
    exact ⟨by simp, HB5.out⟩
end Go.Proofs.YtlopmejmionnpaaDoor.As
