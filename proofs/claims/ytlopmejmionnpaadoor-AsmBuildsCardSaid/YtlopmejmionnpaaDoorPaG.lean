/- The walks of the package asm: where a jump goes to; an address. -/
import Derived.Test.YtlopmejmionnpaaDoorPaE
import Derived.Test.YtlopmejmionnpaaDoorPaF
set_option linter.unusedVariables false
namespace Go.Proofs.YtlopmejmionnpaaDoor.As
open Go.RowKit

/-! ### A place -/
theorem pre_at (l : B8) : Lib.hasPrefix l [64] = decide (l[0]? = some 64) ∧ (l[0]? = some 64 → Lib.trimPrefix l [64] = l.drop 1) := by
  cases l with
  | nil => exact ⟨rfl, fun h => by simp at h⟩
  | cons a r =>
    have e : Lib.hasPrefix (a :: r) [64] = decide ((a :: r)[0]? = some 64) := by
      unfold Lib.hasPrefix
      by_cases h : a = 64
      · subst h; rfl
      · have : (64 == a) = false := by simpa using fun e : (64 : UInt8) = a => h e.symm
        simp [List.isPrefixOf, this, h]
    refine ⟨e, fun h => ?_⟩
    unfold Lib.trimPrefix
    rw [e, if_pos (by simpa using h)]
    rfl
set_option maxHeartbeats 1000000 in
theorem mplace_any (w : World) (R : Nat) (s : LS) (h : LineA w R s) (T : TabA w) (hR : NoA R) :
    Calls Tryd.prog 71 #[.pointer (some ⟨R, 0, none⟩)] w (TakeP R (takeB 84 s) w) := by
  cases hs : s.ws with
  | nil =>
    rw [take_nil hs]
    have H := Lib.hid h
    have HS := Lib.hid hs
    clear h hs T
    go_enter Tryd.func71, Tryd.ntmps71
    go_wp2_with fail
    refine (next_no _ R s HS.out H.out).mono ?_
    rintro e w1 ⟨rfl, rfl⟩
    exact ⟨rfl, take_no (Only.refl _ _)⟩
  | cons w0 r =>
    obtain ⟨o, ho⟩ : ∃ o, takeB 84 s = o := ⟨_, rfl⟩
    rw [ho]
    have HO := Lib.hid ho
    clear ho
    have hw0 := num_word h hs
    have HT := Lib.hid T
    have H := Lib.hid h
    have HS := Lib.hid hs
    have HW := Lib.hid hw0
    have HN := Lib.hid hR
    clear h hs T hw0 hR
    go_enter Tryd.func71, Tryd.ntmps71
    go_wp2_with fail
    refine (next_yes _ R s w0 r HS.out H.out).mono ?_
    rintro e w1 ⟨rfl, h1, o1⟩
    have T1 := Lib.hid (HT.out.only o1 (fun k hk => by rw [show k = R from hk]; exact HN.out))
    have H1 := Lib.hid h1
    have O1 := Lib.hid o1
    clear h1 o1
    go_wp2_with fail
    refine (Tryd.strings_CutPrefix ⟨w0.toArray⟩ ⟨#[64]⟩ _).mono ?_
    rintro e w2 ⟨he, hw2⟩
    subst hw2
    have hpre := pre_at w0
    obtain ⟨d, hd⟩ : ∃ d, w0.drop 1 = d := ⟨_, rfl⟩
    have hdl : d.length ≤ 1000000 := by rw [← hd, List.length_drop]; have := HW.out; omega
    have hpl := take_place HS.out
    rw [hd] at hpre hpl
    have HPL := Lib.hid hpl
    clear hd hpl
    rw [show (ByteArray.mk w0.toArray).data.toList = w0 from rfl, show (ByteArray.mk #[64]).data.toList = [64] from rfl, hpre.1] at he
    by_cases hp : w0[0]? = some 64
    · rw [hpre.2 hp, decide_eq_true hp] at he
      subst he
      have HP := Lib.hid hp
      clear hpre hp
      go_wp2_with fail
      refine (must_yes _).mono ?_
      rintro e w3 ⟨rfl, rfl⟩
      go_wp2_with fail
      refine (num_any _ ⟨d.toArray⟩ (by simpa [ByteArray.size] using hdl) T1.out).mono ?_
      rintro e w4 ⟨v, he, hv, hb2⟩
      rw [show (ByteArray.mk d.toArray).data.toList = d from rfl] at he hv
      have H2 := Lib.hid (H1.out.below hb2)
      have O2 := Lib.hid (only_tr O1.out (only_bl hb2))
      have T2 := Lib.hid (T1.out.below hb2 (Nat.le_refl _))
      clear hb2
      by_cases hr : 0 ≤ numB d
      · obtain rfl : some ⟨r, { s.i with k := numB d }, s.to⟩ = o := by rw [← HO.out, HPL.out, if_pos HP.out, if_pos hr]
        rw [decide_eq_true hr] at he
        have hv1 := hv hr
        subst hv1 he
        have HR := Lib.hid hr
        clear hv hr
        obtain ⟨A, cap, h3⟩ := H2.out
        have H3 := Lib.hid h3
        have f1 := line_f h3 5
        have c1 := cell_of_row w4 R 5 _ _ _ h3.blk
        simp at c1
        clear h3
        go_wp2_with fail
        refine bodyPost_ret (results_none rfl _ _ _) rfl ?_
        exact take_yes ⟨A, cap, line_set H3.out 5 _ _ rfl rfl⟩ (only_tr O2.out (only_set _ _ _ _))
      · rw [decide_eq_false hr] at he
        subst he
        have HR := Lib.hid hr
        clear hv hr
        go_wp2_with fail
        refine (name_any _ ⟨d.toArray⟩ (by simp only [ByteArray.size, List.size_toArray]; unfold maxLen; omega)).mono ?_
        rintro e w5 ⟨he, hb3⟩
        rw [show (ByteArray.mk d.toArray).data.toList = d from rfl] at he
        have H3 := Lib.hid (H2.out.below hb3)
        have O3 := Lib.hid (only_tr O2.out (only_bl hb3))
        clear hb3
        by_cases hn : nameOk d = true
        · obtain rfl : some ⟨r, s.i, d⟩ = o := by rw [← HO.out, HPL.out, if_pos HP.out, if_neg (by have := HR.out; omega), if_pos hn]
          rw [hn] at he
          subst he
          clear hn
          obtain ⟨A, cap, h4⟩ := H3.out
          have H4 := Lib.hid h4
          have f1 := line_f h4 6
          have c1 := cell_of_row w5 R 6 _ _ _ h4.blk
          simp at c1
          clear h4
          go_wp2_with fail
          refine (must_yes _).mono ?_
          rintro e w6 ⟨rfl, rfl⟩
          go_wp2_with fail
          go_end0
          exact take_yes ⟨A, cap, line_set H4.out 6 _ _ rfl rfl⟩ (only_tr O3.out (only_set _ _ _ _))
        · obtain rfl : none = o := by rw [← HO.out, HPL.out, if_pos HP.out, if_neg (by have := HR.out; omega), if_neg hn]
          rw [show nameOk d = false from by simpa using hn] at he
          subst he
          clear hn
          go_wp2_with fail
          refine (must_no _).mono ?_
          rintro e w6 ⟨rfl, rfl⟩
          exact ⟨rfl, take_no O3.out⟩
    · obtain rfl : none = o := by rw [← HO.out, HPL.out, if_neg hp]
      rw [decide_eq_false hp] at he
      subst he
      clear hpre hp
      go_wp2_with fail
      refine (must_no _).mono ?_
      rintro e w3 ⟨rfl, rfl⟩
      exact ⟨rfl, take_no O1.out⟩
end Go.Proofs.YtlopmejmionnpaaDoor.As
