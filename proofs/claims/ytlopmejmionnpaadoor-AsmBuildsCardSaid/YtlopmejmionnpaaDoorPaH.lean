/- The walks of the package asm: an address. -/
import Derived.Test.YtlopmejmionnpaaDoorPaG
import Derived.Test.YtlopmejmionnpaaDoorRefE
set_option linter.unusedVariables false
namespace Go.Proofs.YtlopmejmionnpaaDoor.As
open Go.RowKit

theorem take_mem {s : LS} {w0 : B8} {r : List B8} (hs : s.ws = w0 :: r) : takeB 77 s = if (addrB w0).1 < 0 ∨ (addrB w0).2 < 0 then none else some ⟨r, { s.i with b := (addrB w0).1, k := (addrB w0).2 }, s.to⟩ := by
  unfold takeB
  rw [hs]
  simp only []
  rw [if_neg (show ¬ (77 : UInt8) = 75 by decide), if_neg (show ¬ (77 : UInt8) = 84 by decide), if_pos trivial]
/-- The outer signs of an address. -/
def brk (l : B8) : Prop := 3 ≤ l.length ∧ l[0]? = some 91 ∧ l[l.length - 1]? = some 93
theorem addr_bad (l : B8) (h : ¬ brk l) : addrB l = (-1, -1) := by
  unfold addrB
  rw [if_pos]
  by_cases h1 : l.length < 3
  · exact .inl h1
  · by_cases h2 : l[0]? = some 91
    · by_cases h3 : l[l.length - 1]? = some 93
      · exact absurd ⟨by omega, h2, h3⟩ h
      · exact .inr (.inr h3)
    · exact .inr (.inl h2)
theorem addr_good (l : B8) (h : brk l) : addrB l = if ((l.drop 1).take (l.length - 2)).contains 43 then
      if regB (((l.drop 1).take (l.length - 2)).take (((l.drop 1).take (l.length - 2)).idxOf 43)) < 0 then (-1, -1)
      else (regB (((l.drop 1).take (l.length - 2)).take (((l.drop 1).take (l.length - 2)).idxOf 43)), numB (((l.drop 1).take (l.length - 2)).drop (((l.drop 1).take (l.length - 2)).idxOf 43 + 1)))
    else (8, numB ((l.drop 1).take (l.length - 2))) := by
  unfold addrB
  rw [if_neg (by rintro (e | e | e); · have := h.1; omega
                 · exact e h.2.1
                 · exact e h.2.2)]
theorem mem_nil (w : World) (R : Nat) (s : LS) (hs : s.ws = []) (h : LineA w R s) :
    Calls Tryd.prog 72 #[.pointer (some ⟨R, 0, none⟩)] w (TakeP R (takeB 77 s) w) := by
  rw [take_nil hs]
  have H := Lib.hid h
  have HS := Lib.hid hs
  clear h hs
  go_enter Tryd.func72, Tryd.ntmps72
  go_wp2_with fail
  refine (next_no _ R s HS.out H.out).mono ?_
  rintro e w1 ⟨rfl, rfl⟩
  exact ⟨rfl, take_no (Only.refl _ _)⟩
theorem mem_off (w : World) (R : Nat) (s : LS) (w0 : B8) (r : List B8) (hs : s.ws = w0 :: r) (h : LineA w R s) (hb : ¬ brk w0) :
    Calls Tryd.prog 72 #[.pointer (some ⟨R, 0, none⟩)] w (TakeP R (takeB 77 s) w) := by
  have hw0 := num_word h hs
  rw [take_mem hs, addr_bad w0 hb, if_pos (.inl (by decide))]
  have H := Lib.hid h
  have HS := Lib.hid hs
  clear h hs
  obtain ⟨q, hq⟩ : ∃ q : ByteArray, q = ⟨w0.toArray⟩ := ⟨_, rfl⟩
  have hl : q.data.toList = w0 := by rw [hq]
  rw [← hl] at hb hw0
  have hlen := toList_len q
  have HQ := Lib.hid hq
  clear hq hl
  by_cases h3 : q.size < 3
  · have d0 : decide (2 < (q.size : Int)) = false := decide_eq_false (by omega)
    have d1 : ¬ 2 < q.size := by omega
    clear hb hw0 hlen h3
    go_enter Tryd.func72, Tryd.ntmps72
    go_wp2_with fail
    refine (next_yes _ R s w0 r HS.out H.out).mono ?_
    rintro e w1 ⟨rfl, h1, o1⟩
    rw [← HQ.out]
    have O1 := Lib.hid o1
    clear h1 o1
    go_wp2_with fail
    refine (must_no _).mono ?_
    rintro e w2 ⟨rfl, rfl⟩
    exact ⟨rfl, take_no O1.out⟩
  · have d0 : decide (2 < (q.size : Int)) = true := decide_eq_true (by omega)
    have d1 : 2 < q.size := by omega
    obtain ⟨a, ha⟩ : ∃ c, q.data.toList[0]? = some c := ⟨_, List.getElem?_eq_getElem (by omega)⟩
    obtain ⟨z, hz⟩ : ∃ c, q.data.toList[q.size - 1]? = some c := ⟨_, List.getElem?_eq_getElem (by omega)⟩
    obtain ⟨i0, e0⟩ := at_byte ha
    obtain ⟨i1, e1⟩ := at_byte hz
    by_cases q0 : a = 91
    · have q1 : ¬ z = 93 := by
        intro e
        apply hb
        refine ⟨by omega, by rw [ha, q0], by rw [hlen, hz, e]⟩
      have k0 : ((a.toNat : Int) == 91) = true := by rw [q0]; rfl
      have k1 : ((z.toNat : Int) == 93) = false := byte_ne q1
      have hqm : q.size ≤ 1000000 := by omega
      clear hb hw0 hlen h3 ha hz q0 q1
      go_enter Tryd.func72, Tryd.ntmps72
      go_wp2_with fail
      refine (next_yes _ R s w0 r HS.out H.out).mono ?_
      rintro e w1 ⟨rfl, h1, o1⟩
      rw [← HQ.out]
      have O1 := Lib.hid o1
      clear h1 o1
      go_wp2_with fail
      refine (must_no _).mono ?_
      rintro e w2 ⟨rfl, rfl⟩
      exact ⟨rfl, take_no O1.out⟩
    · have k0 : ((a.toNat : Int) == 91) = false := byte_ne q0
      clear hb hw0 hlen h3 ha hz q0
      go_enter Tryd.func72, Tryd.ntmps72
      go_wp2_with fail
      refine (next_yes _ R s w0 r HS.out H.out).mono ?_
      rintro e w1 ⟨rfl, h1, o1⟩
      rw [← HQ.out]
      have O1 := Lib.hid o1
      clear h1 o1
      go_wp2_with fail
      refine (must_no _).mono ?_
      rintro e w2 ⟨rfl, rfl⟩
      exact ⟨rfl, take_no O1.out⟩
set_option maxHeartbeats 1000000 in
theorem mem_good (w : World) (R : Nat) (s : LS) (w0 : B8) (r : List B8) (hs : s.ws = w0 :: r) (h : LineA w R s) (T : TabA w) (hR : NoA R) (hb : brk w0) :
    Calls Tryd.prog 72 #[.pointer (some ⟨R, 0, none⟩)] w (TakeP R (takeB 77 s) w) := by
  have hw0 := num_word h hs
  obtain ⟨o, ho⟩ : ∃ o, takeB 77 s = o := ⟨_, rfl⟩
  rw [ho]
  rw [take_mem hs] at ho
  have H := Lib.hid h
  have HS := Lib.hid hs
  have HT := Lib.hid T
  have HN := Lib.hid hR
  clear h hs T hR
  obtain ⟨q, hq⟩ : ∃ q : ByteArray, q = ⟨w0.toArray⟩ := ⟨_, rfl⟩
  have hl : q.data.toList = w0 := by rw [hq]
  have hag := addr_good w0 hb
  rw [← hl] at hb hw0 hag ho
  have hlen := toList_len q
  have h3 := hb.1
  obtain ⟨t, ht⟩ : ∃ t, t = q.extract 1 (q.size - 1) := ⟨_, rfl⟩
  have htl : t.data.toList = (q.data.toList.drop 1).take (q.data.toList.length - 2) := by
    rw [ht, Lib.extract_data]
    congr 1
  have htn := toList_len t
  have hts : t.size ≤ 1000000 := by
    rw [← htn, htl, List.length_take]; omega
  rw [← htl] at hag
  rw [hag] at ho
  have HO := Lib.hid ho
  have HQ := Lib.hid hq
  have HTT := Lib.hid ht
  have d0 : decide (2 < (q.size : Int)) = true := decide_eq_true (by omega)
  have d1 : 2 < q.size := by omega
  obtain ⟨a, ha⟩ : ∃ c, q.data.toList[0]? = some c := ⟨_, List.getElem?_eq_getElem (by omega)⟩
  obtain ⟨z, hz⟩ : ∃ c, q.data.toList[q.size - 1]? = some c := ⟨_, List.getElem?_eq_getElem (by omega)⟩
  obtain ⟨i0, e0⟩ := at_byte ha
  obtain ⟨i1, e1⟩ := at_byte hz
  have q0 : a = 91 := by have := hb.2.1; rw [ha] at this; injection this
  have q1 : z = 93 := by have := hb.2.2; rw [hlen, hz] at this; injection this
  have k0 : ((a.toNat : Int) == 91) = true := by rw [q0]; rfl
  have k1 : ((z.toNat : Int) == 93) = true := by rw [q1]; rfl
  have hqm : q.size ≤ 1000000 := by omega
  clear hb hw0 hlen h3 ha hz q0 q1 ho hag htl hq hl ht
  go_enter Tryd.func72, Tryd.ntmps72
  go_wp2_with fail
  refine (next_yes _ R s w0 r HS.out H.out).mono ?_
  rintro e w1 ⟨rfl, h1, o1⟩
  rw [← HQ.out]
  have T1 := Lib.hid (HT.out.only o1 (fun k hk => by rw [show k = R from hk]; exact HN.out))
  obtain ⟨A1, cap1, h1⟩ := h1
  have H1 := Lib.hid h1
  have O1 := Lib.hid o1
  have f1 := line_f h1 3
  have c1 := cell_of_row w1 R 3 _ _ _ h1.blk
  simp at c1
  clear h1 o1
  go_wp2_with fail
  refine (must_yes _).mono ?_
  rintro e w2 ⟨rfl, rfl⟩
  go_wp2_with fail
  rw [← HTT.out]
  have h2 := line_set H1.out 3 (.int .i64 8) ⟨r, { s.i with b := 8 }, s.to⟩ rfl rfl
  have o2 := only_tr O1.out (only_set w1 R 3 (.int .i64 8))
  have T2 := T1.out.only (only_set w1 R 3 (.int .i64 8)) (fun k hk => by rw [show k = R from hk]; exact HN.out)
  generalize w1.setCell ⟨R, 3, none⟩ (.int .i64 8) = W at h2 o2 T2 ⊢
  have H2 : Hid (LineA W R ⟨r, { s.i with b := 8 }, s.to⟩) := Lib.hid ⟨_, _, h2⟩
  have O2 := Lib.hid o2
  have HT2 := Lib.hid T2
  clear h2 o2 T2
  by_cases hin : (43 : UInt8) ∈ t.data.toList
  · have hcn : t.data.toList.contains 43 = true := List.contains_iff_mem.2 hin
    refine (cut_yes _ t 43 hin hts).mono ?_
    rintro e w3 ⟨rfl, hb3⟩
    have H3 := Lib.hid (H2.out.below hb3)
    have O3 := Lib.hid (only_tr O2.out (only_bl hb3))
    have T3 := Lib.hid (HT2.out.below hb3 (Nat.le_refl _))
    clear hb3
    obtain ⟨p, hp⟩ : ∃ p, t.data.toList.take (t.data.toList.idxOf 43) = p := ⟨_, rfl⟩
    obtain ⟨u, hu⟩ : ∃ u, t.data.toList.drop (t.data.toList.idxOf 43 + 1) = u := ⟨_, rfl⟩
    have hpl : p.length ≤ 1000000 := by rw [← hp, List.length_take]; omega
    have hul : u.length ≤ 1000000 := by rw [← hu, List.length_drop]; omega
    rw [hp, hu]
    have ho := HO.out
    rw [hcn, if_pos rfl, hp, hu] at ho
    have HO2 := Lib.hid ho
    clear ho hcn hin hp hu
    unfold str
    go_wp2_with fail
    refine (reg_any _ ⟨p.toArray⟩ (by simp only [ByteArray.size, List.size_toArray]; unfold maxLen; omega)).mono ?_
    rintro e w4 ⟨he, hw4⟩
    rw [show (ByteArray.mk p.toArray).data.toList = p from rfl] at he
    subst hw4
    by_cases hrp : regB p < 0
    · obtain rfl : none = o := by rw [← HO2.out, if_pos (.inl (by rw [if_pos hrp]; decide))]
      rw [show decide (0 ≤ regB p) = false from decide_eq_false (by omega)] at he
      subst he
      clear hrp
      go_wp2_with fail
      refine (must_no _).mono ?_
      rintro e w5 ⟨rfl, rfl⟩
      exact ⟨rfl, take_no O3.out⟩
    · rw [show decide (0 ≤ regB p) = true from decide_eq_true (by omega), show regV p = regB p from by unfold regV; rw [if_pos (by omega)]] at he
      subst he
      have ho := HO2.out
      rw [if_neg hrp] at ho
      have HO3 := Lib.hid ho
      have HRP := Lib.hid hrp
      clear ho hrp
      generalize hrb : regB p = rb at HO3 HRP ⊢
      have HRB := Lib.hid hrb
      clear hrb
      obtain ⟨A5, cap5, h5⟩ := H3.out
      have H5 := Lib.hid h5
      have f5 := line_f h5 3
      have c5 := cell_of_row w3 R 3 _ _ _ h5.blk
      simp at c5
      clear h5
      go_wp2_with fail
      refine (must_yes _).mono ?_
      rintro e w5 ⟨rfl, rfl⟩
      go_wp2_with fail
      have h6 := line_set H5.out 3 (.int .i64 rb) ⟨r, { s.i with b := rb }, s.to⟩ rfl rfl
      have o6 := only_tr O3.out (only_set w3 R 3 (.int .i64 rb))
      have T6 := T3.out.only (only_set w3 R 3 (.int .i64 rb)) (fun k hk => by rw [show k = R from hk]; exact HN.out)
      generalize w3.setCell ⟨R, 3, none⟩ (.int .i64 rb) = W6 at h6 o6 T6 ⊢
      have H6 : Hid (LineA W6 R ⟨r, { s.i with b := rb }, s.to⟩) := Lib.hid ⟨_, _, h6⟩
      have O6 := Lib.hid o6
      have HT6 := Lib.hid T6
      clear h6 o6 T6
      refine (num_any _ ⟨u.toArray⟩ (by simpa [ByteArray.size] using hul) HT6.out).mono ?_
      rintro e w8 ⟨v, he, hv, hb8⟩
      rw [show (ByteArray.mk u.toArray).data.toList = u from rfl] at he hv
      have H8 := Lib.hid (H6.out.below hb8)
      have O8 := Lib.hid (only_tr O6.out (only_bl hb8))
      clear hb8
      by_cases hr : 0 ≤ numB u
      · obtain rfl : some ⟨r, { s.i with b := rb, k := numB u }, s.to⟩ = o := by
          rw [← HO3.out, if_neg (by rintro (e | e); · have := HRP.out; omega
                                    · omega)]
        rw [decide_eq_true hr] at he
        have hv1 := hv hr
        subst hv1 he
        clear hv hr
        obtain ⟨A, cap, h9⟩ := H8.out
        have H9 := Lib.hid h9
        have f9 := line_f h9 5
        have c9 := cell_of_row w8 R 5 _ _ _ h9.blk
        simp at c9
        clear h9
        go_wp2_with fail
        refine (must_yes _).mono ?_
        rintro e w9 ⟨rfl, rfl⟩
        go_wp2_with fail
        go_end0
        exact take_yes ⟨A, cap, line_set H9.out 5 _ _ rfl rfl⟩ (only_tr O8.out (only_set _ _ _ _))
      · obtain rfl : none = o := by
          rw [← HO3.out, if_pos (.inr (by omega))]
        rw [decide_eq_false hr] at he
        subst he
        clear hv hr
        go_wp2_with fail
        refine (must_no _).mono ?_
        rintro e w9 ⟨rfl, rfl⟩
        exact ⟨rfl, take_no O8.out⟩
  · have hcn : t.data.toList.contains 43 = false := by
      cases e : t.data.toList.contains 43 with
      | false => rfl
      | true => exact absurd (List.contains_iff_mem.1 e) hin
    refine (cut_no _ t 43 hin).mono ?_
    rintro e w3 ⟨rfl, hw3⟩
    subst hw3
    have ho := HO.out
    rw [hcn, if_neg Bool.false_ne_true] at ho
    have HO2 := Lib.hid ho
    clear ho hcn hin
    go_wp2_with fail
    refine (num_any _ t hts HT2.out).mono ?_
    rintro e w8 ⟨v, he, hv, hb8⟩
    have H8 := Lib.hid (H2.out.below hb8)
    have O8 := Lib.hid (only_tr O2.out (only_bl hb8))
    clear hb8
    by_cases hr : 0 ≤ numB t.data.toList
    · obtain rfl : some ⟨r, { s.i with b := 8, k := numB t.data.toList }, s.to⟩ = o := by
        rw [← HO2.out, if_neg (by rintro (e | e); · omega
                                  · omega)]
      rw [decide_eq_true hr] at he
      have hv1 := hv hr
      subst hv1 he
      clear hv hr
      obtain ⟨A, cap, h9⟩ := H8.out
      have H9 := Lib.hid h9
      have f9 := line_f h9 5
      have c9 := cell_of_row w8 R 5 _ _ _ h9.blk
      simp at c9
      clear h9
      go_wp2_with fail
      refine (must_yes _).mono ?_
      rintro e w9 ⟨rfl, rfl⟩
      go_wp2_with fail
      go_end0
      exact take_yes ⟨A, cap, line_set H9.out 5 _ _ rfl rfl⟩ (only_tr O8.out (only_set _ _ _ _))
    · obtain rfl : none = o := by
        rw [← HO2.out, if_pos (.inr (by omega))]
      rw [decide_eq_false hr] at he
      subst he
      clear hv hr
      go_wp2_with fail
      refine (must_no _).mono ?_
      rintro e w9 ⟨rfl, rfl⟩
      exact ⟨rfl, take_no O8.out⟩
theorem mmem_any (w : World) (R : Nat) (s : LS) (h : LineA w R s) (T : TabA w) (hR : NoA R) :
    Calls Tryd.prog 72 #[.pointer (some ⟨R, 0, none⟩)] w (TakeP R (takeB 77 s) w) := by
  cases hs : s.ws with
  | nil => exact mem_nil w R s hs h
  | cons w0 r =>
    by_cases hb : brk w0
    · exact mem_good w R s w0 r hs h T hR hb
    · exact mem_off w R s w0 r hs h hb
end Go.Proofs.YtlopmejmionnpaaDoor.As
