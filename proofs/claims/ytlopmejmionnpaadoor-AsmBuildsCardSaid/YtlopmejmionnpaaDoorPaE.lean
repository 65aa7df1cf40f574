/- The walks of the package asm: what one word is read into. -/
import Derived.Test.YtlopmejmionnpaaDoorPaD
set_option linter.unusedVariables false
namespace Go.Proofs.YtlopmejmionnpaaDoor.As
open Go.RowKit

def TakeP (R : Nat) (o : Option LS) (w : World) (e : Ending) (w' : World) : Prop :=
  (∀ s', o = some s' → e = .returned (.tuple #[]) ∧ LineA w' R s') ∧ (o = none → e = gaveUp) ∧ Only (AtR R) w w'
theorem take_yes {R : Nat} {s' : LS} {w w' : World} (h : LineA w' R s') (ho : Only (AtR R) w w') : TakeP R (some s') w (.returned (.tuple #[])) w' :=
  ⟨fun s2 e => by injection e with e; subst e; exact ⟨rfl, h⟩, fun e => (by cases e), ho⟩
theorem take_no {R : Nat} {w w' : World} (ho : Only (AtR R) w w') : TakeP R none w gaveUp w' :=
  ⟨fun s2 e => (by cases e), fun _ => rfl, ho⟩
theorem take_reg {f : UInt8} {s : LS} {w0 : B8} {r : List B8} (hs : s.ws = w0 :: r) (hf : f = 65 ∨ f = 66 ∨ f = 67) : takeB f s = if regB w0 < 0 then none else some (LS.reg { s with ws := r } f (regB w0)) := by
  unfold takeB
  rw [hs]
  simp only []
  rw [if_neg (by rcases hf with e | e | e <;> (subst e; decide)), if_neg (by rcases hf with e | e | e <;> (subst e; decide)), if_neg (by rcases hf with e | e | e <;> (subst e; decide))]
theorem take_nil {f : UInt8} {s : LS} (hs : s.ws = []) : takeB f s = none := by
  unfold takeB; rw [hs]
theorem take_k {s : LS} {w0 : B8} {r : List B8} (hs : s.ws = w0 :: r) : takeB 75 s = if numB w0 < 0 then none else some { s with ws := r, i := { s.i with k := numB w0 } } := by
  unfold takeB
  rw [hs]
  simp only [if_true]
theorem take_place {s : LS} {w0 : B8} {r : List B8} (hs : s.ws = w0 :: r) : takeB 84 s = (if w0[0]? = some 64 then (if 0 ≤ numB (w0.drop 1) then some ⟨r, { s.i with k := numB (w0.drop 1) }, s.to⟩ else if nameOk (w0.drop 1) = true then some ⟨r, s.i, w0.drop 1⟩ else none) else none) := by
  unfold takeB
  rw [hs]
  simp only []
  rw [if_neg (show ¬ (84 : UInt8) = 75 by decide), if_pos trivial]
theorem line_set {w : World} {R : Nat} {s : LS} {A : Option Addr} {cap : Nat} (h : LineM w R s A cap) (j : Nat) (v : Value) (s' : LS) (hw : s'.ws = s.ws)
    (hc : (#[.slice A s.ws.length cap, .int .i64 s.i.op, .int .i64 s.i.a, .int .i64 s.i.b, .int .i64 s.i.c, .int .u32 s.i.k, .string ⟨s.to.toArray⟩] : Array Value).setIfInBounds j v = #[.slice A s.ws.length cap, .int .i64 s'.i.op, .int .i64 s'.i.a, .int .i64 s'.i.b, .int .i64 s'.i.c, .int .u32 s'.i.k, .string ⟨s'.to.toArray⟩]) :
    LineM (w.setCell ⟨R, j, none⟩ v) R s' A cap := by
  obtain ⟨hblk, hrd, hlt, hl⟩ := h
  refine ⟨?_, ?_, hlt, ?_⟩
  · rw [heap_setCell_same _ _ _ _ _ _ hblk, hw, hc]
  · rw [hw]
    refine hrd.keep (by simp [World.setCell]) (fun b off c e => heap_setCell_other _ _ _ _ ?_)
    have e1 : A = some ⟨b, off, none⟩ := by injection e
    have hbR : b ≠ R := by have := hlt b off e1; omega
    exact hbR
  · rw [hw]; exact hl
theorem line_f {w : World} {R : Nat} {s : LS} {A : Option Addr} {cap : Nat} (h : LineM w R s A cap) (j : Nat) : w.frozen? ⟨R, j, none⟩ = false := frozen_of_row w R j _ _ h.blk

theorem ma_any (w : World) (R : Nat) (s : LS) (h : LineA w R s) :
    Calls Tryd.prog 67 #[.pointer (some ⟨R, 0, none⟩)] w (TakeP R (takeB 65 s) w) := by
  cases hs : s.ws with
  | nil =>
    rw [take_nil hs]
    have H := Lib.hid h
    have HS := Lib.hid hs
    clear h hs
    go_enter Tryd.func67, Tryd.ntmps67
    go_wp2_with fail
    refine (regm_nil _ R s HS.out H.out).mono ?_
    rintro e w1 ⟨rfl, o1⟩
    exact ⟨rfl, take_no o1⟩
  | cons w0 r =>
    rw [take_reg hs (by decide)]
    by_cases hr : regB w0 < 0
    · rw [if_pos hr]
      have H := Lib.hid h
      have HS := Lib.hid hs
      have HR := Lib.hid hr
      clear h hs hr
      go_enter Tryd.func67, Tryd.ntmps67
      go_wp2_with fail
      refine (regm_no _ R s w0 r HS.out H.out HR.out).mono ?_
      rintro e w1 ⟨rfl, o1⟩
      exact ⟨rfl, take_no o1⟩
    · rw [if_neg hr]
      have H := Lib.hid h
      have HS := Lib.hid hs
      have HR := Lib.hid hr
      clear h hs hr
      go_enter Tryd.func67, Tryd.ntmps67
      go_wp2_with fail
      refine (regm_yes _ R s w0 r HS.out H.out (by have := HR.out; omega)).mono ?_
      rintro e w1 ⟨rfl, ⟨A, cap, h1⟩, o1⟩
      have H1 := Lib.hid h1
      have O1 := Lib.hid o1
      have f1 := line_f h1 2
      have c1 := cell_of_row w1 R 2 _ _ _ h1.blk
      simp at c1
      clear h1 o1
      go_wp2_with fail
      go_end0
      exact take_yes ⟨A, cap, line_set H1.out 2 _ _ rfl rfl⟩ (only_tr O1.out (only_set _ _ _ _))

theorem mb_any (w : World) (R : Nat) (s : LS) (h : LineA w R s) :
    Calls Tryd.prog 69 #[.pointer (some ⟨R, 0, none⟩)] w (TakeP R (takeB 66 s) w) := by
  cases hs : s.ws with
  | nil =>
    rw [take_nil hs]
    have H := Lib.hid h
    have HS := Lib.hid hs
    clear h hs
    go_enter Tryd.func69, Tryd.ntmps69
    go_wp2_with fail
    refine (regm_nil _ R s HS.out H.out).mono ?_
    rintro e w1 ⟨rfl, o1⟩
    exact ⟨rfl, take_no o1⟩
  | cons w0 r =>
    rw [take_reg hs (by decide)]
    by_cases hr : regB w0 < 0
    · rw [if_pos hr]
      have H := Lib.hid h
      have HS := Lib.hid hs
      have HR := Lib.hid hr
      clear h hs hr
      go_enter Tryd.func69, Tryd.ntmps69
      go_wp2_with fail
      refine (regm_no _ R s w0 r HS.out H.out HR.out).mono ?_
      rintro e w1 ⟨rfl, o1⟩
      exact ⟨rfl, take_no o1⟩
    · rw [if_neg hr]
      have H := Lib.hid h
      have HS := Lib.hid hs
      have HR := Lib.hid hr
      clear h hs hr
      go_enter Tryd.func69, Tryd.ntmps69
      go_wp2_with fail
      refine (regm_yes _ R s w0 r HS.out H.out (by have := HR.out; omega)).mono ?_
      rintro e w1 ⟨rfl, ⟨A, cap, h1⟩, o1⟩
      have H1 := Lib.hid h1
      have O1 := Lib.hid o1
      have f1 := line_f h1 3
      have c1 := cell_of_row w1 R 3 _ _ _ h1.blk
      simp at c1
      clear h1 o1
      go_wp2_with fail
      go_end0
      exact take_yes ⟨A, cap, line_set H1.out 3 _ _ rfl rfl⟩ (only_tr O1.out (only_set _ _ _ _))

theorem mc_any (w : World) (R : Nat) (s : LS) (h : LineA w R s) :
    Calls Tryd.prog 70 #[.pointer (some ⟨R, 0, none⟩)] w (TakeP R (takeB 67 s) w) := by
  cases hs : s.ws with
  | nil =>
    rw [take_nil hs]
    have H := Lib.hid h
    have HS := Lib.hid hs
    clear h hs
    go_enter Tryd.func70, Tryd.ntmps70
    go_wp2_with fail
    refine (regm_nil _ R s HS.out H.out).mono ?_
    rintro e w1 ⟨rfl, o1⟩
    exact ⟨rfl, take_no o1⟩
  | cons w0 r =>
    rw [take_reg hs (by decide)]
    by_cases hr : regB w0 < 0
    · rw [if_pos hr]
      have H := Lib.hid h
      have HS := Lib.hid hs
      have HR := Lib.hid hr
      clear h hs hr
      go_enter Tryd.func70, Tryd.ntmps70
      go_wp2_with fail
      refine (regm_no _ R s w0 r HS.out H.out HR.out).mono ?_
      rintro e w1 ⟨rfl, o1⟩
      exact ⟨rfl, take_no o1⟩
    · rw [if_neg hr]
      have H := Lib.hid h
      have HS := Lib.hid hs
      have HR := Lib.hid hr
      clear h hs hr
      go_enter Tryd.func70, Tryd.ntmps70
      go_wp2_with fail
      refine (regm_yes _ R s w0 r HS.out H.out (by have := HR.out; omega)).mono ?_
      rintro e w1 ⟨rfl, ⟨A, cap, h1⟩, o1⟩
      have H1 := Lib.hid h1
      have O1 := Lib.hid o1
      have f1 := line_f h1 4
      have c1 := cell_of_row w1 R 4 _ _ _ h1.blk
      simp at c1
      clear h1 o1
      go_wp2_with fail
      go_end0
      exact take_yes ⟨A, cap, line_set H1.out 4 _ _ rfl rfl⟩ (only_tr O1.out (only_set _ _ _ _))

theorem num_word {w : World} {R : Nat} {s : LS} (h : LineA w R s) {w0 : B8} {r : List B8} (hs : s.ws = w0 :: r) : w0.length ≤ 1000000 := by
  obtain ⟨A, cap, hm⟩ := h; exact hm.len.2.2 w0 (by rw [hs]; simp)
set_option maxHeartbeats 400000 in
theorem mk_any (w : World) (R : Nat) (s : LS) (h : LineA w R s) (T : TabA w) (hR : NoA R) :
    Calls Tryd.prog 68 #[.pointer (some ⟨R, 0, none⟩)] w (TakeP R (takeB 75 s) w) := by
  cases hs : s.ws with
  | nil =>
    rw [take_nil hs]
    have H := Lib.hid h
    have HS := Lib.hid hs
    clear h hs T
    go_enter Tryd.func68, Tryd.ntmps68
    go_wp2_with fail
    refine (next_no _ R s HS.out H.out).mono ?_
    rintro e w1 ⟨rfl, rfl⟩
    exact ⟨rfl, take_no (Only.refl _ _)⟩
  | cons w0 r =>
    obtain ⟨o, ho⟩ : ∃ o, takeB 75 s = o := ⟨_, rfl⟩
    rw [ho]
    have HO := Lib.hid ho
    clear ho
    have hw0 := num_word h hs
    have HT := Lib.hid T
    have H := Lib.hid h
    have HS := Lib.hid hs
    have HW := Lib.hid hw0
    have HN := Lib.hid hR
    clear h hs T hw0 hR
    go_enter Tryd.func68, Tryd.ntmps68
    go_wp2_with fail
    refine (next_yes _ R s w0 r HS.out H.out).mono ?_
    rintro e w1 ⟨rfl, h1, o1⟩
    have T1 := Lib.hid (HT.out.only o1 (fun k hk => by rw [show k = R from hk]; exact HN.out))
    have H1 := Lib.hid h1
    have O1 := Lib.hid o1
    clear h1 o1
    go_wp2_with fail
    refine (num_any _ ⟨w0.toArray⟩ (by have := HW.out; simpa [ByteArray.size] using this) T1.out).mono ?_
    rintro e w2 ⟨v, he, hv, hb2⟩
    rw [show (ByteArray.mk w0.toArray).data.toList = w0 from rfl] at he hv
    have h2 := H1.out.below hb2
    have o2 := only_tr O1.out (only_bl hb2)
    have H2 := Lib.hid h2
    have O2 := Lib.hid o2
    have HB := Lib.hid hb2
    clear h2 o2 hb2
    by_cases hr : numB w0 < 0
    · obtain rfl : none = o := by rw [← HO.out, take_k HS.out, if_pos hr]
      rw [show decide (0 ≤ numB w0) = false from decide_eq_false (by omega)] at he
      subst he
      have HV := Lib.hid hv
      clear hv hr
      go_wp2_with fail
      refine (must_no _).mono ?_
      rintro e w3 ⟨rfl, rfl⟩
      exact ⟨rfl, take_no O2.out⟩
    · obtain rfl : some { s with ws := r, i := { s.i with k := numB w0 } } = o := by rw [← HO.out, take_k HS.out, if_neg hr]
      rw [show decide (0 ≤ numB w0) = true from decide_eq_true (by omega)] at he
      have hv1 := hv (by omega)
      subst hv1 he
      have HR := Lib.hid hr
      clear hv hr
      obtain ⟨A, cap, h3⟩ := H2.out
      have H3 := Lib.hid h3
      have f1 := line_f h3 5
      have c1 := cell_of_row w2 R 5 _ _ _ h3.blk
      simp at c1
      clear h3
      go_wp2_with fail
      refine (must_yes _).mono ?_
      rintro e w3 ⟨rfl, rfl⟩
      go_wp2_with fail
      go_end0
      exact take_yes ⟨A, cap, line_set H3.out 5 _ _ rfl rfl⟩ (only_tr O2.out (only_set _ _ _ _))
end Go.Proofs.YtlopmejmionnpaaDoor.As
