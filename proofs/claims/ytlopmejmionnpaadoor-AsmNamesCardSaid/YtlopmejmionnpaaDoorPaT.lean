/- The walks of the package deadlatchref02: may an instruction stand in a code? -/
import Derived.Test.YtlopmejmionnpaaDoorPaS
import Derived.Test.YtlopmejmionnpaaDoorPaP
set_option linter.unusedVariables false
set_option linter.unusedSimpArgs false
namespace Go.Proofs.YtlopmejmionnpaaDoor.As
open Go.RowKit

theorem has_b (w : World) (op : Int) (F : B8) (b : UInt8) (r : Bool) (n : Int) (hn : n = b.toNat) (hF : opField op = F) (hr : F.contains b = r) :
    Calls Tryd.prog 19 #[.int .i64 op, .int .u8 n] w fun e w' => e = .returned (.bool r) ∧ Below w.heap.size w w' := by
  subst hn
  have h := has_any w op b
  rw [show hasB op b = r by unfold hasB; rw [hF, hr]] at h
  exact h
def R2 (w : World) (i : Ins) (n : Nat) (e : Ending) (w' : World) : Prop := e = .returned (.bool (rightB i n)) ∧ Below w.heap.size w w'
set_option maxHeartbeats 2000000 in
theorem r02_0 (w : World) (o a b c k : Int) (n : Nat) (hn : n ≤ 1000000) (k0 : 0 ≤ k) (k1 : k ≤ 4294967295) (h0 : 0 ≤ o) (h1 : o < 28) (hF : opField o = ([] : B8)) :
    Calls Tryd.prog 16 #[.agg #[.int .i64 o, .int .i64 a, .int .i64 b, .int .i64 c, .int .u32 k], .int .i64 n] w (R2 w ⟨o, a, b, c, k⟩ n) := by
  obtain ⟨r, hr⟩ : ∃ r, rightB ⟨o, a, b, c, k⟩ n = r := ⟨_, rfl⟩
  unfold R2
  rw [hr]
  have hem := opName_in o h0 h1
  have hr2 : (fieldI a false 7 && fieldI b false 7 && fieldI c false 7 && (k == 0)) = r := by
    rw [← hr]; unfold rightB hasB; simp only [hF]; rw [decide_eq_true (And.intro h0 h1)]; simp
  have hbel0 : Below w.heap.size w (w.alloc (.cells #[.int .i64 o, .int .i64 a, .int .i64 b, .int .i64 c, .int .u32 k] 34)) := (Below.refl _ _).alloc (Nat.le_refl _) _
  have hblk0 := Blk.new w ⟨o, a, b, c, k⟩
  have HR := Lib.hid hr2
  have HF := Lib.hid hF
  clear hr hr2 hF
  go_enter Tryd.func16, Tryd.ntmps16
  go_wp2_with fail
  refine (name2_any _ o).mono ?_
  rintro e w1 ⟨sn, sf, hsn, hsf, rfl, hb⟩
  have hse : sn.toList.isEmpty = false := by rw [ByteArray.toList_eq, hsn]; exact hem
  have hbel1 := hbel0.trans (hb.mono hbel0.size)
  have hblk1 : Blk w1 w.heap.size ⟨o, a, b, c, k⟩ := hblk0.below hb (by simp)
  obtain ⟨c0, c1, c2, c3, c4⟩ := hblk1.c
  clear hb hblk0 hbel0
  have HBEL1 := Lib.hid hbel1
  have HBLK1 := Lib.hid hblk1
  clear hbel1 hblk1
  go_wp2_with fail
  refine (has_b _ o ([] : B8) 65 false 65 (by decide) HF.out (by decide)).mono ?_
  rintro e w2 ⟨rfl, hb⟩
  have HBEL2 := Lib.hid (HBEL1.out.trans (hb.mono HBEL1.out.size))
  have HBLK2 := Lib.hid (HBLK1.out.below hb HBLK1.out.lt)
  clear hb c0 c1 c2 c3 c4
  obtain ⟨c0, c1, c2, c3, c4⟩ := HBLK2.out.c
  go_wp2_with fail
  refine (has_b _ o ([] : B8) 66 false 66 (by decide) HF.out (by decide)).mono ?_
  rintro e w3 ⟨rfl, hb⟩
  have HBEL3 := Lib.hid (HBEL2.out.trans (hb.mono HBEL2.out.size))
  have HBLK3 := Lib.hid (HBLK2.out.below hb HBLK2.out.lt)
  clear hb c0 c1 c2 c3 c4
  obtain ⟨c0, c1, c2, c3, c4⟩ := HBLK3.out.c
  go_wp2_with fail
  refine (has_b _ o ([] : B8) 77 false 77 (by decide) HF.out (by decide)).mono ?_
  rintro e w4 ⟨rfl, hb⟩
  have HBEL4 := Lib.hid (HBEL3.out.trans (hb.mono HBEL3.out.size))
  have HBLK4 := Lib.hid (HBLK3.out.below hb HBLK3.out.lt)
  clear hb c0 c1 c2 c3 c4
  obtain ⟨c0, c1, c2, c3, c4⟩ := HBLK4.out.c
  go_wp2_with fail
  refine (has_b _ o ([] : B8) 67 false 67 (by decide) HF.out (by decide)).mono ?_
  rintro e w5 ⟨rfl, hb⟩
  have HBEL5 := Lib.hid (HBEL4.out.trans (hb.mono HBEL4.out.size))
  have HBLK5 := Lib.hid (HBLK4.out.below hb HBLK4.out.lt)
  clear hb c0 c1 c2 c3 c4
  obtain ⟨c0, c1, c2, c3, c4⟩ := HBLK5.out.c
  have QED : ∀ (q : Bool) (W : World), Below w.heap.size w W → r = q → (Ending.returned (.bool q) = Ending.returned (.bool r) ∧ Below w.heap.size w W) := fun q W hW e => ⟨by rw [e], hW⟩
  by_cases hall : 0 ≤ a ∧ a ≤ 0 ∧ 0 ≤ b ∧ b ≤ 0 ∧ 0 ≤ c ∧ c ≤ 0
  · obtain ⟨p0, p1, p2, p3, p4, p5⟩ := hall
    have hval : ((k == 0) : Bool) = r := by
      rw [← HR.out]; unfold fieldI; rw [Bool.eq_iff_iff]; simp; omega
    have HV := Lib.hid hval
    clear hval
    have g0 : decide (a < 0) = false := decide_eq_false (by omega)
    have g1 : decide (0 < a) = false := decide_eq_false (by omega)
    have g2 : decide (b < 0) = false := decide_eq_false (by omega)
    have g3 : decide (0 < b) = false := decide_eq_false (by omega)
    have g4 : decide (c < 0) = false := decide_eq_false (by omega)
    have g5 : decide (0 < c) = false := decide_eq_false (by omega)
    go_wp2_with fail
    refine (has_b _ o ([] : B8) 84 false 84 (by decide) HF.out (by decide)).mono ?_
    rintro e w6 ⟨rfl, hb⟩
    have HBEL6 := Lib.hid (HBEL5.out.trans (hb.mono HBEL5.out.size))
    have HBLK6 := Lib.hid (HBLK5.out.below hb HBLK5.out.lt)
    clear hb c0 c1 c2 c3 c4
    obtain ⟨c0, c1, c2, c3, c4⟩ := HBLK6.out.c
    go_wp2_with fail
    refine (has_b _ o ([] : B8) 75 false 75 (by decide) HF.out (by decide)).mono ?_
    rintro e w7 ⟨rfl, hb⟩
    have HBEL7 := Lib.hid (HBEL6.out.trans (hb.mono HBEL6.out.size))
    have HBLK7 := Lib.hid (HBLK6.out.below hb HBLK6.out.lt)
    clear hb c0 c1 c2 c3 c4
    obtain ⟨c0, c1, c2, c3, c4⟩ := HBLK7.out.c
    go_wp2_with fail
    go_ret
    refine ⟨?_, HBEL7.out⟩
    rw [← HV.out]; rfl
  · have hval : r = false := by
      rw [← HR.out]; unfold fieldI
      rw [Bool.eq_false_iff]
      intro e
      apply hall
      simp at e
      omega
    subst hval
    clear HR
    go_wp2_with fail
    all_goals first
      | (go_ret; exact ⟨rfl, HBEL5.out⟩)
      | (exfalso; simp only [decide_eq_true_eq, decide_eq_false_iff_not, Bool.or_eq_true] at *; omega)
set_option maxHeartbeats 2000000 in
theorem r02_1 (w : World) (o a b c k : Int) (n : Nat) (hn : n ≤ 1000000) (k0 : 0 ≤ k) (k1 : k ≤ 4294967295) (h0 : 0 ≤ o) (h1 : o < 28) (hF : opField o = [65, 75]) :
    Calls Tryd.prog 16 #[.agg #[.int .i64 o, .int .i64 a, .int .i64 b, .int .i64 c, .int .u32 k], .int .i64 n] w (R2 w ⟨o, a, b, c, k⟩ n) := by
  obtain ⟨r, hr⟩ : ∃ r, rightB ⟨o, a, b, c, k⟩ n = r := ⟨_, rfl⟩
  unfold R2
  rw [hr]
  have hem := opName_in o h0 h1
  have hr2 : (fieldI a true 7 && fieldI b false 7 && fieldI c false 7 && true) = r := by
    rw [← hr]; unfold rightB hasB; simp only [hF]; rw [decide_eq_true (And.intro h0 h1)]; simp
  have hbel0 : Below w.heap.size w (w.alloc (.cells #[.int .i64 o, .int .i64 a, .int .i64 b, .int .i64 c, .int .u32 k] 34)) := (Below.refl _ _).alloc (Nat.le_refl _) _
  have hblk0 := Blk.new w ⟨o, a, b, c, k⟩
  have HR := Lib.hid hr2
  have HF := Lib.hid hF
  clear hr hr2 hF
  go_enter Tryd.func16, Tryd.ntmps16
  go_wp2_with fail
  refine (name2_any _ o).mono ?_
  rintro e w1 ⟨sn, sf, hsn, hsf, rfl, hb⟩
  have hse : sn.toList.isEmpty = false := by rw [ByteArray.toList_eq, hsn]; exact hem
  have hbel1 := hbel0.trans (hb.mono hbel0.size)
  have hblk1 : Blk w1 w.heap.size ⟨o, a, b, c, k⟩ := hblk0.below hb (by simp)
  obtain ⟨c0, c1, c2, c3, c4⟩ := hblk1.c
  clear hb hblk0 hbel0
  have HBEL1 := Lib.hid hbel1
  have HBLK1 := Lib.hid hblk1
  clear hbel1 hblk1
  go_wp2_with fail
  refine (has_b _ o [65, 75] 65 true 65 (by decide) HF.out (by decide)).mono ?_
  rintro e w2 ⟨rfl, hb⟩
  have HBEL2 := Lib.hid (HBEL1.out.trans (hb.mono HBEL1.out.size))
  have HBLK2 := Lib.hid (HBLK1.out.below hb HBLK1.out.lt)
  clear hb c0 c1 c2 c3 c4
  obtain ⟨c0, c1, c2, c3, c4⟩ := HBLK2.out.c
  go_wp2_with fail
  refine (has_b _ o [65, 75] 66 false 66 (by decide) HF.out (by decide)).mono ?_
  rintro e w3 ⟨rfl, hb⟩
  have HBEL3 := Lib.hid (HBEL2.out.trans (hb.mono HBEL2.out.size))
  have HBLK3 := Lib.hid (HBLK2.out.below hb HBLK2.out.lt)
  clear hb c0 c1 c2 c3 c4
  obtain ⟨c0, c1, c2, c3, c4⟩ := HBLK3.out.c
  go_wp2_with fail
  refine (has_b _ o [65, 75] 77 false 77 (by decide) HF.out (by decide)).mono ?_
  rintro e w4 ⟨rfl, hb⟩
  have HBEL4 := Lib.hid (HBEL3.out.trans (hb.mono HBEL3.out.size))
  have HBLK4 := Lib.hid (HBLK3.out.below hb HBLK3.out.lt)
  clear hb c0 c1 c2 c3 c4
  obtain ⟨c0, c1, c2, c3, c4⟩ := HBLK4.out.c
  go_wp2_with fail
  refine (has_b _ o [65, 75] 67 false 67 (by decide) HF.out (by decide)).mono ?_
  rintro e w5 ⟨rfl, hb⟩
  have HBEL5 := Lib.hid (HBEL4.out.trans (hb.mono HBEL4.out.size))
  have HBLK5 := Lib.hid (HBLK4.out.below hb HBLK4.out.lt)
  clear hb c0 c1 c2 c3 c4
  obtain ⟨c0, c1, c2, c3, c4⟩ := HBLK5.out.c
  have QED : ∀ (q : Bool) (W : World), Below w.heap.size w W → r = q → (Ending.returned (.bool q) = Ending.returned (.bool r) ∧ Below w.heap.size w W) := fun q W hW e => ⟨by rw [e], hW⟩
  by_cases hall : 0 ≤ a ∧ a ≤ 7 ∧ 0 ≤ b ∧ b ≤ 0 ∧ 0 ≤ c ∧ c ≤ 0
  · obtain ⟨p0, p1, p2, p3, p4, p5⟩ := hall
    have hval : (true : Bool) = r := by
      rw [← HR.out]; unfold fieldI; rw [Bool.eq_iff_iff]; simp; omega
    have HV := Lib.hid hval
    clear hval
    have g0 : decide (a < 0) = false := decide_eq_false (by omega)
    have g1 : decide (7 < a) = false := decide_eq_false (by omega)
    have g2 : decide (b < 0) = false := decide_eq_false (by omega)
    have g3 : decide (0 < b) = false := decide_eq_false (by omega)
    have g4 : decide (c < 0) = false := decide_eq_false (by omega)
    have g5 : decide (0 < c) = false := decide_eq_false (by omega)
    go_wp2_with fail
    refine (has_b _ o [65, 75] 84 false 84 (by decide) HF.out (by decide)).mono ?_
    rintro e w6 ⟨rfl, hb⟩
    have HBEL6 := Lib.hid (HBEL5.out.trans (hb.mono HBEL5.out.size))
    have HBLK6 := Lib.hid (HBLK5.out.below hb HBLK5.out.lt)
    clear hb c0 c1 c2 c3 c4
    obtain ⟨c0, c1, c2, c3, c4⟩ := HBLK6.out.c
    go_wp2_with fail
    refine (has_b _ o [65, 75] 75 true 75 (by decide) HF.out (by decide)).mono ?_
    rintro e w7 ⟨rfl, hb⟩
    have HBEL7 := Lib.hid (HBEL6.out.trans (hb.mono HBEL6.out.size))
    have HBLK7 := Lib.hid (HBLK6.out.below hb HBLK6.out.lt)
    clear hb c0 c1 c2 c3 c4
    obtain ⟨c0, c1, c2, c3, c4⟩ := HBLK7.out.c
    go_wp2_with fail
    go_ret
    refine ⟨?_, HBEL7.out⟩
    rw [← HV.out]; rfl
  · have hval : r = false := by
      rw [← HR.out]; unfold fieldI
      rw [Bool.eq_false_iff]
      intro e
      apply hall
      simp at e
      omega
    subst hval
    clear HR
    go_wp2_with fail
    all_goals first
      | (go_ret; exact ⟨rfl, HBEL5.out⟩)
      | (exfalso; simp only [decide_eq_true_eq, decide_eq_false_iff_not, Bool.or_eq_true] at *; omega)
set_option maxHeartbeats 2000000 in
theorem r02_2 (w : World) (o a b c k : Int) (n : Nat) (hn : n ≤ 1000000) (k0 : 0 ≤ k) (k1 : k ≤ 4294967295) (h0 : 0 ≤ o) (h1 : o < 28) (hF : opField o = [65, 66]) :
    Calls Tryd.prog 16 #[.agg #[.int .i64 o, .int .i64 a, .int .i64 b, .int .i64 c, .int .u32 k], .int .i64 n] w (R2 w ⟨o, a, b, c, k⟩ n) := by
  obtain ⟨r, hr⟩ : ∃ r, rightB ⟨o, a, b, c, k⟩ n = r := ⟨_, rfl⟩
  unfold R2
  rw [hr]
  have hem := opName_in o h0 h1
  have hr2 : (fieldI a true 7 && fieldI b true 7 && fieldI c false 7 && (k == 0)) = r := by
    rw [← hr]; unfold rightB hasB; simp only [hF]; rw [decide_eq_true (And.intro h0 h1)]; simp
  have hbel0 : Below w.heap.size w (w.alloc (.cells #[.int .i64 o, .int .i64 a, .int .i64 b, .int .i64 c, .int .u32 k] 34)) := (Below.refl _ _).alloc (Nat.le_refl _) _
  have hblk0 := Blk.new w ⟨o, a, b, c, k⟩
  have HR := Lib.hid hr2
  have HF := Lib.hid hF
  clear hr hr2 hF
  go_enter Tryd.func16, Tryd.ntmps16
  go_wp2_with fail
  refine (name2_any _ o).mono ?_
  rintro e w1 ⟨sn, sf, hsn, hsf, rfl, hb⟩
  have hse : sn.toList.isEmpty = false := by rw [ByteArray.toList_eq, hsn]; exact hem
  have hbel1 := hbel0.trans (hb.mono hbel0.size)
  have hblk1 : Blk w1 w.heap.size ⟨o, a, b, c, k⟩ := hblk0.below hb (by simp)
  obtain ⟨c0, c1, c2, c3, c4⟩ := hblk1.c
  clear hb hblk0 hbel0
  have HBEL1 := Lib.hid hbel1
  have HBLK1 := Lib.hid hblk1
  clear hbel1 hblk1
  go_wp2_with fail
  refine (has_b _ o [65, 66] 65 true 65 (by decide) HF.out (by decide)).mono ?_
  rintro e w2 ⟨rfl, hb⟩
  have HBEL2 := Lib.hid (HBEL1.out.trans (hb.mono HBEL1.out.size))
  have HBLK2 := Lib.hid (HBLK1.out.below hb HBLK1.out.lt)
  clear hb c0 c1 c2 c3 c4
  obtain ⟨c0, c1, c2, c3, c4⟩ := HBLK2.out.c
  go_wp2_with fail
  refine (has_b _ o [65, 66] 66 true 66 (by decide) HF.out (by decide)).mono ?_
  rintro e w3 ⟨rfl, hb⟩
  have HBEL3 := Lib.hid (HBEL2.out.trans (hb.mono HBEL2.out.size))
  have HBLK3 := Lib.hid (HBLK2.out.below hb HBLK2.out.lt)
  clear hb c0 c1 c2 c3 c4
  obtain ⟨c0, c1, c2, c3, c4⟩ := HBLK3.out.c
  go_wp2_with fail
  refine (has_b _ o [65, 66] 77 false 77 (by decide) HF.out (by decide)).mono ?_
  rintro e w4 ⟨rfl, hb⟩
  have HBEL4 := Lib.hid (HBEL3.out.trans (hb.mono HBEL3.out.size))
  have HBLK4 := Lib.hid (HBLK3.out.below hb HBLK3.out.lt)
  clear hb c0 c1 c2 c3 c4
  obtain ⟨c0, c1, c2, c3, c4⟩ := HBLK4.out.c
  go_wp2_with fail
  refine (has_b _ o [65, 66] 67 false 67 (by decide) HF.out (by decide)).mono ?_
  rintro e w5 ⟨rfl, hb⟩
  have HBEL5 := Lib.hid (HBEL4.out.trans (hb.mono HBEL4.out.size))
  have HBLK5 := Lib.hid (HBLK4.out.below hb HBLK4.out.lt)
  clear hb c0 c1 c2 c3 c4
  obtain ⟨c0, c1, c2, c3, c4⟩ := HBLK5.out.c
  have QED : ∀ (q : Bool) (W : World), Below w.heap.size w W → r = q → (Ending.returned (.bool q) = Ending.returned (.bool r) ∧ Below w.heap.size w W) := fun q W hW e => ⟨by rw [e], hW⟩
  by_cases hall : 0 ≤ a ∧ a ≤ 7 ∧ 0 ≤ b ∧ b ≤ 7 ∧ 0 ≤ c ∧ c ≤ 0
  · obtain ⟨p0, p1, p2, p3, p4, p5⟩ := hall
    have hval : ((k == 0) : Bool) = r := by
      rw [← HR.out]; unfold fieldI; rw [Bool.eq_iff_iff]; simp; omega
    have HV := Lib.hid hval
    clear hval
    have g0 : decide (a < 0) = false := decide_eq_false (by omega)
    have g1 : decide (7 < a) = false := decide_eq_false (by omega)
    have g2 : decide (b < 0) = false := decide_eq_false (by omega)
    have g3 : decide (7 < b) = false := decide_eq_false (by omega)
    have g4 : decide (c < 0) = false := decide_eq_false (by omega)
    have g5 : decide (0 < c) = false := decide_eq_false (by omega)
    go_wp2_with fail
    refine (has_b _ o [65, 66] 84 false 84 (by decide) HF.out (by decide)).mono ?_
    rintro e w6 ⟨rfl, hb⟩
    have HBEL6 := Lib.hid (HBEL5.out.trans (hb.mono HBEL5.out.size))
    have HBLK6 := Lib.hid (HBLK5.out.below hb HBLK5.out.lt)
    clear hb c0 c1 c2 c3 c4
    obtain ⟨c0, c1, c2, c3, c4⟩ := HBLK6.out.c
    go_wp2_with fail
    refine (has_b _ o [65, 66] 75 false 75 (by decide) HF.out (by decide)).mono ?_
    rintro e w7 ⟨rfl, hb⟩
    have HBEL7 := Lib.hid (HBEL6.out.trans (hb.mono HBEL6.out.size))
    have HBLK7 := Lib.hid (HBLK6.out.below hb HBLK6.out.lt)
    clear hb c0 c1 c2 c3 c4
    obtain ⟨c0, c1, c2, c3, c4⟩ := HBLK7.out.c
    go_wp2_with fail
    go_ret
    refine ⟨?_, HBEL7.out⟩
    rw [← HV.out]; rfl
  · have hval : r = false := by
      rw [← HR.out]; unfold fieldI
      rw [Bool.eq_false_iff]
      intro e
      apply hall
      simp at e
      omega
    subst hval
    clear HR
    go_wp2_with fail
    all_goals first
      | (go_ret; exact ⟨rfl, HBEL5.out⟩)
      | (exfalso; simp only [decide_eq_true_eq, decide_eq_false_iff_not, Bool.or_eq_true] at *; omega)
set_option maxHeartbeats 2000000 in
theorem r02_3 (w : World) (o a b c k : Int) (n : Nat) (hn : n ≤ 1000000) (k0 : 0 ≤ k) (k1 : k ≤ 4294967295) (h0 : 0 ≤ o) (h1 : o < 28) (hF : opField o = [65, 66, 67]) :
    Calls Tryd.prog 16 #[.agg #[.int .i64 o, .int .i64 a, .int .i64 b, .int .i64 c, .int .u32 k], .int .i64 n] w (R2 w ⟨o, a, b, c, k⟩ n) := by
  obtain ⟨r, hr⟩ : ∃ r, rightB ⟨o, a, b, c, k⟩ n = r := ⟨_, rfl⟩
  unfold R2
  rw [hr]
  have hem := opName_in o h0 h1
  have hr2 : (fieldI a true 7 && fieldI b true 7 && fieldI c true 7 && (k == 0)) = r := by
    rw [← hr]; unfold rightB hasB; simp only [hF]; rw [decide_eq_true (And.intro h0 h1)]; simp
  have hbel0 : Below w.heap.size w (w.alloc (.cells #[.int .i64 o, .int .i64 a, .int .i64 b, .int .i64 c, .int .u32 k] 34)) := (Below.refl _ _).alloc (Nat.le_refl _) _
  have hblk0 := Blk.new w ⟨o, a, b, c, k⟩
  have HR := Lib.hid hr2
  have HF := Lib.hid hF
  clear hr hr2 hF
  go_enter Tryd.func16, Tryd.ntmps16
  go_wp2_with fail
  refine (name2_any _ o).mono ?_
  rintro e w1 ⟨sn, sf, hsn, hsf, rfl, hb⟩
  have hse : sn.toList.isEmpty = false := by rw [ByteArray.toList_eq, hsn]; exact hem
  have hbel1 := hbel0.trans (hb.mono hbel0.size)
  have hblk1 : Blk w1 w.heap.size ⟨o, a, b, c, k⟩ := hblk0.below hb (by simp)
  obtain ⟨c0, c1, c2, c3, c4⟩ := hblk1.c
  clear hb hblk0 hbel0
  have HBEL1 := Lib.hid hbel1
  have HBLK1 := Lib.hid hblk1
  clear hbel1 hblk1
  go_wp2_with fail
  refine (has_b _ o [65, 66, 67] 65 true 65 (by decide) HF.out (by decide)).mono ?_
  rintro e w2 ⟨rfl, hb⟩
  have HBEL2 := Lib.hid (HBEL1.out.trans (hb.mono HBEL1.out.size))
  have HBLK2 := Lib.hid (HBLK1.out.below hb HBLK1.out.lt)
  clear hb c0 c1 c2 c3 c4
  obtain ⟨c0, c1, c2, c3, c4⟩ := HBLK2.out.c
  go_wp2_with fail
  refine (has_b _ o [65, 66, 67] 66 true 66 (by decide) HF.out (by decide)).mono ?_
  rintro e w3 ⟨rfl, hb⟩
  have HBEL3 := Lib.hid (HBEL2.out.trans (hb.mono HBEL2.out.size))
  have HBLK3 := Lib.hid (HBLK2.out.below hb HBLK2.out.lt)
  clear hb c0 c1 c2 c3 c4
  obtain ⟨c0, c1, c2, c3, c4⟩ := HBLK3.out.c
  go_wp2_with fail
  refine (has_b _ o [65, 66, 67] 77 false 77 (by decide) HF.out (by decide)).mono ?_
  rintro e w4 ⟨rfl, hb⟩
  have HBEL4 := Lib.hid (HBEL3.out.trans (hb.mono HBEL3.out.size))
  have HBLK4 := Lib.hid (HBLK3.out.below hb HBLK3.out.lt)
  clear hb c0 c1 c2 c3 c4
  obtain ⟨c0, c1, c2, c3, c4⟩ := HBLK4.out.c
  go_wp2_with fail
  refine (has_b _ o [65, 66, 67] 67 true 67 (by decide) HF.out (by decide)).mono ?_
  rintro e w5 ⟨rfl, hb⟩
  have HBEL5 := Lib.hid (HBEL4.out.trans (hb.mono HBEL4.out.size))
  have HBLK5 := Lib.hid (HBLK4.out.below hb HBLK4.out.lt)
  clear hb c0 c1 c2 c3 c4
  obtain ⟨c0, c1, c2, c3, c4⟩ := HBLK5.out.c
  have QED : ∀ (q : Bool) (W : World), Below w.heap.size w W → r = q → (Ending.returned (.bool q) = Ending.returned (.bool r) ∧ Below w.heap.size w W) := fun q W hW e => ⟨by rw [e], hW⟩
  by_cases hall : 0 ≤ a ∧ a ≤ 7 ∧ 0 ≤ b ∧ b ≤ 7 ∧ 0 ≤ c ∧ c ≤ 7
  · obtain ⟨p0, p1, p2, p3, p4, p5⟩ := hall
    have hval : ((k == 0) : Bool) = r := by
      rw [← HR.out]; unfold fieldI; rw [Bool.eq_iff_iff]; simp; omega
    have HV := Lib.hid hval
    clear hval
    have g0 : decide (a < 0) = false := decide_eq_false (by omega)
    have g1 : decide (7 < a) = false := decide_eq_false (by omega)
    have g2 : decide (b < 0) = false := decide_eq_false (by omega)
    have g3 : decide (7 < b) = false := decide_eq_false (by omega)
    have g4 : decide (c < 0) = false := decide_eq_false (by omega)
    have g5 : decide (7 < c) = false := decide_eq_false (by omega)
    go_wp2_with fail
    refine (has_b _ o [65, 66, 67] 84 false 84 (by decide) HF.out (by decide)).mono ?_
    rintro e w6 ⟨rfl, hb⟩
    have HBEL6 := Lib.hid (HBEL5.out.trans (hb.mono HBEL5.out.size))
    have HBLK6 := Lib.hid (HBLK5.out.below hb HBLK5.out.lt)
    clear hb c0 c1 c2 c3 c4
    obtain ⟨c0, c1, c2, c3, c4⟩ := HBLK6.out.c
    go_wp2_with fail
    refine (has_b _ o [65, 66, 67] 75 false 75 (by decide) HF.out (by decide)).mono ?_
    rintro e w7 ⟨rfl, hb⟩
    have HBEL7 := Lib.hid (HBEL6.out.trans (hb.mono HBEL6.out.size))
    have HBLK7 := Lib.hid (HBLK6.out.below hb HBLK6.out.lt)
    clear hb c0 c1 c2 c3 c4
    obtain ⟨c0, c1, c2, c3, c4⟩ := HBLK7.out.c
    go_wp2_with fail
    go_ret
    refine ⟨?_, HBEL7.out⟩
    rw [← HV.out]; rfl
  · have hval : r = false := by
      rw [← HR.out]; unfold fieldI
      rw [Bool.eq_false_iff]
      intro e
      apply hall
      simp at e
      omega
    subst hval
    clear HR
    go_wp2_with fail
    all_goals first
      | (go_ret; exact ⟨rfl, HBEL5.out⟩)
      | (exfalso; simp only [decide_eq_true_eq, decide_eq_false_iff_not, Bool.or_eq_true] at *; omega)
set_option maxHeartbeats 2000000 in
theorem r02_4 (w : World) (o a b c k : Int) (n : Nat) (hn : n ≤ 1000000) (k0 : 0 ≤ k) (k1 : k ≤ 4294967295) (h0 : 0 ≤ o) (h1 : o < 28) (hF : opField o = [84]) :
    Calls Tryd.prog 16 #[.agg #[.int .i64 o, .int .i64 a, .int .i64 b, .int .i64 c, .int .u32 k], .int .i64 n] w (R2 w ⟨o, a, b, c, k⟩ n) := by
  obtain ⟨r, hr⟩ : ∃ r, rightB ⟨o, a, b, c, k⟩ n = r := ⟨_, rfl⟩
  unfold R2
  rw [hr]
  have hem := opName_in o h0 h1
  have hr2 : (fieldI a false 7 && fieldI b false 7 && fieldI c false 7 && decide (k ≤ n)) = r := by
    rw [← hr]; unfold rightB hasB; simp only [hF]; rw [decide_eq_true (And.intro h0 h1)]; simp
  have hbel0 : Below w.heap.size w (w.alloc (.cells #[.int .i64 o, .int .i64 a, .int .i64 b, .int .i64 c, .int .u32 k] 34)) := (Below.refl _ _).alloc (Nat.le_refl _) _
  have hblk0 := Blk.new w ⟨o, a, b, c, k⟩
  have HR := Lib.hid hr2
  have HF := Lib.hid hF
  clear hr hr2 hF
  go_enter Tryd.func16, Tryd.ntmps16
  go_wp2_with fail
  refine (name2_any _ o).mono ?_
  rintro e w1 ⟨sn, sf, hsn, hsf, rfl, hb⟩
  have hse : sn.toList.isEmpty = false := by rw [ByteArray.toList_eq, hsn]; exact hem
  have hbel1 := hbel0.trans (hb.mono hbel0.size)
  have hblk1 : Blk w1 w.heap.size ⟨o, a, b, c, k⟩ := hblk0.below hb (by simp)
  obtain ⟨c0, c1, c2, c3, c4⟩ := hblk1.c
  clear hb hblk0 hbel0
  have HBEL1 := Lib.hid hbel1
  have HBLK1 := Lib.hid hblk1
  clear hbel1 hblk1
  go_wp2_with fail
  refine (has_b _ o [84] 65 false 65 (by decide) HF.out (by decide)).mono ?_
  rintro e w2 ⟨rfl, hb⟩
  have HBEL2 := Lib.hid (HBEL1.out.trans (hb.mono HBEL1.out.size))
  have HBLK2 := Lib.hid (HBLK1.out.below hb HBLK1.out.lt)
  clear hb c0 c1 c2 c3 c4
  obtain ⟨c0, c1, c2, c3, c4⟩ := HBLK2.out.c
  go_wp2_with fail
  refine (has_b _ o [84] 66 false 66 (by decide) HF.out (by decide)).mono ?_
  rintro e w3 ⟨rfl, hb⟩
  have HBEL3 := Lib.hid (HBEL2.out.trans (hb.mono HBEL2.out.size))
  have HBLK3 := Lib.hid (HBLK2.out.below hb HBLK2.out.lt)
  clear hb c0 c1 c2 c3 c4
  obtain ⟨c0, c1, c2, c3, c4⟩ := HBLK3.out.c
  go_wp2_with fail
  refine (has_b _ o [84] 77 false 77 (by decide) HF.out (by decide)).mono ?_
  rintro e w4 ⟨rfl, hb⟩
  have HBEL4 := Lib.hid (HBEL3.out.trans (hb.mono HBEL3.out.size))
  have HBLK4 := Lib.hid (HBLK3.out.below hb HBLK3.out.lt)
  clear hb c0 c1 c2 c3 c4
  obtain ⟨c0, c1, c2, c3, c4⟩ := HBLK4.out.c
  go_wp2_with fail
  refine (has_b _ o [84] 67 false 67 (by decide) HF.out (by decide)).mono ?_
  rintro e w5 ⟨rfl, hb⟩
  have HBEL5 := Lib.hid (HBEL4.out.trans (hb.mono HBEL4.out.size))
  have HBLK5 := Lib.hid (HBLK4.out.below hb HBLK4.out.lt)
  clear hb c0 c1 c2 c3 c4
  obtain ⟨c0, c1, c2, c3, c4⟩ := HBLK5.out.c
  have QED : ∀ (q : Bool) (W : World), Below w.heap.size w W → r = q → (Ending.returned (.bool q) = Ending.returned (.bool r) ∧ Below w.heap.size w W) := fun q W hW e => ⟨by rw [e], hW⟩
  by_cases hall : 0 ≤ a ∧ a ≤ 0 ∧ 0 ≤ b ∧ b ≤ 0 ∧ 0 ≤ c ∧ c ≤ 0
  · obtain ⟨p0, p1, p2, p3, p4, p5⟩ := hall
    have hval : (decide (k ≤ n) : Bool) = r := by
      rw [← HR.out]; unfold fieldI; rw [Bool.eq_iff_iff]; simp; omega
    have HV := Lib.hid hval
    clear hval
    have g0 : decide (a < 0) = false := decide_eq_false (by omega)
    have g1 : decide (0 < a) = false := decide_eq_false (by omega)
    have g2 : decide (b < 0) = false := decide_eq_false (by omega)
    have g3 : decide (0 < b) = false := decide_eq_false (by omega)
    have g4 : decide (c < 0) = false := decide_eq_false (by omega)
    have g5 : decide (0 < c) = false := decide_eq_false (by omega)
    go_wp2_with fail
    refine (has_b _ o [84] 84 true 84 (by decide) HF.out (by decide)).mono ?_
    rintro e w6 ⟨rfl, hb⟩
    have HBEL6 := Lib.hid (HBEL5.out.trans (hb.mono HBEL5.out.size))
    have HBLK6 := Lib.hid (HBLK5.out.below hb HBLK5.out.lt)
    clear hb c0 c1 c2 c3 c4
    obtain ⟨c0, c1, c2, c3, c4⟩ := HBLK6.out.c
    have hge : decide ((0 : Int) ≤ n) = true := decide_eq_true (by omega)
    have hgt : decide ((4294967295 : Int) < n) = false := decide_eq_false (by omega)
    go_wp2_with fail
    all_goals go_ret
    all_goals refine ⟨?_, HBEL6.out⟩
    all_goals rw [← HV.out]
    all_goals rfl
  · have hval : r = false := by
      rw [← HR.out]; unfold fieldI
      rw [Bool.eq_false_iff]
      intro e
      apply hall
      simp at e
      omega
    subst hval
    clear HR
    go_wp2_with fail
    all_goals first
      | (go_ret; exact ⟨rfl, HBEL5.out⟩)
      | (exfalso; simp only [decide_eq_true_eq, decide_eq_false_iff_not, Bool.or_eq_true] at *; omega)
set_option maxHeartbeats 2000000 in
theorem r02_5 (w : World) (o a b c k : Int) (n : Nat) (hn : n ≤ 1000000) (k0 : 0 ≤ k) (k1 : k ≤ 4294967295) (h0 : 0 ≤ o) (h1 : o < 28) (hF : opField o = [65, 84]) :
    Calls Tryd.prog 16 #[.agg #[.int .i64 o, .int .i64 a, .int .i64 b, .int .i64 c, .int .u32 k], .int .i64 n] w (R2 w ⟨o, a, b, c, k⟩ n) := by
  obtain ⟨r, hr⟩ : ∃ r, rightB ⟨o, a, b, c, k⟩ n = r := ⟨_, rfl⟩
  unfold R2
  rw [hr]
  have hem := opName_in o h0 h1
  have hr2 : (fieldI a true 7 && fieldI b false 7 && fieldI c false 7 && decide (k ≤ n)) = r := by
    rw [← hr]; unfold rightB hasB; simp only [hF]; rw [decide_eq_true (And.intro h0 h1)]; simp
  have hbel0 : Below w.heap.size w (w.alloc (.cells #[.int .i64 o, .int .i64 a, .int .i64 b, .int .i64 c, .int .u32 k] 34)) := (Below.refl _ _).alloc (Nat.le_refl _) _
  have hblk0 := Blk.new w ⟨o, a, b, c, k⟩
  have HR := Lib.hid hr2
  have HF := Lib.hid hF
  clear hr hr2 hF
  go_enter Tryd.func16, Tryd.ntmps16
  go_wp2_with fail
  refine (name2_any _ o).mono ?_
  rintro e w1 ⟨sn, sf, hsn, hsf, rfl, hb⟩
  have hse : sn.toList.isEmpty = false := by rw [ByteArray.toList_eq, hsn]; exact hem
  have hbel1 := hbel0.trans (hb.mono hbel0.size)
  have hblk1 : Blk w1 w.heap.size ⟨o, a, b, c, k⟩ := hblk0.below hb (by simp)
  obtain ⟨c0, c1, c2, c3, c4⟩ := hblk1.c
  clear hb hblk0 hbel0
  have HBEL1 := Lib.hid hbel1
  have HBLK1 := Lib.hid hblk1
  clear hbel1 hblk1
  go_wp2_with fail
  refine (has_b _ o [65, 84] 65 true 65 (by decide) HF.out (by decide)).mono ?_
  rintro e w2 ⟨rfl, hb⟩
  have HBEL2 := Lib.hid (HBEL1.out.trans (hb.mono HBEL1.out.size))
  have HBLK2 := Lib.hid (HBLK1.out.below hb HBLK1.out.lt)
  clear hb c0 c1 c2 c3 c4
  obtain ⟨c0, c1, c2, c3, c4⟩ := HBLK2.out.c
  go_wp2_with fail
  refine (has_b _ o [65, 84] 66 false 66 (by decide) HF.out (by decide)).mono ?_
  rintro e w3 ⟨rfl, hb⟩
  have HBEL3 := Lib.hid (HBEL2.out.trans (hb.mono HBEL2.out.size))
  have HBLK3 := Lib.hid (HBLK2.out.below hb HBLK2.out.lt)
  clear hb c0 c1 c2 c3 c4
  obtain ⟨c0, c1, c2, c3, c4⟩ := HBLK3.out.c
  go_wp2_with fail
  refine (has_b _ o [65, 84] 77 false 77 (by decide) HF.out (by decide)).mono ?_
  rintro e w4 ⟨rfl, hb⟩
  have HBEL4 := Lib.hid (HBEL3.out.trans (hb.mono HBEL3.out.size))
  have HBLK4 := Lib.hid (HBLK3.out.below hb HBLK3.out.lt)
  clear hb c0 c1 c2 c3 c4
  obtain ⟨c0, c1, c2, c3, c4⟩ := HBLK4.out.c
  go_wp2_with fail
  refine (has_b _ o [65, 84] 67 false 67 (by decide) HF.out (by decide)).mono ?_
  rintro e w5 ⟨rfl, hb⟩
  have HBEL5 := Lib.hid (HBEL4.out.trans (hb.mono HBEL4.out.size))
  have HBLK5 := Lib.hid (HBLK4.out.below hb HBLK4.out.lt)
  clear hb c0 c1 c2 c3 c4
  obtain ⟨c0, c1, c2, c3, c4⟩ := HBLK5.out.c
  have QED : ∀ (q : Bool) (W : World), Below w.heap.size w W → r = q → (Ending.returned (.bool q) = Ending.returned (.bool r) ∧ Below w.heap.size w W) := fun q W hW e => ⟨by rw [e], hW⟩
  by_cases hall : 0 ≤ a ∧ a ≤ 7 ∧ 0 ≤ b ∧ b ≤ 0 ∧ 0 ≤ c ∧ c ≤ 0
  · obtain ⟨p0, p1, p2, p3, p4, p5⟩ := hall
    have hval : (decide (k ≤ n) : Bool) = r := by
      rw [← HR.out]; unfold fieldI; rw [Bool.eq_iff_iff]; simp; omega
    have HV := Lib.hid hval
    clear hval
    have g0 : decide (a < 0) = false := decide_eq_false (by omega)
    have g1 : decide (7 < a) = false := decide_eq_false (by omega)
    have g2 : decide (b < 0) = false := decide_eq_false (by omega)
    have g3 : decide (0 < b) = false := decide_eq_false (by omega)
    have g4 : decide (c < 0) = false := decide_eq_false (by omega)
    have g5 : decide (0 < c) = false := decide_eq_false (by omega)
    go_wp2_with fail
    refine (has_b _ o [65, 84] 84 true 84 (by decide) HF.out (by decide)).mono ?_
    rintro e w6 ⟨rfl, hb⟩
    have HBEL6 := Lib.hid (HBEL5.out.trans (hb.mono HBEL5.out.size))
    have HBLK6 := Lib.hid (HBLK5.out.below hb HBLK5.out.lt)
    clear hb c0 c1 c2 c3 c4
    obtain ⟨c0, c1, c2, c3, c4⟩ := HBLK6.out.c
    have hge : decide ((0 : Int) ≤ n) = true := decide_eq_true (by omega)
    have hgt : decide ((4294967295 : Int) < n) = false := decide_eq_false (by omega)
    go_wp2_with fail
    all_goals go_ret
    all_goals refine ⟨?_, HBEL6.out⟩
    all_goals rw [← HV.out]
    all_goals rfl
  · have hval : r = false := by
      rw [← HR.out]; unfold fieldI
      rw [Bool.eq_false_iff]
      intro e
      apply hall
      simp at e
      omega
    subst hval
    clear HR
    go_wp2_with fail
    all_goals first
      | (go_ret; exact ⟨rfl, HBEL5.out⟩)
      | (exfalso; simp only [decide_eq_true_eq, decide_eq_false_iff_not, Bool.or_eq_true] at *; omega)
set_option maxHeartbeats 2000000 in
theorem r02_6 (w : World) (o a b c k : Int) (n : Nat) (hn : n ≤ 1000000) (k0 : 0 ≤ k) (k1 : k ≤ 4294967295) (h0 : 0 ≤ o) (h1 : o < 28) (hF : opField o = [65, 77, 75]) :
    Calls Tryd.prog 16 #[.agg #[.int .i64 o, .int .i64 a, .int .i64 b, .int .i64 c, .int .u32 k], .int .i64 n] w (R2 w ⟨o, a, b, c, k⟩ n) := by
  obtain ⟨r, hr⟩ : ∃ r, rightB ⟨o, a, b, c, k⟩ n = r := ⟨_, rfl⟩
  unfold R2
  rw [hr]
  have hem := opName_in o h0 h1
  have hr2 : (fieldI a true 7 && fieldI b true 8 && fieldI c false 7 && true) = r := by
    rw [← hr]; unfold rightB hasB; simp only [hF]; rw [decide_eq_true (And.intro h0 h1)]; simp
  have hbel0 : Below w.heap.size w (w.alloc (.cells #[.int .i64 o, .int .i64 a, .int .i64 b, .int .i64 c, .int .u32 k] 34)) := (Below.refl _ _).alloc (Nat.le_refl _) _
  have hblk0 := Blk.new w ⟨o, a, b, c, k⟩
  have HR := Lib.hid hr2
  have HF := Lib.hid hF
  clear hr hr2 hF
  go_enter Tryd.func16, Tryd.ntmps16
  go_wp2_with fail
  refine (name2_any _ o).mono ?_
  rintro e w1 ⟨sn, sf, hsn, hsf, rfl, hb⟩
  have hse : sn.toList.isEmpty = false := by rw [ByteArray.toList_eq, hsn]; exact hem
  have hbel1 := hbel0.trans (hb.mono hbel0.size)
  have hblk1 : Blk w1 w.heap.size ⟨o, a, b, c, k⟩ := hblk0.below hb (by simp)
  obtain ⟨c0, c1, c2, c3, c4⟩ := hblk1.c
  clear hb hblk0 hbel0
  have HBEL1 := Lib.hid hbel1
  have HBLK1 := Lib.hid hblk1
  clear hbel1 hblk1
  go_wp2_with fail
  refine (has_b _ o [65, 77, 75] 65 true 65 (by decide) HF.out (by decide)).mono ?_
  rintro e w2 ⟨rfl, hb⟩
  have HBEL2 := Lib.hid (HBEL1.out.trans (hb.mono HBEL1.out.size))
  have HBLK2 := Lib.hid (HBLK1.out.below hb HBLK1.out.lt)
  clear hb c0 c1 c2 c3 c4
  obtain ⟨c0, c1, c2, c3, c4⟩ := HBLK2.out.c
  go_wp2_with fail
  refine (has_b _ o [65, 77, 75] 66 false 66 (by decide) HF.out (by decide)).mono ?_
  rintro e w3 ⟨rfl, hb⟩
  have HBEL3 := Lib.hid (HBEL2.out.trans (hb.mono HBEL2.out.size))
  have HBLK3 := Lib.hid (HBLK2.out.below hb HBLK2.out.lt)
  clear hb c0 c1 c2 c3 c4
  obtain ⟨c0, c1, c2, c3, c4⟩ := HBLK3.out.c
  go_wp2_with fail
  refine (has_b _ o [65, 77, 75] 77 true 77 (by decide) HF.out (by decide)).mono ?_
  rintro e w4 ⟨rfl, hb⟩
  have HBEL4 := Lib.hid (HBEL3.out.trans (hb.mono HBEL3.out.size))
  have HBLK4 := Lib.hid (HBLK3.out.below hb HBLK3.out.lt)
  clear hb c0 c1 c2 c3 c4
  obtain ⟨c0, c1, c2, c3, c4⟩ := HBLK4.out.c
  go_wp2_with fail
  refine (has_b _ o [65, 77, 75] 67 false 67 (by decide) HF.out (by decide)).mono ?_
  rintro e w5 ⟨rfl, hb⟩
  have HBEL5 := Lib.hid (HBEL4.out.trans (hb.mono HBEL4.out.size))
  have HBLK5 := Lib.hid (HBLK4.out.below hb HBLK4.out.lt)
  clear hb c0 c1 c2 c3 c4
  obtain ⟨c0, c1, c2, c3, c4⟩ := HBLK5.out.c
  have QED : ∀ (q : Bool) (W : World), Below w.heap.size w W → r = q → (Ending.returned (.bool q) = Ending.returned (.bool r) ∧ Below w.heap.size w W) := fun q W hW e => ⟨by rw [e], hW⟩
  by_cases hall : 0 ≤ a ∧ a ≤ 7 ∧ 0 ≤ b ∧ b ≤ 8 ∧ 0 ≤ c ∧ c ≤ 0
  · obtain ⟨p0, p1, p2, p3, p4, p5⟩ := hall
    have hval : (true : Bool) = r := by
      rw [← HR.out]; unfold fieldI; rw [Bool.eq_iff_iff]; simp; omega
    have HV := Lib.hid hval
    clear hval
    have g0 : decide (a < 0) = false := decide_eq_false (by omega)
    have g1 : decide (7 < a) = false := decide_eq_false (by omega)
    have g2 : decide (b < 0) = false := decide_eq_false (by omega)
    have g3 : decide (8 < b) = false := decide_eq_false (by omega)
    have g4 : decide (c < 0) = false := decide_eq_false (by omega)
    have g5 : decide (0 < c) = false := decide_eq_false (by omega)
    go_wp2_with fail
    refine (has_b _ o [65, 77, 75] 84 false 84 (by decide) HF.out (by decide)).mono ?_
    rintro e w6 ⟨rfl, hb⟩
    have HBEL6 := Lib.hid (HBEL5.out.trans (hb.mono HBEL5.out.size))
    have HBLK6 := Lib.hid (HBLK5.out.below hb HBLK5.out.lt)
    clear hb c0 c1 c2 c3 c4
    obtain ⟨c0, c1, c2, c3, c4⟩ := HBLK6.out.c
    go_wp2_with fail
    refine (has_b _ o [65, 77, 75] 75 true 75 (by decide) HF.out (by decide)).mono ?_
    rintro e w7 ⟨rfl, hb⟩
    have HBEL7 := Lib.hid (HBEL6.out.trans (hb.mono HBEL6.out.size))
    have HBLK7 := Lib.hid (HBLK6.out.below hb HBLK6.out.lt)
    clear hb c0 c1 c2 c3 c4
    obtain ⟨c0, c1, c2, c3, c4⟩ := HBLK7.out.c
    go_wp2_with fail
    go_ret
    refine ⟨?_, HBEL7.out⟩
    rw [← HV.out]; rfl
  · have hval : r = false := by
      rw [← HR.out]; unfold fieldI
      rw [Bool.eq_false_iff]
      intro e
      apply hall
      simp at e
      omega
    subst hval
    clear HR
    go_wp2_with fail
    all_goals first
      | (go_ret; exact ⟨rfl, HBEL5.out⟩)
      | (exfalso; simp only [decide_eq_true_eq, decide_eq_false_iff_not, Bool.or_eq_true] at *; omega)
set_option maxHeartbeats 2000000 in
theorem r02_7 (w : World) (o a b c k : Int) (n : Nat) (hn : n ≤ 1000000) (k0 : 0 ≤ k) (k1 : k ≤ 4294967295) (h0 : 0 ≤ o) (h1 : o < 28) (hF : opField o = [65, 67, 77, 75]) :
    Calls Tryd.prog 16 #[.agg #[.int .i64 o, .int .i64 a, .int .i64 b, .int .i64 c, .int .u32 k], .int .i64 n] w (R2 w ⟨o, a, b, c, k⟩ n) := by
  obtain ⟨r, hr⟩ : ∃ r, rightB ⟨o, a, b, c, k⟩ n = r := ⟨_, rfl⟩
  unfold R2
  rw [hr]
  have hem := opName_in o h0 h1
  have hr2 : (fieldI a true 7 && fieldI b true 8 && fieldI c true 7 && true) = r := by
    rw [← hr]; unfold rightB hasB; simp only [hF]; rw [decide_eq_true (And.intro h0 h1)]; simp
  have hbel0 : Below w.heap.size w (w.alloc (.cells #[.int .i64 o, .int .i64 a, .int .i64 b, .int .i64 c, .int .u32 k] 34)) := (Below.refl _ _).alloc (Nat.le_refl _) _
  have hblk0 := Blk.new w ⟨o, a, b, c, k⟩
  have HR := Lib.hid hr2
  have HF := Lib.hid hF
  clear hr hr2 hF
  go_enter Tryd.func16, Tryd.ntmps16
  go_wp2_with fail
  refine (name2_any _ o).mono ?_
  rintro e w1 ⟨sn, sf, hsn, hsf, rfl, hb⟩
  have hse : sn.toList.isEmpty = false := by rw [ByteArray.toList_eq, hsn]; exact hem
  have hbel1 := hbel0.trans (hb.mono hbel0.size)
  have hblk1 : Blk w1 w.heap.size ⟨o, a, b, c, k⟩ := hblk0.below hb (by simp)
  obtain ⟨c0, c1, c2, c3, c4⟩ := hblk1.c
  clear hb hblk0 hbel0
  have HBEL1 := Lib.hid hbel1
  have HBLK1 := Lib.hid hblk1
  clear hbel1 hblk1
  go_wp2_with fail
  refine (has_b _ o [65, 67, 77, 75] 65 true 65 (by decide) HF.out (by decide)).mono ?_
  rintro e w2 ⟨rfl, hb⟩
  have HBEL2 := Lib.hid (HBEL1.out.trans (hb.mono HBEL1.out.size))
  have HBLK2 := Lib.hid (HBLK1.out.below hb HBLK1.out.lt)
  clear hb c0 c1 c2 c3 c4
  obtain ⟨c0, c1, c2, c3, c4⟩ := HBLK2.out.c
  go_wp2_with fail
  refine (has_b _ o [65, 67, 77, 75] 66 false 66 (by decide) HF.out (by decide)).mono ?_
  rintro e w3 ⟨rfl, hb⟩
  have HBEL3 := Lib.hid (HBEL2.out.trans (hb.mono HBEL2.out.size))
  have HBLK3 := Lib.hid (HBLK2.out.below hb HBLK2.out.lt)
  clear hb c0 c1 c2 c3 c4
  obtain ⟨c0, c1, c2, c3, c4⟩ := HBLK3.out.c
  go_wp2_with fail
  refine (has_b _ o [65, 67, 77, 75] 77 true 77 (by decide) HF.out (by decide)).mono ?_
  rintro e w4 ⟨rfl, hb⟩
  have HBEL4 := Lib.hid (HBEL3.out.trans (hb.mono HBEL3.out.size))
  have HBLK4 := Lib.hid (HBLK3.out.below hb HBLK3.out.lt)
  clear hb c0 c1 c2 c3 c4
  obtain ⟨c0, c1, c2, c3, c4⟩ := HBLK4.out.c
  go_wp2_with fail
  refine (has_b _ o [65, 67, 77, 75] 67 true 67 (by decide) HF.out (by decide)).mono ?_
  rintro e w5 ⟨rfl, hb⟩
  have HBEL5 := Lib.hid (HBEL4.out.trans (hb.mono HBEL4.out.size))
  have HBLK5 := Lib.hid (HBLK4.out.below hb HBLK4.out.lt)
  clear hb c0 c1 c2 c3 c4
  obtain ⟨c0, c1, c2, c3, c4⟩ := HBLK5.out.c
  have QED : ∀ (q : Bool) (W : World), Below w.heap.size w W → r = q → (Ending.returned (.bool q) = Ending.returned (.bool r) ∧ Below w.heap.size w W) := fun q W hW e => ⟨by rw [e], hW⟩
  by_cases hall : 0 ≤ a ∧ a ≤ 7 ∧ 0 ≤ b ∧ b ≤ 8 ∧ 0 ≤ c ∧ c ≤ 7
  · obtain ⟨p0, p1, p2, p3, p4, p5⟩ := hall
    have hval : (true : Bool) = r := by
      rw [← HR.out]; unfold fieldI; rw [Bool.eq_iff_iff]; simp; omega
    have HV := Lib.hid hval
    clear hval
    have g0 : decide (a < 0) = false := decide_eq_false (by omega)
    have g1 : decide (7 < a) = false := decide_eq_false (by omega)
    have g2 : decide (b < 0) = false := decide_eq_false (by omega)
    have g3 : decide (8 < b) = false := decide_eq_false (by omega)
    have g4 : decide (c < 0) = false := decide_eq_false (by omega)
    have g5 : decide (7 < c) = false := decide_eq_false (by omega)
    go_wp2_with fail
    refine (has_b _ o [65, 67, 77, 75] 84 false 84 (by decide) HF.out (by decide)).mono ?_
    rintro e w6 ⟨rfl, hb⟩
    have HBEL6 := Lib.hid (HBEL5.out.trans (hb.mono HBEL5.out.size))
    have HBLK6 := Lib.hid (HBLK5.out.below hb HBLK5.out.lt)
    clear hb c0 c1 c2 c3 c4
    obtain ⟨c0, c1, c2, c3, c4⟩ := HBLK6.out.c
    go_wp2_with fail
    refine (has_b _ o [65, 67, 77, 75] 75 true 75 (by decide) HF.out (by decide)).mono ?_
    rintro e w7 ⟨rfl, hb⟩
    have HBEL7 := Lib.hid (HBEL6.out.trans (hb.mono HBEL6.out.size))
    have HBLK7 := Lib.hid (HBLK6.out.below hb HBLK6.out.lt)
    clear hb c0 c1 c2 c3 c4
    obtain ⟨c0, c1, c2, c3, c4⟩ := HBLK7.out.c
    go_wp2_with fail
    go_ret
    refine ⟨?_, HBEL7.out⟩
    rw [← HV.out]; rfl
  · have hval : r = false := by
      rw [← HR.out]; unfold fieldI
      rw [Bool.eq_false_iff]
      intro e
      apply hall
      simp at e
      omega
    subst hval
    clear HR
    go_wp2_with fail
    all_goals first
      | (go_ret; exact ⟨rfl, HBEL5.out⟩)
      | (exfalso; simp only [decide_eq_true_eq, decide_eq_false_iff_not, Bool.or_eq_true] at *; omega)
set_option maxHeartbeats 2000000 in
theorem r02_8 (w : World) (o a b c k : Int) (n : Nat) (hn : n ≤ 1000000) (k0 : 0 ≤ k) (k1 : k ≤ 4294967295) (h0 : 0 ≤ o) (h1 : o < 28) (hF : opField o = [65]) :
    Calls Tryd.prog 16 #[.agg #[.int .i64 o, .int .i64 a, .int .i64 b, .int .i64 c, .int .u32 k], .int .i64 n] w (R2 w ⟨o, a, b, c, k⟩ n) := by
  obtain ⟨r, hr⟩ : ∃ r, rightB ⟨o, a, b, c, k⟩ n = r := ⟨_, rfl⟩
  unfold R2
  rw [hr]
  have hem := opName_in o h0 h1
  have hr2 : (fieldI a true 7 && fieldI b false 7 && fieldI c false 7 && (k == 0)) = r := by
    rw [← hr]; unfold rightB hasB; simp only [hF]; rw [decide_eq_true (And.intro h0 h1)]; simp
  have hbel0 : Below w.heap.size w (w.alloc (.cells #[.int .i64 o, .int .i64 a, .int .i64 b, .int .i64 c, .int .u32 k] 34)) := (Below.refl _ _).alloc (Nat.le_refl _) _
  have hblk0 := Blk.new w ⟨o, a, b, c, k⟩
  have HR := Lib.hid hr2
  have HF := Lib.hid hF
  clear hr hr2 hF
  go_enter Tryd.func16, Tryd.ntmps16
  go_wp2_with fail
  refine (name2_any _ o).mono ?_
  rintro e w1 ⟨sn, sf, hsn, hsf, rfl, hb⟩
  have hse : sn.toList.isEmpty = false := by rw [ByteArray.toList_eq, hsn]; exact hem
  have hbel1 := hbel0.trans (hb.mono hbel0.size)
  have hblk1 : Blk w1 w.heap.size ⟨o, a, b, c, k⟩ := hblk0.below hb (by simp)
  obtain ⟨c0, c1, c2, c3, c4⟩ := hblk1.c
  clear hb hblk0 hbel0
  have HBEL1 := Lib.hid hbel1
  have HBLK1 := Lib.hid hblk1
  clear hbel1 hblk1
  go_wp2_with fail
  refine (has_b _ o [65] 65 true 65 (by decide) HF.out (by decide)).mono ?_
  rintro e w2 ⟨rfl, hb⟩
  have HBEL2 := Lib.hid (HBEL1.out.trans (hb.mono HBEL1.out.size))
  have HBLK2 := Lib.hid (HBLK1.out.below hb HBLK1.out.lt)
  clear hb c0 c1 c2 c3 c4
  obtain ⟨c0, c1, c2, c3, c4⟩ := HBLK2.out.c
  go_wp2_with fail
  refine (has_b _ o [65] 66 false 66 (by decide) HF.out (by decide)).mono ?_
  rintro e w3 ⟨rfl, hb⟩
  have HBEL3 := Lib.hid (HBEL2.out.trans (hb.mono HBEL2.out.size))
  have HBLK3 := Lib.hid (HBLK2.out.below hb HBLK2.out.lt)
  clear hb c0 c1 c2 c3 c4
  obtain ⟨c0, c1, c2, c3, c4⟩ := HBLK3.out.c
  go_wp2_with fail
  refine (has_b _ o [65] 77 false 77 (by decide) HF.out (by decide)).mono ?_
  rintro e w4 ⟨rfl, hb⟩
  have HBEL4 := Lib.hid (HBEL3.out.trans (hb.mono HBEL3.out.size))
  have HBLK4 := Lib.hid (HBLK3.out.below hb HBLK3.out.lt)
  clear hb c0 c1 c2 c3 c4
  obtain ⟨c0, c1, c2, c3, c4⟩ := HBLK4.out.c
  go_wp2_with fail
  refine (has_b _ o [65] 67 false 67 (by decide) HF.out (by decide)).mono ?_
  rintro e w5 ⟨rfl, hb⟩
  have HBEL5 := Lib.hid (HBEL4.out.trans (hb.mono HBEL4.out.size))
  have HBLK5 := Lib.hid (HBLK4.out.below hb HBLK4.out.lt)
  clear hb c0 c1 c2 c3 c4
  obtain ⟨c0, c1, c2, c3, c4⟩ := HBLK5.out.c
  have QED : ∀ (q : Bool) (W : World), Below w.heap.size w W → r = q → (Ending.returned (.bool q) = Ending.returned (.bool r) ∧ Below w.heap.size w W) := fun q W hW e => ⟨by rw [e], hW⟩
  by_cases hall : 0 ≤ a ∧ a ≤ 7 ∧ 0 ≤ b ∧ b ≤ 0 ∧ 0 ≤ c ∧ c ≤ 0
  · obtain ⟨p0, p1, p2, p3, p4, p5⟩ := hall
    have hval : ((k == 0) : Bool) = r := by
      rw [← HR.out]; unfold fieldI; rw [Bool.eq_iff_iff]; simp; omega
    have HV := Lib.hid hval
    clear hval
    have g0 : decide (a < 0) = false := decide_eq_false (by omega)
    have g1 : decide (7 < a) = false := decide_eq_false (by omega)
    have g2 : decide (b < 0) = false := decide_eq_false (by omega)
    have g3 : decide (0 < b) = false := decide_eq_false (by omega)
    have g4 : decide (c < 0) = false := decide_eq_false (by omega)
    have g5 : decide (0 < c) = false := decide_eq_false (by omega)
    go_wp2_with fail
    refine (has_b _ o [65] 84 false 84 (by decide) HF.out (by decide)).mono ?_
    rintro e w6 ⟨rfl, hb⟩
    have HBEL6 := Lib.hid (HBEL5.out.trans (hb.mono HBEL5.out.size))
    have HBLK6 := Lib.hid (HBLK5.out.below hb HBLK5.out.lt)
    clear hb c0 c1 c2 c3 c4
    obtain ⟨c0, c1, c2, c3, c4⟩ := HBLK6.out.c
    go_wp2_with fail
    refine (has_b _ o [65] 75 false 75 (by decide) HF.out (by decide)).mono ?_
    rintro e w7 ⟨rfl, hb⟩
    have HBEL7 := Lib.hid (HBEL6.out.trans (hb.mono HBEL6.out.size))
    have HBLK7 := Lib.hid (HBLK6.out.below hb HBLK6.out.lt)
    clear hb c0 c1 c2 c3 c4
    obtain ⟨c0, c1, c2, c3, c4⟩ := HBLK7.out.c
    go_wp2_with fail
    go_ret
    refine ⟨?_, HBEL7.out⟩
    rw [← HV.out]; rfl
  · have hval : r = false := by
      rw [← HR.out]; unfold fieldI
      rw [Bool.eq_false_iff]
      intro e
      apply hall
      simp at e
      omega
    subst hval
    clear HR
    go_wp2_with fail
    all_goals first
      | (go_ret; exact ⟨rfl, HBEL5.out⟩)
      | (exfalso; simp only [decide_eq_true_eq, decide_eq_false_iff_not, Bool.or_eq_true] at *; omega)
theorem r02_any (w : World) (o a b c k : Int) (n : Nat) (hn : n ≤ 1000000) (hk : 0 ≤ k ∧ k ≤ 4294967295) :
    Calls Tryd.prog 16 #[.agg #[.int .i64 o, .int .i64 a, .int .i64 b, .int .i64 c, .int .u32 k], .int .i64 n] w (R2 w ⟨o, a, b, c, k⟩ n) := by
  by_cases h : 0 ≤ o ∧ o < 28
  · obtain ⟨h0, h1⟩ := h
    rcases form_cases o h0 h1 with e | e | e | e | e | e | e | e | e <;> (injection e with e1 e2)
    · exact r02_0 w o a b c k n hn hk.1 hk.2 h0 h1 e1
    · exact r02_1 w o a b c k n hn hk.1 hk.2 h0 h1 e1
    · exact r02_2 w o a b c k n hn hk.1 hk.2 h0 h1 e1
    · exact r02_3 w o a b c k n hn hk.1 hk.2 h0 h1 e1
    · exact r02_4 w o a b c k n hn hk.1 hk.2 h0 h1 e1
    · exact r02_5 w o a b c k n hn hk.1 hk.2 h0 h1 e1
    · exact r02_6 w o a b c k n hn hk.1 hk.2 h0 h1 e1
    · exact r02_7 w o a b c k n hn hk.1 hk.2 h0 h1 e1
    · exact r02_8 w o a b c k n hn hk.1 hk.2 h0 h1 e1
  · unfold R2
    rw [right_out h]
    have hem : opName o = [] := by unfold opName; rw [if_neg h]
    have HE := Lib.hid hem
    clear hem
    go_enter Tryd.func16, Tryd.ntmps16
    go_wp2_with fail
    refine (name2_any _ o).mono ?_
    rintro e w1 ⟨sn, sf, hsn, hsf, rfl, hb⟩
    have hse : sn.toList.isEmpty = true := by rw [ByteArray.toList_eq, hsn, HE.out]; rfl
    have HB := Lib.hid (((Below.refl w.heap.size w).alloc (Nat.le_refl _) _).trans (hb.mono (by simp)))
    clear hb
    go_wp2_with fail
    go_ret
    exact ⟨rfl, HB.out⟩
end Go.Proofs.YtlopmejmionnpaaDoor.As
