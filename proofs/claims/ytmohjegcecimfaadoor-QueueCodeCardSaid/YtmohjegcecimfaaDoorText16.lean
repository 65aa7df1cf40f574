/- The walks of the package deadlatchref16: the lines of its calls. -/
import Derived.Test.YtmohjegcecimfaaDoorText15
import Derived.Test.YtmohjegcecimfaaDoorQueP
set_option linter.unusedVariables false
set_option linter.unusedSimpArgs false
set_option maxRecDepth 20000
namespace Go.Proofs.YtmohjegcecimfaaDoor.As
open Go.RowKit

theorem dec_bytes (n : Nat) (hn : n ≤ 1000000000) : ∃ p : ByteArray, p = ⟨(decB n).toArray⟩ ∧ p.size ≤ 10 ∧ p.data.toList = decB n :=
  ⟨⟨(decB n).toArray⟩, rfl, decB_len 9 n (by omega), rfl⟩
/-- A word is put in. -/
theorem put_any (w : World) (s word p : ByteArray) (S : B8) (n : Nat) (hn : n ≤ 1000000000) (m : Nat) (hs : s.data.toList = S) (hm : s.size ≤ m) (hm2 : m ≤ 100000000000000) (hp : p.data.toList = decB n) (hz : p.size ≤ 10) (hw0 : 1 ≤ word.size) (hw1 : word.size ≤ 10) :
    Calls Tryd.prog 63 #[.string s, .string word, .string p] w fun e w' => (∃ o : ByteArray, e = .returned (.string o) ∧ o.data.toList = subB word.data.toList (decB n) S ∧ o.size ≤ 10 * m) ∧ Below w.heap.size w w' := by
  refine (sub16_any w s word p (by omega) hw0 hw1 hz).mono ?_
  rintro e w' ⟨⟨o, rfl, ho⟩, k, rfl⟩
  rw [hs, hp] at ho
  refine ⟨⟨o, rfl, ho, ?_⟩, bl_drewN (Below.refl _ w) k⟩
  rw [size_toList, ho]
  have h1 : S.length ≤ m := by rw [← hs, ← size_toList]; exact hm
  have h2 : (decB n).length ≤ 10 := by rw [← hp, ← size_toList]; exact hz
  exact Nat.le_trans (subB_len _ _ (by rw [← size_toList]; exact hw0) h2 S.length S (Nat.le_refl _)) (by omega)

set_option maxHeartbeats 4000000 in
theorem text16_McsIn (w : World) (base th t : Nat) (hb : base ≤ 100000) (hth : th ≤ 100) (ht : t ≤ 100) : Calls Tryd.prog 34 #[.int .i64 4, .int .i64 1, .int .i64 th, .int .i64 t, .int .i64 base] w (TextPost w (unl (midMcsIn base th t))) := by
  have q0 : IntKind.i64.wrap ((base : Int) + 2) = ((base : Int) + 2) := by rw [IntKind.wrap_i64]; omega
  have q1 : IntKind.i64.wrap ((base : Int) + 2 + (t : Int)) = ((base : Int) + 2 + (t : Int)) := by rw [IntKind.wrap_i64]; omega
  have q2 : IntKind.i64.wrap ((base : Int) + 2 + (th : Int)) = ((base : Int) + 2 + (th : Int)) := by rw [IntKind.wrap_i64]; omega
  have q3 : IntKind.i64.wrap ((base : Int) + 2 + (th : Int) + (t : Int)) = ((base : Int) + 2 + (th : Int) + (t : Int)) := by rw [IntKind.wrap_i64]; omega
  have q4 : IntKind.i64.wrap ((base : Int) + 1) = ((base : Int) + 1) := by rw [IntKind.wrap_i64]; omega
  have q5 : IntKind.i64.wrap ((base : Int) + 1 + (th : Int)) = ((base : Int) + 1 + (th : Int)) := by rw [IntKind.wrap_i64]; omega
  have q6 : IntKind.i64.wrap ((base : Int) + 3) = ((base : Int) + 3) := by rw [IntKind.wrap_i64]; omega
  have q7 : IntKind.i64.wrap ((base : Int) + 3 + (th : Int)) = ((base : Int) + 3 + (th : Int)) := by rw [IntKind.wrap_i64]; omega
  have q8 : IntKind.i64.wrap ((base : Int) + 3 + (th : Int) + (t : Int)) = ((base : Int) + 3 + (th : Int) + (t : Int)) := by rw [IntKind.wrap_i64]; omega
  have q9 : IntKind.i64.wrap (2 * (th : Int)) = (2 * (th : Int)) := by rw [IntKind.wrap_i64]; omega
  have q10 : IntKind.i64.wrap ((base : Int) + 3 + 2 * (th : Int)) = ((base : Int) + 3 + 2 * (th : Int)) := by rw [IntKind.wrap_i64]; omega
  have q11 : IntKind.i64.wrap ((base : Int) + 3 + 2 * (th : Int) + (t : Int)) = ((base : Int) + 3 + 2 * (th : Int) + (t : Int)) := by rw [IntKind.wrap_i64]; omega
  go_enter Tryd.func34, Tryd.ntmps34
  go_wp2_with fail
  refine (claim15_any _ _ (by decide)).mono ?_; rintro e w1 ⟨⟨o1, rfl, ho1⟩, hb1⟩
  have z1 : o1.size ≤ 2000 := by (rw [size_toList, ho1]; decide)
  go_wp2_with fail
  refine (end15_any _).mono ?_; rintro e w2 ⟨⟨o2, rfl, ho2⟩, hb2⟩
  have z2 : o2.size ≤ 2000 := by (rw [size_toList, ho2]; decide)
  have B2 := hb1.trans (hb2.mono hb1.size)
  go_wp2_with fail
  obtain ⟨p0, hp0, zp0, lp0⟩ := dec_bytes (base + 2 + t) (by omega)
  refine (show Calls _ _ #[.int .i64 ((base + 2 + t : Nat) : Int)] _ _ from (num15_any (base + 2 + t) _ (by omega)).mono ?_); rintro e w3 ⟨rfl, hb3⟩
  rw [← hp0]
  clear hp0
  have B3 := B2.trans (hb3.mono B2.size)
  go_wp2_with fail
  refine (put_any _ _ _ _ (unl srcMcsIn) (base + 2 + t) (by omega) 10000 (by (simp only [app_toList, ho1, ho2]; rfl)) (by (rw [size_toList]; simp only [app_toList, ho1, ho2]; decide)) (by omega) lp0 zp0 (by decide) (by decide)).mono ?_; rintro e w4 ⟨⟨s0, rfl, hs0, zs0⟩, hb4⟩
  have B4 := B3.trans (hb4.mono B3.size)
  go_wp2_with fail
  obtain ⟨p1, hp1, zp1, lp1⟩ := dec_bytes (base + 2 + th + t) (by omega)
  refine (show Calls _ _ #[.int .i64 ((base + 2 + th + t : Nat) : Int)] _ _ from (num15_any (base + 2 + th + t) _ (by omega)).mono ?_); rintro e w5 ⟨rfl, hb5⟩
  rw [← hp1]
  clear hp1
  have B5 := B4.trans (hb5.mono B4.size)
  go_wp2_with fail
  refine (put_any _ _ _ _ _ (base + 2 + th + t) (by omega) _ hs0 zs0 (by omega) lp1 zp1 (by decide) (by decide)).mono ?_; rintro e w6 ⟨⟨s1, rfl, hs1, zs1⟩, hb6⟩
  have B6 := B5.trans (hb6.mono B5.size)
  go_wp2_with fail
  obtain ⟨p2, hp2, zp2, lp2⟩ := dec_bytes (base + 1) (by omega)
  refine (show Calls _ _ #[.int .i64 ((base + 1 : Nat) : Int)] _ _ from (num15_any (base + 1) _ (by omega)).mono ?_); rintro e w7 ⟨rfl, hb7⟩
  rw [← hp2]
  clear hp2
  have B7 := B6.trans (hb7.mono B6.size)
  go_wp2_with fail
  refine (put_any _ _ _ _ _ (base + 1) (by omega) _ hs1 zs1 (by omega) lp2 zp2 (by decide) (by decide)).mono ?_; rintro e w8 ⟨⟨s2, rfl, hs2, zs2⟩, hb8⟩
  have B8 := B7.trans (hb8.mono B7.size)
  go_wp2_with fail
  obtain ⟨p3, hp3, zp3, lp3⟩ := dec_bytes (base + 1 + th) (by omega)
  refine (show Calls _ _ #[.int .i64 ((base + 1 + th : Nat) : Int)] _ _ from (num15_any (base + 1 + th) _ (by omega)).mono ?_); rintro e w9 ⟨rfl, hb9⟩
  rw [← hp3]
  clear hp3
  have B9 := B8.trans (hb9.mono B8.size)
  go_wp2_with fail
  refine (put_any _ _ _ _ _ (base + 1 + th) (by omega) _ hs2 zs2 (by omega) lp3 zp3 (by decide) (by decide)).mono ?_; rintro e w10 ⟨⟨s3, rfl, hs3, zs3⟩, hb10⟩
  have B10 := B9.trans (hb10.mono B9.size)
  go_wp2_with fail
  obtain ⟨p4, hp4, zp4, lp4⟩ := dec_bytes (base + 2) (by omega)
  refine (show Calls _ _ #[.int .i64 ((base + 2 : Nat) : Int)] _ _ from (num15_any (base + 2) _ (by omega)).mono ?_); rintro e w11 ⟨rfl, hb11⟩
  rw [← hp4]
  clear hp4
  have B11 := B10.trans (hb11.mono B10.size)
  go_wp2_with fail
  refine (put_any _ _ _ _ _ (base + 2) (by omega) _ hs3 zs3 (by omega) lp4 zp4 (by decide) (by decide)).mono ?_; rintro e w12 ⟨⟨s4, rfl, hs4, zs4⟩, hb12⟩
  have B12 := B11.trans (hb12.mono B11.size)
  go_wp2_with fail
  obtain ⟨p5, hp5, zp5, lp5⟩ := dec_bytes (base + 3 + th + t) (by omega)
  refine (show Calls _ _ #[.int .i64 ((base + 3 + th + t : Nat) : Int)] _ _ from (num15_any (base + 3 + th + t) _ (by omega)).mono ?_); rintro e w13 ⟨rfl, hb13⟩
  rw [← hp5]
  clear hp5
  have B13 := B12.trans (hb13.mono B12.size)
  go_wp2_with fail
  refine (put_any _ _ _ _ _ (base + 3 + th + t) (by omega) _ hs4 zs4 (by omega) lp5 zp5 (by decide) (by decide)).mono ?_; rintro e w14 ⟨⟨s5, rfl, hs5, zs5⟩, hb14⟩
  have B14 := B13.trans (hb14.mono B13.size)
  go_wp2_with fail
  obtain ⟨p6, hp6, zp6, lp6⟩ := dec_bytes (base + 3 + 2 * th + t) (by omega)
  refine (show Calls _ _ #[.int .i64 ((base + 3 + 2 * th + t : Nat) : Int)] _ _ from (num15_any (base + 3 + 2 * th + t) _ (by omega)).mono ?_); rintro e w15 ⟨rfl, hb15⟩
  rw [← hp6]
  clear hp6
  have B15 := B14.trans (hb15.mono B14.size)
  go_wp2_with fail
  refine (put_any _ _ _ _ _ (base + 3 + 2 * th + t) (by omega) _ hs5 zs5 (by omega) lp6 zp6 (by decide) (by decide)).mono ?_; rintro e w16 ⟨⟨s6, rfl, hs6, zs6⟩, hb16⟩
  have B16 := B15.trans (hb16.mono B15.size)
  go_wp2_with fail
  go_ret
  exact ⟨⟨_, rfl, hs6.trans (putMcsIn base th t)⟩, B16⟩

set_option maxHeartbeats 4000000 in
theorem text16_McsOut (w : World) (base th t : Nat) (hb : base ≤ 100000) (hth : th ≤ 100) (ht : t ≤ 100) : Calls Tryd.prog 34 #[.int .i64 4, .int .i64 2, .int .i64 th, .int .i64 t, .int .i64 base] w (TextPost w (unl (midMcsOut base th t))) := by
  have q0 : IntKind.i64.wrap ((base : Int) + 2) = ((base : Int) + 2) := by rw [IntKind.wrap_i64]; omega
  have q1 : IntKind.i64.wrap ((base : Int) + 2 + (t : Int)) = ((base : Int) + 2 + (t : Int)) := by rw [IntKind.wrap_i64]; omega
  have q2 : IntKind.i64.wrap ((base : Int) + 2 + (th : Int)) = ((base : Int) + 2 + (th : Int)) := by rw [IntKind.wrap_i64]; omega
  have q3 : IntKind.i64.wrap ((base : Int) + 2 + (th : Int) + (t : Int)) = ((base : Int) + 2 + (th : Int) + (t : Int)) := by rw [IntKind.wrap_i64]; omega
  have q4 : IntKind.i64.wrap ((base : Int) + 1) = ((base : Int) + 1) := by rw [IntKind.wrap_i64]; omega
  have q5 : IntKind.i64.wrap ((base : Int) + 1 + (th : Int)) = ((base : Int) + 1 + (th : Int)) := by rw [IntKind.wrap_i64]; omega
  have q6 : IntKind.i64.wrap ((base : Int) + 3) = ((base : Int) + 3) := by rw [IntKind.wrap_i64]; omega
  have q7 : IntKind.i64.wrap ((base : Int) + 3 + (th : Int)) = ((base : Int) + 3 + (th : Int)) := by rw [IntKind.wrap_i64]; omega
  have q8 : IntKind.i64.wrap ((base : Int) + 3 + (th : Int) + (t : Int)) = ((base : Int) + 3 + (th : Int) + (t : Int)) := by rw [IntKind.wrap_i64]; omega
  have q9 : IntKind.i64.wrap (2 * (th : Int)) = (2 * (th : Int)) := by rw [IntKind.wrap_i64]; omega
  have q10 : IntKind.i64.wrap ((base : Int) + 3 + 2 * (th : Int)) = ((base : Int) + 3 + 2 * (th : Int)) := by rw [IntKind.wrap_i64]; omega
  have q11 : IntKind.i64.wrap ((base : Int) + 3 + 2 * (th : Int) + (t : Int)) = ((base : Int) + 3 + 2 * (th : Int) + (t : Int)) := by rw [IntKind.wrap_i64]; omega
  go_enter Tryd.func34, Tryd.ntmps34
  go_wp2_with fail
  refine (prove15_any _ _ (by decide)).mono ?_; rintro e w1 ⟨⟨o1, rfl, ho1⟩, hb1⟩
  have z1 : o1.size ≤ 2000 := by (rw [size_toList, ho1]; decide)
  go_wp2_with fail
  refine (end15_any _).mono ?_; rintro e w2 ⟨⟨o2, rfl, ho2⟩, hb2⟩
  have z2 : o2.size ≤ 2000 := by (rw [size_toList, ho2]; decide)
  have B2 := hb1.trans (hb2.mono hb1.size)
  go_wp2_with fail
  obtain ⟨p0, hp0, zp0, lp0⟩ := dec_bytes (base + 2 + t) (by omega)
  refine (show Calls _ _ #[.int .i64 ((base + 2 + t : Nat) : Int)] _ _ from (num15_any (base + 2 + t) _ (by omega)).mono ?_); rintro e w3 ⟨rfl, hb3⟩
  rw [← hp0]
  clear hp0
  have B3 := B2.trans (hb3.mono B2.size)
  go_wp2_with fail
  refine (put_any _ _ _ _ (unl srcMcsOut) (base + 2 + t) (by omega) 10000 (by (simp only [app_toList, ho1, ho2]; rfl)) (by (rw [size_toList]; simp only [app_toList, ho1, ho2]; decide)) (by omega) lp0 zp0 (by decide) (by decide)).mono ?_; rintro e w4 ⟨⟨s0, rfl, hs0, zs0⟩, hb4⟩
  have B4 := B3.trans (hb4.mono B3.size)
  go_wp2_with fail
  obtain ⟨p1, hp1, zp1, lp1⟩ := dec_bytes (base + 2 + th + t) (by omega)
  refine (show Calls _ _ #[.int .i64 ((base + 2 + th + t : Nat) : Int)] _ _ from (num15_any (base + 2 + th + t) _ (by omega)).mono ?_); rintro e w5 ⟨rfl, hb5⟩
  rw [← hp1]
  clear hp1
  have B5 := B4.trans (hb5.mono B4.size)
  go_wp2_with fail
  refine (put_any _ _ _ _ _ (base + 2 + th + t) (by omega) _ hs0 zs0 (by omega) lp1 zp1 (by decide) (by decide)).mono ?_; rintro e w6 ⟨⟨s1, rfl, hs1, zs1⟩, hb6⟩
  have B6 := B5.trans (hb6.mono B5.size)
  go_wp2_with fail
  obtain ⟨p2, hp2, zp2, lp2⟩ := dec_bytes (base + 1) (by omega)
  refine (show Calls _ _ #[.int .i64 ((base + 1 : Nat) : Int)] _ _ from (num15_any (base + 1) _ (by omega)).mono ?_); rintro e w7 ⟨rfl, hb7⟩
  rw [← hp2]
  clear hp2
  have B7 := B6.trans (hb7.mono B6.size)
  go_wp2_with fail
  refine (put_any _ _ _ _ _ (base + 1) (by omega) _ hs1 zs1 (by omega) lp2 zp2 (by decide) (by decide)).mono ?_; rintro e w8 ⟨⟨s2, rfl, hs2, zs2⟩, hb8⟩
  have B8 := B7.trans (hb8.mono B7.size)
  go_wp2_with fail
  obtain ⟨p3, hp3, zp3, lp3⟩ := dec_bytes (base + 1 + th) (by omega)
  refine (show Calls _ _ #[.int .i64 ((base + 1 + th : Nat) : Int)] _ _ from (num15_any (base + 1 + th) _ (by omega)).mono ?_); rintro e w9 ⟨rfl, hb9⟩
  rw [← hp3]
  clear hp3
  have B9 := B8.trans (hb9.mono B8.size)
  go_wp2_with fail
  refine (put_any _ _ _ _ _ (base + 1 + th) (by omega) _ hs2 zs2 (by omega) lp3 zp3 (by decide) (by decide)).mono ?_; rintro e w10 ⟨⟨s3, rfl, hs3, zs3⟩, hb10⟩
  have B10 := B9.trans (hb10.mono B9.size)
  go_wp2_with fail
  obtain ⟨p4, hp4, zp4, lp4⟩ := dec_bytes (base + 2) (by omega)
  refine (show Calls _ _ #[.int .i64 ((base + 2 : Nat) : Int)] _ _ from (num15_any (base + 2) _ (by omega)).mono ?_); rintro e w11 ⟨rfl, hb11⟩
  rw [← hp4]
  clear hp4
  have B11 := B10.trans (hb11.mono B10.size)
  go_wp2_with fail
  refine (put_any _ _ _ _ _ (base + 2) (by omega) _ hs3 zs3 (by omega) lp4 zp4 (by decide) (by decide)).mono ?_; rintro e w12 ⟨⟨s4, rfl, hs4, zs4⟩, hb12⟩
  have B12 := B11.trans (hb12.mono B11.size)
  go_wp2_with fail
  obtain ⟨p5, hp5, zp5, lp5⟩ := dec_bytes (base + 3 + th + t) (by omega)
  refine (show Calls _ _ #[.int .i64 ((base + 3 + th + t : Nat) : Int)] _ _ from (num15_any (base + 3 + th + t) _ (by omega)).mono ?_); rintro e w13 ⟨rfl, hb13⟩
  rw [← hp5]
  clear hp5
  have B13 := B12.trans (hb13.mono B12.size)
  go_wp2_with fail
  refine (put_any _ _ _ _ _ (base + 3 + th + t) (by omega) _ hs4 zs4 (by omega) lp5 zp5 (by decide) (by decide)).mono ?_; rintro e w14 ⟨⟨s5, rfl, hs5, zs5⟩, hb14⟩
  have B14 := B13.trans (hb14.mono B13.size)
  go_wp2_with fail
  obtain ⟨p6, hp6, zp6, lp6⟩ := dec_bytes (base + 3 + 2 * th + t) (by omega)
  refine (show Calls _ _ #[.int .i64 ((base + 3 + 2 * th + t : Nat) : Int)] _ _ from (num15_any (base + 3 + 2 * th + t) _ (by omega)).mono ?_); rintro e w15 ⟨rfl, hb15⟩
  rw [← hp6]
  clear hp6
  have B15 := B14.trans (hb15.mono B14.size)
  go_wp2_with fail
  refine (put_any _ _ _ _ _ (base + 3 + 2 * th + t) (by omega) _ hs5 zs5 (by omega) lp6 zp6 (by decide) (by decide)).mono ?_; rintro e w16 ⟨⟨s6, rfl, hs6, zs6⟩, hb16⟩
  have B16 := B15.trans (hb16.mono B15.size)
  go_wp2_with fail
  go_ret
  exact ⟨⟨_, rfl, hs6.trans (putMcsOut base th t)⟩, B16⟩

set_option maxHeartbeats 4000000 in
theorem text16_ClhIn (w : World) (base th t : Nat) (hb : base ≤ 100000) (hth : th ≤ 100) (ht : t ≤ 100) : Calls Tryd.prog 34 #[.int .i64 5, .int .i64 1, .int .i64 th, .int .i64 t, .int .i64 base] w (TextPost w (unl (midClhIn base th t))) := by
  have q0 : IntKind.i64.wrap ((base : Int) + 2) = ((base : Int) + 2) := by rw [IntKind.wrap_i64]; omega
  have q1 : IntKind.i64.wrap ((base : Int) + 2 + (t : Int)) = ((base : Int) + 2 + (t : Int)) := by rw [IntKind.wrap_i64]; omega
  have q2 : IntKind.i64.wrap ((base : Int) + 2 + (th : Int)) = ((base : Int) + 2 + (th : Int)) := by rw [IntKind.wrap_i64]; omega
  have q3 : IntKind.i64.wrap ((base : Int) + 2 + (th : Int) + (t : Int)) = ((base : Int) + 2 + (th : Int) + (t : Int)) := by rw [IntKind.wrap_i64]; omega
  have q4 : IntKind.i64.wrap ((base : Int) + 1) = ((base : Int) + 1) := by rw [IntKind.wrap_i64]; omega
  have q5 : IntKind.i64.wrap ((base : Int) + 1 + (th : Int)) = ((base : Int) + 1 + (th : Int)) := by rw [IntKind.wrap_i64]; omega
  have q6 : IntKind.i64.wrap ((base : Int) + 3) = ((base : Int) + 3) := by rw [IntKind.wrap_i64]; omega
  have q7 : IntKind.i64.wrap ((base : Int) + 3 + (th : Int)) = ((base : Int) + 3 + (th : Int)) := by rw [IntKind.wrap_i64]; omega
  have q8 : IntKind.i64.wrap ((base : Int) + 3 + (th : Int) + (t : Int)) = ((base : Int) + 3 + (th : Int) + (t : Int)) := by rw [IntKind.wrap_i64]; omega
  have q9 : IntKind.i64.wrap (2 * (th : Int)) = (2 * (th : Int)) := by rw [IntKind.wrap_i64]; omega
  have q10 : IntKind.i64.wrap ((base : Int) + 3 + 2 * (th : Int)) = ((base : Int) + 3 + 2 * (th : Int)) := by rw [IntKind.wrap_i64]; omega
  have q11 : IntKind.i64.wrap ((base : Int) + 3 + 2 * (th : Int) + (t : Int)) = ((base : Int) + 3 + 2 * (th : Int) + (t : Int)) := by rw [IntKind.wrap_i64]; omega
  go_enter Tryd.func34, Tryd.ntmps34
  go_wp2_with fail
  refine (claim15_any _ _ (by decide)).mono ?_; rintro e w1 ⟨⟨o1, rfl, ho1⟩, hb1⟩
  have z1 : o1.size ≤ 2000 := by (rw [size_toList, ho1]; decide)
  go_wp2_with fail
  refine (end15_any _).mono ?_; rintro e w2 ⟨⟨o2, rfl, ho2⟩, hb2⟩
  have z2 : o2.size ≤ 2000 := by (rw [size_toList, ho2]; decide)
  have B2 := hb1.trans (hb2.mono hb1.size)
  go_wp2_with fail
  obtain ⟨p0, hp0, zp0, lp0⟩ := dec_bytes (base + 2 + t) (by omega)
  refine (show Calls _ _ #[.int .i64 ((base + 2 + t : Nat) : Int)] _ _ from (num15_any (base + 2 + t) _ (by omega)).mono ?_); rintro e w3 ⟨rfl, hb3⟩
  rw [← hp0]
  clear hp0
  have B3 := B2.trans (hb3.mono B2.size)
  go_wp2_with fail
  refine (put_any _ _ _ _ (unl srcClhIn) (base + 2 + t) (by omega) 10000 (by (simp only [app_toList, ho1, ho2]; rfl)) (by (rw [size_toList]; simp only [app_toList, ho1, ho2]; decide)) (by omega) lp0 zp0 (by decide) (by decide)).mono ?_; rintro e w4 ⟨⟨s0, rfl, hs0, zs0⟩, hb4⟩
  have B4 := B3.trans (hb4.mono B3.size)
  go_wp2_with fail
  obtain ⟨p1, hp1, zp1, lp1⟩ := dec_bytes (base + 2 + th + t) (by omega)
  refine (show Calls _ _ #[.int .i64 ((base + 2 + th + t : Nat) : Int)] _ _ from (num15_any (base + 2 + th + t) _ (by omega)).mono ?_); rintro e w5 ⟨rfl, hb5⟩
  rw [← hp1]
  clear hp1
  have B5 := B4.trans (hb5.mono B4.size)
  go_wp2_with fail
  refine (put_any _ _ _ _ _ (base + 2 + th + t) (by omega) _ hs0 zs0 (by omega) lp1 zp1 (by decide) (by decide)).mono ?_; rintro e w6 ⟨⟨s1, rfl, hs1, zs1⟩, hb6⟩
  have B6 := B5.trans (hb6.mono B5.size)
  go_wp2_with fail
  obtain ⟨p2, hp2, zp2, lp2⟩ := dec_bytes (base + 1) (by omega)
  refine (show Calls _ _ #[.int .i64 ((base + 1 : Nat) : Int)] _ _ from (num15_any (base + 1) _ (by omega)).mono ?_); rintro e w7 ⟨rfl, hb7⟩
  rw [← hp2]
  clear hp2
  have B7 := B6.trans (hb7.mono B6.size)
  go_wp2_with fail
  refine (put_any _ _ _ _ _ (base + 1) (by omega) _ hs1 zs1 (by omega) lp2 zp2 (by decide) (by decide)).mono ?_; rintro e w8 ⟨⟨s2, rfl, hs2, zs2⟩, hb8⟩
  have B8 := B7.trans (hb8.mono B7.size)
  go_wp2_with fail
  obtain ⟨p3, hp3, zp3, lp3⟩ := dec_bytes (base + 1 + th) (by omega)
  refine (show Calls _ _ #[.int .i64 ((base + 1 + th : Nat) : Int)] _ _ from (num15_any (base + 1 + th) _ (by omega)).mono ?_); rintro e w9 ⟨rfl, hb9⟩
  rw [← hp3]
  clear hp3
  have B9 := B8.trans (hb9.mono B8.size)
  go_wp2_with fail
  refine (put_any _ _ _ _ _ (base + 1 + th) (by omega) _ hs2 zs2 (by omega) lp3 zp3 (by decide) (by decide)).mono ?_; rintro e w10 ⟨⟨s3, rfl, hs3, zs3⟩, hb10⟩
  have B10 := B9.trans (hb10.mono B9.size)
  go_wp2_with fail
  obtain ⟨p4, hp4, zp4, lp4⟩ := dec_bytes (base + 2) (by omega)
  refine (show Calls _ _ #[.int .i64 ((base + 2 : Nat) : Int)] _ _ from (num15_any (base + 2) _ (by omega)).mono ?_); rintro e w11 ⟨rfl, hb11⟩
  rw [← hp4]
  clear hp4
  have B11 := B10.trans (hb11.mono B10.size)
  go_wp2_with fail
  refine (put_any _ _ _ _ _ (base + 2) (by omega) _ hs3 zs3 (by omega) lp4 zp4 (by decide) (by decide)).mono ?_; rintro e w12 ⟨⟨s4, rfl, hs4, zs4⟩, hb12⟩
  have B12 := B11.trans (hb12.mono B11.size)
  go_wp2_with fail
  obtain ⟨p5, hp5, zp5, lp5⟩ := dec_bytes (base + 3 + th + t) (by omega)
  refine (show Calls _ _ #[.int .i64 ((base + 3 + th + t : Nat) : Int)] _ _ from (num15_any (base + 3 + th + t) _ (by omega)).mono ?_); rintro e w13 ⟨rfl, hb13⟩
  rw [← hp5]
  clear hp5
  have B13 := B12.trans (hb13.mono B12.size)
  go_wp2_with fail
  refine (put_any _ _ _ _ _ (base + 3 + th + t) (by omega) _ hs4 zs4 (by omega) lp5 zp5 (by decide) (by decide)).mono ?_; rintro e w14 ⟨⟨s5, rfl, hs5, zs5⟩, hb14⟩
  have B14 := B13.trans (hb14.mono B13.size)
  go_wp2_with fail
  obtain ⟨p6, hp6, zp6, lp6⟩ := dec_bytes (base + 3 + 2 * th + t) (by omega)
  refine (show Calls _ _ #[.int .i64 ((base + 3 + 2 * th + t : Nat) : Int)] _ _ from (num15_any (base + 3 + 2 * th + t) _ (by omega)).mono ?_); rintro e w15 ⟨rfl, hb15⟩
  rw [← hp6]
  clear hp6
  have B15 := B14.trans (hb15.mono B14.size)
  go_wp2_with fail
  refine (put_any _ _ _ _ _ (base + 3 + 2 * th + t) (by omega) _ hs5 zs5 (by omega) lp6 zp6 (by decide) (by decide)).mono ?_; rintro e w16 ⟨⟨s6, rfl, hs6, zs6⟩, hb16⟩
  have B16 := B15.trans (hb16.mono B15.size)
  go_wp2_with fail
  go_ret
  exact ⟨⟨_, rfl, hs6.trans (putClhIn base th t)⟩, B16⟩

set_option maxHeartbeats 4000000 in
theorem text16_ClhOut (w : World) (base th t : Nat) (hb : base ≤ 100000) (hth : th ≤ 100) (ht : t ≤ 100) : Calls Tryd.prog 34 #[.int .i64 5, .int .i64 2, .int .i64 th, .int .i64 t, .int .i64 base] w (TextPost w (unl (midClhOut base th t))) := by
  have q0 : IntKind.i64.wrap ((base : Int) + 2) = ((base : Int) + 2) := by rw [IntKind.wrap_i64]; omega
  have q1 : IntKind.i64.wrap ((base : Int) + 2 + (t : Int)) = ((base : Int) + 2 + (t : Int)) := by rw [IntKind.wrap_i64]; omega
  have q2 : IntKind.i64.wrap ((base : Int) + 2 + (th : Int)) = ((base : Int) + 2 + (th : Int)) := by rw [IntKind.wrap_i64]; omega
  have q3 : IntKind.i64.wrap ((base : Int) + 2 + (th : Int) + (t : Int)) = ((base : Int) + 2 + (th : Int) + (t : Int)) := by rw [IntKind.wrap_i64]; omega
  have q4 : IntKind.i64.wrap ((base : Int) + 1) = ((base : Int) + 1) := by rw [IntKind.wrap_i64]; omega
  have q5 : IntKind.i64.wrap ((base : Int) + 1 + (th : Int)) = ((base : Int) + 1 + (th : Int)) := by rw [IntKind.wrap_i64]; omega
  have q6 : IntKind.i64.wrap ((base : Int) + 3) = ((base : Int) + 3) := by rw [IntKind.wrap_i64]; omega
  have q7 : IntKind.i64.wrap ((base : Int) + 3 + (th : Int)) = ((base : Int) + 3 + (th : Int)) := by rw [IntKind.wrap_i64]; omega
  have q8 : IntKind.i64.wrap ((base : Int) + 3 + (th : Int) + (t : Int)) = ((base : Int) + 3 + (th : Int) + (t : Int)) := by rw [IntKind.wrap_i64]; omega
  have q9 : IntKind.i64.wrap (2 * (th : Int)) = (2 * (th : Int)) := by rw [IntKind.wrap_i64]; omega
  have q10 : IntKind.i64.wrap ((base : Int) + 3 + 2 * (th : Int)) = ((base : Int) + 3 + 2 * (th : Int)) := by rw [IntKind.wrap_i64]; omega
  have q11 : IntKind.i64.wrap ((base : Int) + 3 + 2 * (th : Int) + (t : Int)) = ((base : Int) + 3 + 2 * (th : Int) + (t : Int)) := by rw [IntKind.wrap_i64]; omega
  go_enter Tryd.func34, Tryd.ntmps34
  go_wp2_with fail
  refine (prove15_any _ _ (by decide)).mono ?_; rintro e w1 ⟨⟨o1, rfl, ho1⟩, hb1⟩
  have z1 : o1.size ≤ 2000 := by (rw [size_toList, ho1]; decide)
  go_wp2_with fail
  refine (end15_any _).mono ?_; rintro e w2 ⟨⟨o2, rfl, ho2⟩, hb2⟩
  have z2 : o2.size ≤ 2000 := by (rw [size_toList, ho2]; decide)
  have B2 := hb1.trans (hb2.mono hb1.size)
  go_wp2_with fail
  obtain ⟨p0, hp0, zp0, lp0⟩ := dec_bytes (base + 2 + t) (by omega)
  refine (show Calls _ _ #[.int .i64 ((base + 2 + t : Nat) : Int)] _ _ from (num15_any (base + 2 + t) _ (by omega)).mono ?_); rintro e w3 ⟨rfl, hb3⟩
  rw [← hp0]
  clear hp0
  have B3 := B2.trans (hb3.mono B2.size)
  go_wp2_with fail
  refine (put_any _ _ _ _ (unl srcClhOut) (base + 2 + t) (by omega) 10000 (by (simp only [app_toList, ho1, ho2]; rfl)) (by (rw [size_toList]; simp only [app_toList, ho1, ho2]; decide)) (by omega) lp0 zp0 (by decide) (by decide)).mono ?_; rintro e w4 ⟨⟨s0, rfl, hs0, zs0⟩, hb4⟩
  have B4 := B3.trans (hb4.mono B3.size)
  go_wp2_with fail
  obtain ⟨p1, hp1, zp1, lp1⟩ := dec_bytes (base + 2 + th + t) (by omega)
  refine (show Calls _ _ #[.int .i64 ((base + 2 + th + t : Nat) : Int)] _ _ from (num15_any (base + 2 + th + t) _ (by omega)).mono ?_); rintro e w5 ⟨rfl, hb5⟩
  rw [← hp1]
  clear hp1
  have B5 := B4.trans (hb5.mono B4.size)
  go_wp2_with fail
  refine (put_any _ _ _ _ _ (base + 2 + th + t) (by omega) _ hs0 zs0 (by omega) lp1 zp1 (by decide) (by decide)).mono ?_; rintro e w6 ⟨⟨s1, rfl, hs1, zs1⟩, hb6⟩
  have B6 := B5.trans (hb6.mono B5.size)
  go_wp2_with fail
  obtain ⟨p2, hp2, zp2, lp2⟩ := dec_bytes (base + 1) (by omega)
  refine (show Calls _ _ #[.int .i64 ((base + 1 : Nat) : Int)] _ _ from (num15_any (base + 1) _ (by omega)).mono ?_); rintro e w7 ⟨rfl, hb7⟩
  rw [← hp2]
  clear hp2
  have B7 := B6.trans (hb7.mono B6.size)
  go_wp2_with fail
  refine (put_any _ _ _ _ _ (base + 1) (by omega) _ hs1 zs1 (by omega) lp2 zp2 (by decide) (by decide)).mono ?_; rintro e w8 ⟨⟨s2, rfl, hs2, zs2⟩, hb8⟩
  have B8 := B7.trans (hb8.mono B7.size)
  go_wp2_with fail
  obtain ⟨p3, hp3, zp3, lp3⟩ := dec_bytes (base + 1 + th) (by omega)
  refine (show Calls _ _ #[.int .i64 ((base + 1 + th : Nat) : Int)] _ _ from (num15_any (base + 1 + th) _ (by omega)).mono ?_); rintro e w9 ⟨rfl, hb9⟩
  rw [← hp3]
  clear hp3
  have B9 := B8.trans (hb9.mono B8.size)
  go_wp2_with fail
  refine (put_any _ _ _ _ _ (base + 1 + th) (by omega) _ hs2 zs2 (by omega) lp3 zp3 (by decide) (by decide)).mono ?_; rintro e w10 ⟨⟨s3, rfl, hs3, zs3⟩, hb10⟩
  have B10 := B9.trans (hb10.mono B9.size)
  go_wp2_with fail
  obtain ⟨p4, hp4, zp4, lp4⟩ := dec_bytes (base + 2) (by omega)
  refine (show Calls _ _ #[.int .i64 ((base + 2 : Nat) : Int)] _ _ from (num15_any (base + 2) _ (by omega)).mono ?_); rintro e w11 ⟨rfl, hb11⟩
  rw [← hp4]
  clear hp4
  have B11 := B10.trans (hb11.mono B10.size)
  go_wp2_with fail
  refine (put_any _ _ _ _ _ (base + 2) (by omega) _ hs3 zs3 (by omega) lp4 zp4 (by decide) (by decide)).mono ?_; rintro e w12 ⟨⟨s4, rfl, hs4, zs4⟩, hb12⟩
  have B12 := B11.trans (hb12.mono B11.size)
  go_wp2_with fail
  obtain ⟨p5, hp5, zp5, lp5⟩ := dec_bytes (base + 3 + th + t) (by omega)
  refine (show Calls _ _ #[.int .i64 ((base + 3 + th + t : Nat) : Int)] _ _ from (num15_any (base + 3 + th + t) _ (by omega)).mono ?_); rintro e w13 ⟨rfl, hb13⟩
  rw [← hp5]
  clear hp5
  have B13 := B12.trans (hb13.mono B12.size)
  go_wp2_with fail
  refine (put_any _ _ _ _ _ (base + 3 + th + t) (by omega) _ hs4 zs4 (by omega) lp5 zp5 (by decide) (by decide)).mono ?_; rintro e w14 ⟨⟨s5, rfl, hs5, zs5⟩, hb14⟩
  have B14 := B13.trans (hb14.mono B13.size)
  go_wp2_with fail
  obtain ⟨p6, hp6, zp6, lp6⟩ := dec_bytes (base + 3 + 2 * th + t) (by omega)
  refine (show Calls _ _ #[.int .i64 ((base + 3 + 2 * th + t : Nat) : Int)] _ _ from (num15_any (base + 3 + 2 * th + t) _ (by omega)).mono ?_); rintro e w15 ⟨rfl, hb15⟩
  rw [← hp6]
  clear hp6
  have B15 := B14.trans (hb15.mono B14.size)
  go_wp2_with fail
  refine (put_any _ _ _ _ _ (base + 3 + 2 * th + t) (by omega) _ hs5 zs5 (by omega) lp6 zp6 (by decide) (by decide)).mono ?_; rintro e w16 ⟨⟨s6, rfl, hs6, zs6⟩, hb16⟩
  have B16 := B15.trans (hb16.mono B15.size)
  go_wp2_with fail
  go_ret
  exact ⟨⟨_, rfl, hs6.trans (putClhOut base th t)⟩, B16⟩

end Go.Proofs.YtmohjegcecimfaaDoor.As
