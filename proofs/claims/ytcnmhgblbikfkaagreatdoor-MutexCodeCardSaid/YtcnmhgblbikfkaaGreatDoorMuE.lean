/- The document's example of the law on mutexes comes to what it should. -/
import Derived.Test.YtcnmhgblbikfkaaGreatDoorMuW
import Derived.Deep.LoopGhost
set_option linter.unusedVariables false
set_option linter.unusedSimpArgs false
set_option maxRecDepth 20000
namespace Go.Proofs.YtcnmhgblbikfkaaGreatDoor.As.T
open Go.RowKit

theorem rowsX {w W : World} (h1 : W.heap[w.heap.size]? = some (.cells #[.int .i64 2] 3 (0, 0))) (h2 : W.heap[w.heap.size + 1]? = some (.cells #[.slice (some ⟨w.heap.size, 0, none⟩) 1 1] 59 (0, 0))) : RowsAt W (w.heap.size + 1) [[2]] := fun t row ht => by
  have ht0 : t = 0 := by have := (List.getElem?_eq_some_iff.1 ht).1; simpa using this
  subst ht0
  obtain rfl : [2] = row := by simpa using ht
  refine ⟨_, cell_of_row _ _ 0 _ _ _ h2, some ⟨w.heap.size, 0, none⟩, 1, rfl, Nat.le_refl _, rfl, .inr ⟨w.heap.size, 0, rfl, (Array.getElem?_eq_some_iff.1 h1).1, fun j u hu => ?_⟩⟩
  match j, hu with
  | 0, hu =>
    obtain rfl : Value.int .i64 2 = u := by simpa using hu
    exact cell_of_row _ _ 0 _ _ _ h1
  | j + 1, hu => simp at hu
set_option maxHeartbeats 16000000 in
theorem awake20_any (w : World) (TI : TabI w) (TO : TabO w) : Calls Tryz.prog 9 #[] w fun e w' => e = .returned (.bool true) ∧ Below w.heap.size w w' := by
  have HTI := Lib.hid TI
  have HTO := Lib.hid TO
  clear TI TO
  go_enter Tryz.func9, Tryz.ntmps9
  go_wp2_with fail
  refine (semOf_any _ 1 1).mono ?_
  rintro r w1 ⟨rfl, hb1⟩
  have HB1 := Lib.hid hb1
  clear hb1
  go_wp2_with fail
  obtain ⟨w2, hw2⟩ : ∃ W, (w1.alloc (.cells #[.int .i64 2] 3)).alloc (.cells #[.slice (some ⟨w1.heap.size, 0, none⟩) 1 1] 59) = W := ⟨_, rfl⟩
  have e1 : (w1.alloc (.cells #[.int .i64 2] 3)).heap.size = w1.heap.size + 1 := by simp
  have hr1 : w2.heap[w1.heap.size]? = some (.cells #[.int .i64 2] 3 (0, 0)) := by rw [← hw2]; exact up_al (heap_alloc_new _ _)
  have hr2 : w2.heap[w1.heap.size + 1]? = some (.cells #[.slice (some ⟨w1.heap.size, 0, none⟩) 1 1] 59 (0, 0)) := by rw [← hw2, ← e1]; exact heap_alloc_new _ _
  have hb2 : Below w.heap.size w w2 := by rw [← hw2]; exact (HB1.out.alloc HB1.out.size _).alloc (by have := HB1.out.size; simp; omega) _
  have hcx := callsX w2 (HTI.out.below hb2 (Nat.le_refl _)) (HTO.out.below hb2 (Nat.le_refl _)) (w1.heap.size + 1) 1 (rowsX hr1 hr2)
  rw [← hw2] at hcx
  refine hcx.mono ?_
  rintro r w3 ⟨gv, pv, gm, pm, rfl, hmv, hcd, hb3⟩
  rw [hw2] at hmv hb3
  have HB3 := Lib.hid (hb2.trans (hb3.mono hb2.size))
  have HMV := Lib.hid hmv
  have HCD := Lib.hid hcd
  clear hcx hmv hcd hb3 hw2 hr1 hr2 HB1 hb2 e1
  go_wp2_with fail
  have hbw3 : ∀ X, Below w.heap.size w (w3.alloc X) := fun X => HB3.out.alloc HB3.out.size X
  have hnew : ∀ X, Calls Tryz.prog 16 #[.agg #[.slice (some ⟨gv, 0, none⟩) 1 pv, .slice (some ⟨gm, 0, none⟩) 17 pm, .int .i64 1]] (w3.alloc X) fun e w' => ∃ (Z : Nat → Prop) (K : TsK), e = .returned (.tuple #[.pointer (some ⟨K.mb, 0, none⟩), .int .i64 0]) ∧ Mch Z w' K codesX (ts0 (mem0 [1]) 1 1) ∧ (∀ k, k < (w3.alloc X).heap.size → Z k) ∧ Below (w3.alloc X).heap.size (w3.alloc X) w' ∧ (mem0 [1]).length ≤ K.mc := by
    intro X
    have h := new_ts (w3.alloc X) (HTI.out.below (hbw3 X) (Nat.le_refl _)) gv pv 1 pm (some ⟨gm, 0, none⟩) (mem0 [1]) codesX (HCD.out.below ((Below.refl _ _).alloc (Nat.le_refl _) _)) (Rd.of_own (own_only HMV.out (on_al (F := fun _ => False) _ _) (fun _ _ f => f))) (by decide) (by decide) (by decide) (by decide) (by decide) (by decide) (fun L hL => ⟨(codesX_ok L hL).2.1, fun x hx => by
      have := (codesX_ok L hL).2.2 x hx
      simp only [okI, Bool.and_eq_true] at this
      exact this.1.1⟩) (fun L hL => (codesX_ok L hL).1)
    exact h
  refine (hnew _).mono ?_
  rintro r w4 ⟨Z, K, rfl, hm4, hz4, hb4, hmc⟩
  have HB4 : Hid (Below w.heap.size w w4) := Lib.hid ((hbw3 _).trans (hb4.mono (hbw3 _).size))
  have HZ : Hid (∀ k, k < w.heap.size → Z k) := Lib.hid (fun k hk => hz4 k (by have := (hbw3 (.cells #[] 45)).size; simp at this ⊢; omega))
  obtain ⟨s0, hs0, _, _, _⟩ := stX_at (i := 0) (by decide)
  have h00 : stX 0 = some (ts0 (mem0 [1]) 1 1) := rfl
  have hk0 : OkS codesX (ts0 (mem0 [1]) 1 1) := ok0 codesX_ok (mem := mem0 [1]) (room := 1) (by decide)
  have HR0 : Hid (stX 0 = some (ts0 (mem0 [1]) 1 1) ∧ Mch Z w4 K codesX (ts0 (mem0 [1]) 1 1) ∧ OkS codesX (ts0 (mem0 [1]) 1 1) ∧ Only (fun k => ¬ Z k) w4 w4) := Lib.hid ⟨h00, hm4, hk0, Only.refl _ _⟩
  clear hnew hbw3 hm4 hz4 hb4 hmc HMV HCD HB3 hs0 h00 hk0
  go_wp2_with fail
  go_loopg [5] 30 (fun g iv wr => ∃ (i : Nat) (sr : Ts), i + g = 30 ∧ iv = .int .i64 i ∧ Hid (stX i = some sr ∧ Mch Z wr K codesX sr ∧ OkS codesX sr ∧ Only (fun k => ¬ Z k) w4 wr))
  case atStart => exact ⟨0, _, by omega, rfl, HR0⟩
  case round =>
    obtain ⟨i, sr, hi, rfl, HR⟩ := hrel
    by_cases hlt : i < 30
    · obtain ⟨g', rfl⟩ : ∃ g', gk = g' + 1 := ⟨gk - 1, by omega⟩
      have hil : (i : Int) < 30 := by omega
      have hwr : wrap64 ((i : Int) + 1) = (i : Int) + 1 := by unfold wrap64; omega
      obtain ⟨s1, hs1, hs2, hs3, hs4⟩ := stX_at (i := i) (by omega)
      obtain rfl : s1 = sr := Option.some.inj (hs1.symm.trans HR.out.1)
      obtain ⟨s2, ht1, _, _, _⟩ := stX_at (i := i + 1) (by omega)
      have hp : s1.pick codesX (0, 0) = some s2 := (stX_succ hs1).symm.trans ht1
      have hpk := pick_ts HR.out.2.1 HR.out.2.2.1 (by omega) (by omega) (by omega) hp
      have HN : Hid (∀ w', TsM Z w' K s2 → Only (fun k => ¬ Z k) wr w' → (stX (i + 1) = some s2 ∧ Mch Z w' K codesX s2 ∧ OkS codesX s2 ∧ Only (fun k => ¬ Z k) w4 w')) := Lib.hid (fun w' a b => ⟨ht1, HR.out.2.1.keep a b (fun _ e => e), (pick_ok HR.out.2.2.1 hp).1, HR.out.2.2.2.trans b (fun _ e => Or.inl e)⟩)
      have HPK := Lib.hid hpk
      clear hpk hp ht1 hs1 hs2 hs3 hs4 HR HR0 HB4 HZ HTI HTO
      go_wp2_with fail
      refine HPK.out.mono ?_
      rintro r w5 ⟨rfl, hm5, ho5⟩
      have HN2 := Lib.hid (HN.out w5 hm5 ho5)
      clear hm5 ho5 HN HPK
      go_wp2_with fail
      go_roundg g'
      case rel => exact ⟨i + 1, s2, by omega, by first | (simp; done) | (simp; exact hwr), HN2⟩
      case measure => omega
    · have hil : ¬ ((i : Int) < 30) := by omega
      obtain rfl : i = 30 := by omega
      obtain ⟨⟨c, hc1, hc2, hc3⟩, hek, hdn⟩ := endX_at HR.out.1
      obtain ⟨s1, hs1, hs2, hs3, hs4⟩ := stX_at (i := 30) (by decide)
      obtain rfl : s1 = sr := Option.some.inj (hs1.symm.trans HR.out.1)
      have hB : Below w.heap.size w wr := HB4.out.trans (HR.out.2.2.2.below HB4.out.size (fun k e => by
        rcases Nat.lt_or_ge k w.heap.size with h | h
        · exact absurd (HZ.out k h) e
        · exact h))
      have hM := HR.out.2.1.m
      have hevs := events_ts hM (by omega)
      have HEV := Lib.hid hevs
      have hcl : ∀ (v : Value) (w7 : World), Rd w7 8 v s1.evs.length (flatE s1.evs) → Calls Tryz.prog 20 #[v] w7 fun e W' => ∃ b o cp, e = .returned (.slice (some ⟨b, o, none⟩) 1 cp) ∧ W'.cell? ⟨b, o + 3, none⟩ = some (.int .i64 c.ended) ∧ W'.cell? ⟨b, o + 4, none⟩ = some (.int .u32 3) ∧ Below w7.heap.size w7 W' := fun v w7 hv => by
        refine (Calls_any v s1.evs (by omega) hek w7 hv).mono ?_
        rintro e W' ⟨v', rfl, ⟨vs, hvl, hrd, _⟩, hb⟩
        rw [hc1] at hvl hrd
        obtain ⟨u, rfl⟩ : ∃ u, vs = [u] := by
          match vs, hvl with
          | [u], _ => exact ⟨u, rfl⟩
        obtain ⟨A, cp, rfl, _, _, hce⟩ := hrd
        rcases hce with ⟨_, h⟩ | ⟨b, o, rfl, hbl, hcell⟩
        · exact absurd h (by simp)
        · exact ⟨b, o, cp, rfl, hcell 3 _ rfl, by have := hcell 4 (.int .u32 c.res) rfl; rwa [hc3] at this, hb⟩
      have HCL := Lib.hid hcl
      have HM := Lib.hid hM
      have HB := Lib.hid hB
      have HDN : Hid (∀ W, Below wr.heap.size wr W → Calls Tryz.prog 26 #[.pointer (some ⟨K.mb, 0, none⟩)] W fun e w' => e = .returned (.bool true) ∧ Below W.heap.size W w') := Lib.hid (fun W hW => by
        have h := done_ts (hM.below hW) (by rw [hs3]; decide)
        rw [hs3, hdn] at h
        exact h)
      have hce : (0 : Int) < c.ended := hc2
      clear hevs hcl hM hB hek hdn hs1 hs2 hs3 hs4 hc1 hc2 hc3 HR HR0 HB4 HZ HTI HTO
      go_wp2_with (first
        | (go_at_call 19; refine HEV.out.mono ?_; rintro r w7 ⟨ve, rfl, hve, hb7⟩; have HB7 := Lib.hid hb7)
        | (go_at_call 20; refine (HCL.out _ _ (Rd.of_own hve)).mono ?_; rintro r w8 ⟨b, o, cp, rfl, hca, hcb, hb8⟩; have hB8 := HB7.out.trans (hb8.mono HB7.out.size)))
      refine (HDN.out w8 hB8).mono ?_
      rintro r w9 ⟨rfl, hb9⟩
      have hB9 := HB.out.trans ((hB8.trans (hb9.mono hB8.size)).mono HB.out.size)
      go_wp2_with fail
      go_ret
      exact ⟨rfl, hB9⟩
end Go.Proofs.YtcnmhgblbikfkaaGreatDoor.As.T
