/- The walk of trace.Calls. -/
import Derived.Test.YtckmkaeopnnbbaaGreatDoorTcE
set_option linter.unusedVariables false
set_option linter.unusedSimpArgs false
namespace Go.Proofs.YtckmkaeopnnbbaaGreatDoor.As
open Go.RowKit

set_option maxRecDepth 100000 in
set_option maxHeartbeats 4000000 in
theorem Calls_any (v : Value) (evs : List Ev) (hreach : evs.length ≤ 1000000) (hk : ∀ e ∈ evs, 0 ≤ e.k ∧ e.k ≤ 4294967295) (w : World) (hR : Rd w 8 v evs.length (flatE evs)) :
    Calls Tryz.prog 27 #[v] w fun e W' => ∃ v', e = .returned v' ∧ RdC W' v' (callsAll evs) ∧ Below w.heap.size w W' := by
  obtain ⟨A, cap, rfl⟩ := hR.form
  have hmk : ∀ W, (Instr.makeSlice 108 (.int .i64 8) (.int .i64 8)).run Tryz.prog W = .ok (.slice (some ⟨W.heap.size, 0, none⟩) 8 8) (W.alloc (.cells #[.slice none 0 0, .slice none 0 0, .slice none 0 0, .slice none 0 0, .slice none 0 0, .slice none 0 0, .slice none 0 0, .slice none 0 0] 58)) := fun _ => by kernel_rfl
  go_enter Tryz.func27, Tryz.ntmps27
  have hcl := fun (W : World) (hW : Below w.heap.size w W) (t : Int) => tcalls_any (.slice A evs.length cap) evs.length evs t hreach hk W (hR.below hW (Nat.le_refl _)) rfl
  have HCL := Lib.hid hcl
  clear hcl hk hR
  go_wp2_with fail
  go_loopg [11] 8 (fun g iv wr => ∃ (i : Nat) (ar : Array Value), i + g = 8 ∧ iv = .int .i64 i ∧ Hid (ar.size = 8 ∧ wr.heap[w.heap.size]? = some (.cells ar 58 (0, 0)) ∧ (∀ t, t < i → ∃ u vs, ar[t]? = some u ∧ OutC (w.heap.size + 1) wr u (callsF (t : Int) (ofI evs (t : Int) evs.length)).1 vs) ∧ Below w.heap.size w wr))
  case atStart => exact ⟨0, _, rfl, rfl, Lib.hid ⟨rfl, heap_alloc_new _ _, fun t ht => by omega, (Below.refl _ w).alloc (Nat.le_refl _) _⟩⟩
  case round =>
    obtain ⟨i, ar, hi, rfl, HR⟩ := hrel
    obtain ⟨wo, hwo⟩ : ∃ x, x = wr := ⟨_, rfl⟩
    subst hwo
    by_cases hlt : i < 8
    · obtain ⟨g', rfl⟩ : ∃ g', gk = g' + 1 := ⟨gk - 1, by omega⟩
      have hil : (i : Int) < 8 := by omega
      have hwi : wrap64 ((i : Int) + 1) = (i : Int) + 1 := by unfold wrap64; omega
      obtain ⟨hwk, hwk2⟩ := wrap_small (k := i) (by omega)
      have hgl : w.heap.size < wo.heap.size := (Array.getElem?_eq_some_iff.1 HR.out.2.1).1
      obtain ⟨x0, hx0⟩ : ∃ x0, ar[i]? = some x0 := ⟨_, Array.getElem?_eq_getElem (by have := HR.out.1; omega)⟩
      have c0 : wo.cell? ⟨w.heap.size, i, none⟩ = some x0 := (cell_of_row wo w.heap.size i _ _ _ HR.out.2.1).trans hx0
      have hci := HCL.out wo HR.out.2.2.2 (i : Int)
      go_wp2_with (go_at_call 53; refine hci.mono ?_; rintro r w3 ⟨u, vs, rfl, hO, hb3⟩; obtain ⟨Au, cu, rfl⟩ := hO.form; have hrow3 := (hb3.block w.heap.size hgl).trans HR.out.2.1; have d0 : w3.cell? ⟨w.heap.size, i, none⟩ = some x0 := (cell_of_row w3 w.heap.size i _ _ _ hrow3).trans hx0; have f0 := frozen_of_row w3 w.heap.size i _ _ hrow3; have HR3 := Lib.hid hrow3; have HO := Lib.hid hO; have HB3 := Lib.hid hb3; clear hO hb3 hrow3)
      go_roundg g'
      case rel =>
        have hsz := HB3.out.size
        refine ⟨i + 1, ar.setIfInBounds i (.slice Au (callsF (i : Int) (ofI evs (i : Int) evs.length)).1.length cu), by omega, by first | (simp; done) | (simp; exact hwi), Lib.hid ⟨by simp [HR.out.1], heap_setCell_same _ _ _ _ _ _ HR3.out, fun t ht => ?_, (HR.out.2.2.2.trans (HB3.out.mono (by omega))).setCell (Nat.le_refl _) _⟩⟩
        by_cases e : t = i
        · subst e
          exact ⟨_, vs, by rw [Array.getElem?_setIfInBounds_self_of_lt (by have := HR.out.1; omega)], (HO.out.mono (by omega)).box _ _ (Nat.lt_succ_self _)⟩
        · obtain ⟨u, vs', h1, h2⟩ := HR.out.2.2.1 t (by omega)
          exact ⟨u, vs', by rw [Array.getElem?_setIfInBounds_ne (fun e2 => e e2.symm)]; exact h1, (h2.below HB3.out).box _ _ (Nat.lt_succ_self _)⟩
      case measure => omega
    · obtain rfl : i = 8 := by omega
      have hgl0 : w.heap.size + 1 ≤ wo.heap.size := (Array.getElem?_eq_some_iff.1 HR.out.2.1).1
      have hM : MgC w wo.heap.size evs (perT evs) [] ar (.slice none 0 0) wo := ⟨rfl, HR.out.1, HR.out.2.1, fun t ht => by
        obtain ⟨u, vs, h1, h2⟩ := HR.out.2.2.1 t ht
        exact ⟨u, h1, by rw [perT_get evs ht]; exact SufC.of h2⟩, HR.out.2.2.2, rfl, ⟨[], rfl, World.ownsRow_nil _ _ _ _, fun i c u h => by simp at h⟩, (by have := perT_len evs; show 0 + _ ≤ _; omega), hgl0, Nat.le_refl _⟩
      obtain ⟨U, hU⟩ : ∃ U, wo.heap.size = U := ⟨_, rfl⟩
      rw [hU] at hM
      have HM := Lib.hid hM
      clear HR hM HCL hmk hU hgl0
      go_wp2_with fail
      go_loopg [5] ((perT evs).flatten.length + 1) (fun g ov wr => ∃ (ls : List (List Cl)) (o : List Cl) (ar : Array Value), ls.flatten.length + 1 = g ∧ Hid (MgC w U evs ls o ar ov wr))
      case atStart => exact ⟨_, _, ar, rfl, HM⟩
      case round =>
        obtain ⟨ls, o, ar, hg, HM⟩ := hrel
        obtain ⟨we, hwe⟩ : ∃ x, x = wr := ⟨_, rfl⟩
        subst hwe
        go_wp2_with fail
        go_loopg [23, 6] 8 (fun g iv bv wr => ∃ (t : Nat), t + g = 8 ∧ iv = .int .i64 t ∧ bv = .int .i64 (bestV ls t) ∧ Hid (MgC w U evs ls o ar u5 wr))
        case atStart => exact ⟨0, rfl, rfl, rfl, HM⟩
        case round =>
          obtain ⟨t, ht, rfl, rfl, HM2⟩ := hrel
          obtain ⟨wi, hwi⟩ : ∃ x, x = wr := ⟨_, rfl⟩
          subst hwi
          by_cases hlt : t < 8
          · obtain ⟨g', rfl⟩ : ∃ g', gk = g' + 1 := ⟨gk - 1, by omega⟩
            have hil : (t : Int) < 8 := by omega
            have hwi : wrap64 ((t : Int) + 1) = (t : Int) + 1 := by unfold wrap64; omega
            obtain ⟨hwk, hwk2⟩ := wrap_small (k := t) (by omega)
            obtain ⟨u, hu1, hu2⟩ := HM2.out.2.2.2.1 t hlt
            have hbs := bestV_succ ls t
            obtain ⟨b1, b2, b3⟩ := bestV_spec ls t
            obtain ⟨bv, hbv⟩ : ∃ bv, bestV ls t = bv := ⟨_, rfl⟩
            rw [hbv] at hbs b1 b2 b3
            have ct : wi.cell? ⟨w.heap.size, t, none⟩ = some u := (cell_of_row wi w.heap.size t _ _ _ HM2.out.2.2.1).trans hu1
            cases hl : ls.getD t [] with
            | nil =>
              rw [hl] at hu2 hbs
              obtain ⟨vs, A', cap', _, rfl, _⟩ := hu2
              clear b3
              go_wp2_with fail
              go_quiet (fail)
              go_wp2_with fail
              go_roundg g'
              case rel => exact ⟨t + 1, by omega, by first | (simp; done) | (simp; exact hwi), by rw [hbs], Lib.hid (HM2.out.drewN nq)⟩
              case measure => omega
            | cons c r =>
              rw [hl] at hu2 hbs
              obtain ⟨g, off, cap', rfl, hcap, hBg, hgl, hS, uu, hcc, _⟩ := hu2.tail
              have k2 : wi.cell? ⟨g, off + 2, none⟩ = some (.int .i64 c.began) := hcc 2 _ rfl
              have hrl : ((0 : Int) < (r.length : Int) + 1) := by omega
              by_cases hneg : bv < 0
              · have hb1 : bv = -1 := by omega
                subst hb1
                clear b3 b1 b2 hneg
                go_wp2_with fail
                go_quiet (fail)
                go_wp2_with fail
                go_roundg g'
                case rel => exact ⟨t + 1, by omega, by first | (simp; done) | (simp; exact hwi), by rw [hbs]; rfl, Lib.hid (HM2.out.drewN nq)⟩
                case measure => omega
              · obtain ⟨j, rfl⟩ := Int.eq_ofNat_of_zero_le (show 0 ≤ bv by omega)
                have hj8 : j < 8 := by omega
                have hnej := b3 (by omega)
                have ej : ((j : Nat) : Int).toNat = j := rfl
                rw [ej] at hnej hbs
                obtain ⟨v2, hv2, hs2⟩ := HM2.out.2.2.2.1 j hj8
                cases hlj : ls.getD j [] with
                | nil => exact absurd hlj hnej
                | cons d r2 =>
                  rw [hlj] at hs2 hbs
                  obtain ⟨g2, off2, cap2, rfl, hcap2, _, _, _, uu2, hcc2, _⟩ := hs2.tail
                  have cj : wi.cell? ⟨w.heap.size, j, none⟩ = some (.slice (some ⟨g2, off2, none⟩) (r2.length + 1) cap2) := (cell_of_row wi w.heap.size j _ _ _ HM2.out.2.2.1).trans hv2
                  have k2j : wi.cell? ⟨g2, off2 + 2, none⟩ = some (.int .i64 d.began) := hcc2 2 _ rfl
                  have hrl2 : ((0 : Int) < (r2.length : Int) + 1) := by omega
                  have hjn : ¬ ((j : Int) < 0) := by omega
                  have hjl : (j : Int) < 8 := by omega
                  obtain ⟨hwj, hwj2⟩ := wrap_small (k := j) (by omega)
                  have hbs2 : bestV ls (t + 1) = if c.began < d.began then (t : Int) else (j : Int) := by rw [hbs]; dsimp only; rw [if_neg hjn]; rfl
                  clear b1 b2 b3 hbs hneg hnej hs2 hu2 hcc hcc2
                  by_cases hcd : c.began < d.began
                  · rw [if_pos hcd] at hbs2
                    go_wp2_with fail
                    go_quiet (fail)
                    go_wp2_with fail
                    go_roundg g'
                    case rel => exact ⟨t + 1, by omega, by first | (simp; done) | (simp; exact hwi), by rw [hbs2], Lib.hid (HM2.out.drewN nq)⟩
                    case measure => omega
                  · rw [if_neg hcd] at hbs2
                    have hcf : (c.began < d.began) = False := eq_false hcd
                    clear hcd
                    go_wp2_with fail
                    go_quiet (fail)
                    go_wp2_with fail
                    go_roundg g'
                    case rel => exact ⟨t + 1, by omega, by first | (simp; done) | (simp; exact hwi), by rw [hbs2], Lib.hid (HM2.out.drewN nq)⟩
                    case measure => omega
          · obtain rfl : t = 8 := by omega
            obtain ⟨hm1, hm2, hm3, hm4, hm5, hm6, ⟨vso, hv1, hv2, hv3⟩, hm8, hm9, hm10⟩ := HM2.out
            have hsp := bestP_spec ls 8
            have hbv : bestV ls 8 = match bestP ls 8 with
              | none => -1
              | some j => (j : Int) := rfl
            cases hb : bestP ls 8 with
            | none =>
              rw [hb] at hbv
              dsimp only at hbv
              have hfl : ls.flatten = [] := flat_nil ls (fun t ht => hsp.2 hb t (by omega))
              have ho : o = callsAll evs := by rw [← hm6, hfl]; rfl
              have HRD : Hid (RdC wi u5 (callsAll evs)) := Lib.hid (by rw [← ho]; exact ⟨vso, hv1, Rd.of_own hv2, fun i c u h1 h2 => Rd.of_own (hv3 i c u h1 h2).1⟩)
              have HBB := Lib.hid hm5
              clear hsp hm1 hm2 hm3 hm4 hm5 hm6 hm8 hm9 hm10 hv1 hv2 hv3
              go_wp2_with fail
              go_ret
              exact ⟨_, rfl, HRD.out, HBB.out⟩
            | some j =>
              rw [hb] at hbv
              dsimp only at hbv
              obtain ⟨hj8, hnej⟩ := hsp.1 j hb
              obtain ⟨v2, hj2, hs2⟩ := hm4 j hj8
              cases hlj : ls.getD j [] with
              | nil => exact absurd hlj hnej
              | cons c r =>
                rw [hlj] at hs2
                obtain ⟨g, off, cap2, rfl, hcap2, hBg, hgU, hS, uu, hcc, hin⟩ := hs2.tail
                obtain ⟨Au, cu, rfl⟩ : ∃ Au cu, uu = .slice Au c.inner.length cu := by
                  rcases hin.1.2 with ⟨h1, h2⟩ | ⟨g, cap, cur, h1, _⟩
                  · exact ⟨none, 0, by rw [h1, h2]⟩
                  · exact ⟨_, _, h1⟩
                obtain ⟨f1, f2⟩ := flat_set ls j c r hlj
                have cj : wi.cell? ⟨w.heap.size, j, none⟩ = some (.slice (some ⟨g, off, none⟩) (r.length + 1) cap2) := (cell_of_row wi w.heap.size j _ _ _ hm3).trans hj2
                have q0 : wi.cell? ⟨g, off, none⟩ = some (.int .i64 c.site) := hcc 0 _ rfl
                have q1 : wi.cell? ⟨g, off + 1, none⟩ = some (.int .i64 c.who) := hcc 1 _ rfl
                have q2 : wi.cell? ⟨g, off + 2, none⟩ = some (.int .i64 c.began) := hcc 2 _ rfl
                have q3 : wi.cell? ⟨g, off + 3, none⟩ = some (.int .i64 c.ended) := hcc 3 _ rfl
                have q4 : wi.cell? ⟨g, off + 4, none⟩ = some (.int .u32 c.res) := hcc 4 _ rfl
                have q5 : wi.cell? ⟨g, off + 5, none⟩ = some (.slice Au c.inner.length cu) := hcc 5 _ rfl
                have hrl : ((0 : Int) < (r.length : Int) + 1) := by omega
                have hjn : ¬ ((j : Int) < 0) := Int.not_lt.2 (Int.natCast_nonneg j)
                have hjl : (j : Int) < 8 := Int.ofNat_lt.2 hj8
                obtain ⟨hwj, hwj2⟩ := wrap_small (k := j) (by clear hin; omega)
                obtain ⟨iC, hiC, hC0, hC1, hC2⟩ := info_parts infoCall
                have hcn := cells_new wi #[.int .i64 c.site, .int .i64 c.who, .int .i64 c.began, .int .i64 c.ended, .int .u32 c.res, .slice Au c.inner.length cu] 63 1 6 (by unfold maxLen; omega) rfl
                have hol : o.length ≤ 8000000 := by omega
                have hgl : w.heap.size < wi.heap.size := (Array.getElem?_eq_some_iff.1 hm3).1
                have hvo : ∀ b, u5.ownBlock = some b → U ≤ b := fun b hb => (hv2.lt b hb).1
                have HJ2 := Lib.hid hj2
                have HALL := Lib.hid (And.intro hm1 (And.intro hm2 (And.intro hm4 (And.intro hm5 hm6))))
                have HN1 : Hid (cap2 = 1 → SufC (w.heap.size + 1) U wi (.slice (some ⟨g, off, none⟩) r.length 0) r) := Lib.hid fun e => by
                  have hr0 : r = [] := List.eq_nil_of_length_eq_zero (by omega)
                  subst hr0
                  exact ⟨[], _, 0, rfl, rfl, Nat.le_refl _, fun e => absurd rfl e, fun i c u h => by simp at h⟩
                have HIN := Lib.hid (And.intro hin (And.intro hv1 hv3))
                have HF := Lib.hid (And.intro f1 f2)
                have HSS := Lib.hid hS
                have H8 := Lib.hid (And.intro hm8 (And.intro hm9 hm10))
                have HV2 := Lib.hid hv2
                have HM3 := Lib.hid hm3
                have HLJ := Lib.hid hlj
                have HBP := Lib.hid hb
                have HOB := Lib.hid (And.intro hol hcap2)
                clear hsp hm1 hm2 hm3 hm4 hm5 hm6 hm8 hv1 hv3 hin f1 f2 hS hs2 hcc hj2 hnej hlj hb hol
                go_wp2_with (at_builtin; refine wpList_append_own_at _ rfl _ _ 58 rfl U 63 iC (.agg #[.int .i64 0, .int .i64 0, .int .i64 0, .int .i64 0, .int .u32 0, .slice none 0 0]) 6 64 Tryz.underlying58 hiC hC0 hC1 hC2 rfl (by decide) u5 o.length _ rfl (hv2.alloc _) ⟨wi.heap.size, 0, none⟩ 1 1 [.int .i64 c.site, .int .i64 c.who, .int .i64 c.began, .int .i64 c.ended, .int .u32 c.res, .slice Au c.inner.length cu] rfl rfl hcn (by simp [Value.oneCell']) (by have := HOB.out.1; unfold maxLen; omega) (by have := HOB.out.1; omega) (by simp; omega) ?_; intro v' w1 hown' hgrow _ hwhere; obtain ⟨g', cap', rfl⟩ := ownsRow_succ hown'; have hr1 := (hgrow.block w.heap.size (by simp; omega) (fun e => by have := hvo _ e.symm; omega)).trans ((Below.heap_alloc _ _ _ hgl).trans HM3.out); have cj1 : w1.cell? ⟨w.heap.size, j, none⟩ = some (.slice (some ⟨g, off, none⟩) (r.length + 1) cap2) := (cell_of_row w1 w.heap.size j _ _ _ hr1).trans HJ2.out; have fj1 := frozen_of_row w1 w.heap.size j _ _ hr1)
                all_goals
                  have hstep : ∀ nv, SufC (w.heap.size + 1) U wi nv r → _ := fun nv hnv => MgC.step (nv := nv) HM2.out HBP.out HLJ.out hnv HIN.out.1 hgrow hvo vso HIN.out.2.1 HIN.out.2.2 hown'
                  have HST := Lib.hid hstep
                  clear hstep hgrow hwhere hown' hr1 fj1 cj1
                all_goals go_roundg (ls.flatten.length)
                all_goals first
                  | omega
                  | (have hs := HST.out _ HSS.out
                     exact ⟨_, _, _, hs.2, Lib.hid hs.1⟩)
                  | (have hs := HST.out _ (HN1.out (by assumption))
                     exact ⟨_, _, _, hs.2, Lib.hid hs.1⟩)
end Go.Proofs.YtckmkaeopnnbbaaGreatDoor.As
