/- The walk of deadlatchlaw15.turns. -/
import Derived.Test.YtckmkaeopnnbbaaGreatDoorTwA
import Derived.Test.YtckmkaeopnnbbaaGreatDoorGe
import Derived.Test.YtckmkaeopnnbbaaGreatDoorNL
set_option linter.unusedVariables false
set_option linter.unusedSimpArgs false
namespace Go.Proofs.YtckmkaeopnnbbaaGreatDoor.As
open Go.RowKit

theorem flatC_get : ∀ (l : List Cl) (vs : List Value), vs.length = l.length → ∀ (i : Nat) (c : Cl) (u : Value), l[i]? = some c → vs[i]? = some u → ∀ j, j < 6 → (flatC l vs)[i * 6 + j]? = (c.cells u)[j]?
  | [], _, _, i, c, u, h, _, _, _ => by simp at h
  | _ :: _, [], h, _, _, _, _, _, _, _ => by simp at h
  | a :: l, v :: vs, h, 0, c, u, h1, h2, j, hj => by
    injection h1 with h1; injection h2 with h2; subst h1; subst h2
    show (a.cells v ++ flatC l vs)[0 * 6 + j]? = _
    rw [Nat.zero_mul, Nat.zero_add, List.getElem?_append_left (by show j < 6; exact hj)]
  | a :: l, v :: vs, h, i + 1, c, u, h1, h2, j, hj => by
    show (a.cells v ++ flatC l vs)[(i + 1) * 6 + j]? = _
    rw [List.getElem?_append_right (by show 6 ≤ _; omega), show (i + 1) * 6 + j - (a.cells v).length = i * 6 + j by show (i + 1) * 6 + j - 6 = _; omega]
    exact flatC_get l vs (by simpa using h) i c u (by simpa using h1) (by simpa using h2) j hj
/-- A call's cells, its inner row's form. -/
structure CallAt (W : World) (b off : Nat) (i : Nat) (c : Cl) (Au : Option Addr) (cu : Nat) : Prop where
  c0 : W.cell? ⟨b, off + i * 6, none⟩ = some (.int .i64 c.site)
  c1 : W.cell? ⟨b, off + i * 6 + 1, none⟩ = some (.int .i64 c.who)
  c2 : W.cell? ⟨b, off + i * 6 + 2, none⟩ = some (.int .i64 c.began)
  c3 : W.cell? ⟨b, off + i * 6 + 3, none⟩ = some (.int .i64 c.ended)
  c4 : W.cell? ⟨b, off + i * 6 + 4, none⟩ = some (.int .u32 c.res)
  c5 : W.cell? ⟨b, off + i * 6 + 5, none⟩ = some (.slice Au c.inner.length cu)
  rd : Rd W 1 (.slice Au c.inner.length cu) c.inner.length (c.inner.map (Value.int .i64))
theorem RdC.at {W : World} {l : List Cl} {A : Option Addr} {cap : Nat} (h : RdC W (.slice A l.length cap) l) (hl : 0 < l.length) : ∃ b off, A = some ⟨b, off, none⟩ ∧ b < W.heap.size ∧ ∀ (i : Nat) (c : Cl), l[i]? = some c → ∃ Au cu, CallAt W b off i c Au cu := by
  obtain ⟨vs, hvl, hrd, hri⟩ := h
  obtain ⟨b, off, hA, hb, hc⟩ := hrd.cells hl
  refine ⟨b, off, hA, hb, fun i c hi => ?_⟩
  have hlt := (List.getElem?_eq_some_iff.1 hi).1
  obtain ⟨u, hu⟩ : ∃ u, vs[i]? = some u := ⟨_, List.getElem?_eq_getElem (by omega)⟩
  have hr := hri i c u hi hu
  obtain ⟨Au, cu, rfl⟩ := hr.form
  have g := fun j hj => flatC_get l vs hvl i c _ hi hu j hj
  exact ⟨Au, cu, hc _ _ (g 0 (by decide)), hc _ _ (g 1 (by decide)), hc _ _ (g 2 (by decide)), hc _ _ (g 3 (by decide)), hc _ _ (g 4 (by decide)), hc _ _ (g 5 (by decide)), hr⟩
theorem CallAt.below {W W' : World} {B b off i : Nat} {c : Cl} {Au : Option Addr} {cu : Nat} (h : CallAt W b off i c Au cu) (hb : Below B W W') (hB : W.heap.size ≤ B) : CallAt W' b off i c Au cu := by
  have k : ∀ {x : Addr} {v : Value}, W.cell? x = some v → W'.cell? x = some v := fun {x v} hx => (World.cell?_of_block (hb.block x.block (Nat.lt_of_lt_of_le (block_lt_of_cell hx) hB))).trans hx
  exact ⟨k h.c0, k h.c1, k h.c2, k h.c3, k h.c4, k h.c5, h.rd.below hb hB⟩
/-- What is so of two calls that come in order. -/
theorem not_bad {a : Int} {evs : List Ev} {c d : Cl} (h : badP a evs c d = false) (h0 : c.site = 0) (h1 : d.site = 0) (h2 : ¬ d.ended < 0) (h3 : ¬ doorP a evs c < 0) (h4 : doorP a evs c < doorP a evs d) : ¬ c.ended < 0 ∧ ¬ c.ended > d.ended := by
  unfold badP at h
  simp only [h0, h1, decide_eq_false h2, decide_eq_false h3, decide_eq_true h4] at h
  simp at h
  exact ⟨by omega, by omega⟩
set_option maxRecDepth 100000 in
set_option maxHeartbeats 4000000 in
theorem turns_any (evs : List Ev) (v : Value) (w : World) (hR : Rd w 8 v evs.length (flatE evs)) (hreach : evs.length ≤ 100000) (Wq : List Nat) (stq : Nat → Nat) (hff : ffF evs = some (Wq, stq)) :
    Calls Tryz.prog 39 #[v, .int .i64 16] w fun e W' => e = .returned (.bool true) ∧ Below w.heap.size w W' := by
  obtain ⟨A, cap, rfl⟩ := hR.form
  have hca := fun W (hW : Below w.heap.size w W) => Calls_any (.slice A evs.length cap) evs (by omega) (ffF_k evs _ hff) W (hR.below hW (Nat.le_refl _))
  have hbad : ∀ c ∈ callsAll evs, ∀ d ∈ callsAll evs, badP 16 evs c d = false := fun c hc d hd => by
    have h := turns_of evs Wq stq hff
    unfold turnsP at h
    have h1 := List.all_eq_true.1 (List.all_eq_true.1 h c hc) d hd
    simpa using h1
  have hinb : ∀ c ∈ callsAll evs, inB evs.length c ∧ c.inner.length ≤ 1000000 := fun c hc => by
    obtain ⟨dn, wt, H⟩ := fo_of evs Wq stq hff
    have hm := (callsAll_perm evs).mem_iff.1 hc
    obtain ⟨l, hl, hcl⟩ := List.mem_flatten.1 hm
    unfold perT at hl
    obtain ⟨t, _, rfl⟩ := List.mem_map.1 hl
    exact ⟨(H.th t).1 c hcl, Nat.le_trans (Nat.le_trans (callsF_inner _ _ c hcl) (ofI_len _ _ _)) (by omega)⟩
  have hcn : (callsAll evs).length ≤ 800000 := by
    have h1 := (callsAll_perm evs).length_eq
    have h2 := perT_len evs
    omega
  have hdoor : ∀ w1 : World, Below w.heap.size w w1 → w1.heap[w.heap.size]? = some (.cells #[.slice A evs.length cap] 56 (0, 0)) → w1.heap[w.heap.size + 1]? = some (.cells #[.int .i64 16] 3 (0, 0)) → ∀ (c : Cl), c ∈ callsAll evs → ∀ Au cu, Rd w1 1 (.slice Au c.inner.length cu) c.inner.length (c.inner.map (Value.int .i64)) → ∀ W, Below w1.heap.size w1 W →
      Calls Tryz.prog 75 #[.agg #[.int .i64 c.site, .int .i64 c.who, .int .i64 c.began, .int .i64 c.ended, .int .u32 c.res, .slice Au c.inner.length cu], .pointer (some ⟨w.heap.size, 0, none⟩), .pointer (some ⟨w.heap.size + 1, 0, none⟩)] W fun e W' => e = .returned (.int .i64 (doorP 16 evs c)) ∧ Below W.heap.size W W' := fun w1 hb hl ha c hc Au cu hr W hW => by
    have hbW := hb.trans (hW.mono hb.size)
    exact door_any evs 16 c A Au cap cu w.heap.size (w.heap.size + 1) W (hR.below hbW (Nat.le_refl _)) (by omega) (hr.below hW (Nat.le_refl _)) (hinb c hc).2 (hinb c hc).1 ((hW.block _ (Array.getElem?_eq_some_iff.1 hl).1).trans hl) ((hW.block _ (Array.getElem?_eq_some_iff.1 ha).1).trans ha)
  obtain ⟨L, hL⟩ : ∃ L, callsAll evs = L := ⟨_, rfl⟩
  rw [hL] at hca hbad hinb hcn hdoor
  have HCA := Lib.hid hca
  obtain ⟨N, hN⟩ : ∃ N, evs.length = N := ⟨_, rfl⟩
  rw [hN] at HCA hdoor
  have HD := Lib.hid hdoor
  have HBAD := Lib.hid hbad
  rw [hN]
  clear hca hR hN hreach hff hbad hinb hdoor hL
  go_enter Tryz.func39, Tryz.ntmps39
  go_wp2_with fail
  have hb0 : Below w.heap.size w ((w.alloc (.cells #[.slice A N cap] 56)).alloc (.cells #[.int .i64 16] 3)) := ((Below.refl _ w).alloc (Nat.le_refl _) _).alloc (by simp) _
  have g0 : ((w.alloc (.cells #[.slice A N cap] 56)).alloc (.cells #[.int .i64 16] 3)).heap[w.heap.size]? = some (.cells #[.slice A N cap] 56 (0, 0)) := (Below.heap_alloc _ _ _ (by simp)).trans (heap_alloc_new _ _)
  have g1 : ((w.alloc (.cells #[.slice A N cap] 56)).alloc (.cells #[.int .i64 16] 3)).heap[w.heap.size + 1]? = some (.cells #[.int .i64 16] 3 (0, 0)) := by rw [← World.size_alloc w (.cells #[.slice A N cap] 56)]; exact heap_alloc_new _ _
  refine (HCA.out _ hb0).mono ?_
  rintro r w1 ⟨v', rfl, hrd, hb1⟩
  obtain ⟨A', cap', rfl⟩ : ∃ A' cap', v' = .slice A' L.length cap' := by obtain ⟨vs, hvl, hr, _⟩ := hrd; exact hr.form
  have HB1 : Hid (Below w.heap.size w w1) := Lib.hid (hb0.trans (hb1.mono hb0.size))
  have HDR := Lib.hid (HD.out w1 HB1.out ((hb1.block _ (by simp; omega)).trans g0) ((hb1.block _ (by simp)).trans g1))
  have HAT : Hid (0 < L.length → ∃ b off, A' = some ⟨b, off, none⟩ ∧ b < w1.heap.size ∧ ∀ (i : Nat) (c : Cl), L[i]? = some c → ∃ Au cu, CallAt w1 b off i c Au cu) := Lib.hid fun h => hrd.at h
  clear hb0 g0 g1 hb1 hrd HCA HD
  obtain ⟨C, hC⟩ : ∃ C, L.length = C := ⟨_, rfl⟩
  rw [hC] at HAT hcn ⊢
  have HC := Lib.hid hC
  have HCN := Lib.hid hcn
  clear hC hcn
  go_wp2_with fail
  go_loopg [7] (C + 1) (fun g iv wr => ∃ (i : Nat), i + g = C + 1 ∧ i ≤ C ∧ iv = .int .i64 i ∧ Hid (Below w1.heap.size w1 wr))
  case atStart => exact ⟨0, by omega, by omega, rfl, Lib.hid (Below.refl _ _)⟩
  case round =>
    obtain ⟨i, hi, hin, rfl, HR⟩ := hrel
    obtain ⟨wo, hwo⟩ : ∃ x, x = wr := ⟨_, rfl⟩
    subst hwo
    obtain ⟨g', rfl⟩ : ∃ g', gk = g' + 1 := ⟨gk - 1, by omega⟩
    by_cases hlt : i < C
    · have hil : (i : Int) < (C : Int) := by omega
      have hwi : wrap64 ((i : Int) + 1) = (i : Int) + 1 := by have := HCN.out; unfold wrap64; omega
      obtain ⟨c, hc⟩ : ∃ c, L[i]? = some c := ⟨_, List.getElem?_eq_getElem (by rw [HC.out]; exact hlt)⟩
      go_wp2_with fail
      go_loopg [8] (C + 1) (fun g kv wr => ∃ (k : Nat), k + g = C + 1 ∧ k ≤ C ∧ kv = .int .i64 k ∧ Hid (Below w1.heap.size w1 wr))
      case atStart => exact ⟨0, by omega, by omega, rfl, HR⟩
      case round =>
        obtain ⟨k, hk, hkn, rfl, HK⟩ := hrel
        obtain ⟨wi, hwi2⟩ : ∃ x, x = wr := ⟨_, rfl⟩
        subst hwi2
        by_cases hlk : k < C
        · obtain ⟨gg, rfl⟩ : ∃ gg, gk = gg + 1 := ⟨gk - 1, by omega⟩
          have hkl : (k : Int) < (C : Int) := by omega
          have hwk : wrap64 ((k : Int) + 1) = (k : Int) + 1 := by have := HCN.out; unfold wrap64; omega
          obtain ⟨d, hd⟩ : ∃ d, L[k]? = some d := ⟨_, List.getElem?_eq_getElem (by rw [HC.out]; exact hlk)⟩
          obtain ⟨b, off, rfl, _, hat⟩ := HAT.out (by omega)
          obtain ⟨Ac, cc, xi⟩ := hat i c hc
          obtain ⟨Ad, cd, zk⟩ := hat k d hd
          have hcm := List.mem_of_getElem? hc
          have hdm := List.mem_of_getElem? hd
          have HDC := Lib.hid (HDR.out c hcm Ac cc xi.rd)
          have HDD := Lib.hid (HDR.out d hdm Ad cd zk.rd)
          obtain ⟨x0, x1, x2, x3, x4, x5, _⟩ := xi.below HK.out (Nat.le_refl _)
          obtain ⟨z0, z1, z2, z3, z4, z5, _⟩ := zk.below HK.out (Nat.le_refl _)
          obtain ⟨hv1, hv2⟩ := wrap_small (k := i) (by have := HCN.out; omega)
          obtain ⟨hu1, hu2⟩ := wrap_small (k := k) (by have := HCN.out; omega)
          have hnb := HBAD.out c hcm d hdm
          have HXI := Lib.hid xi
          have HZK := Lib.hid zk
          clear hat xi zk hcm hdm
          by_cases s0 : c.site = 0
          · rw [s0] at x0
            by_cases t0 : d.site = 0
            · rw [t0] at z0
              by_cases e0 : d.ended < 0
              · go_wp2_with fail
                go_roundg gg
                case rel => exact ⟨k + 1, by omega, by omega, by first | (simp; done) | (simp; exact hwk), HK⟩
                case measure => omega
              · have hm1 := HDC.out wi HK.out
                rw [s0] at hm1
                by_cases d0 : doorP 16 evs c < 0
                · go_wp2_with (go_at_call 75; refine hm1.mono ?_; rintro r w2 ⟨rfl, hb2⟩)
                  go_roundg gg
                  case rel => exact ⟨k + 1, by omega, by omega, by first | (simp; done) | (simp; exact hwk), Lib.hid (HK.out.trans (hb2.mono HK.out.size))⟩
                  case measure => omega
                · obtain ⟨dc, hdc⟩ : ∃ dc, doorP 16 evs c = dc := ⟨_, rfl⟩
                  obtain ⟨dd, hdd⟩ : ∃ dd, doorP 16 evs d = dd := ⟨_, rfl⟩
                  have hord : dc < dd → ¬ c.ended < 0 ∧ ¬ c.ended > d.ended := fun h4 => not_bad hnb s0 t0 e0 d0 (by rw [hdc, hdd]; exact h4)
                  rw [hdc] at hm1 d0
                  have XI : Hid (∀ W, Below w1.heap.size w1 W → CallAt W b off i c Ac cc ∧ CallAt W b off k d Ad cd) := Lib.hid fun W hW => ⟨HXI.out.below hW (Nat.le_refl _), HZK.out.below hW (Nat.le_refl _)⟩
                  go_wp2_with (go_at_call 75; refine hm1.mono ?_; rintro r w2 ⟨rfl, hb2⟩)
                  have hB2 : Below w1.heap.size w1 w2 := HK.out.trans (hb2.mono HK.out.size)
                  clear x0 x1 x2 x3 x4 x5 z0 z1 z2 z3 z4 z5 hb2 hm1
                  have HDC2 : Hid (∀ W, Below w1.heap.size w1 W → Calls Tryz.prog 75 #[.agg #[.int .i64 0, .int .i64 c.who, .int .i64 c.began, .int .i64 c.ended, .int .u32 c.res, .slice Ac c.inner.length cc], .pointer (some ⟨w.heap.size, 0, none⟩), .pointer (some ⟨w.heap.size + 1, 0, none⟩)] W fun e W' => e = .returned (.int .i64 dc) ∧ Below w1.heap.size w1 W') := Lib.hid fun W hW => by
                    have h := HDC.out W hW
                    rw [s0, hdc] at h
                    exact h.mono (fun e W' h => ⟨h.1, hW.trans (h.2.mono hW.size)⟩)
                  have HDD2 : Hid (∀ W, Below w1.heap.size w1 W → Calls Tryz.prog 75 #[.agg #[.int .i64 0, .int .i64 d.who, .int .i64 d.began, .int .i64 d.ended, .int .u32 d.res, .slice Ad d.inner.length cd], .pointer (some ⟨w.heap.size, 0, none⟩), .pointer (some ⟨w.heap.size + 1, 0, none⟩)] W fun e W' => e = .returned (.int .i64 dd) ∧ Below w1.heap.size w1 W') := Lib.hid fun W hW => by
                    have h := HDD.out W hW
                    rw [t0, hdd] at h
                    exact h.mono (fun e W' h => ⟨h.1, hW.trans (h.2.mono hW.size)⟩)
                  have Y0 : Hid True := Lib.hid trivial
                  have yy0 : ∀ W, Below w1.heap.size w1 W → W.cell? ⟨b, off + i * 6, none⟩ = some (.int .i64 0) := fun W hW => by rw [← s0]; exact (XI.out W hW).1.c0
                  have yy1 : ∀ W, Below w1.heap.size w1 W → W.cell? ⟨b, off + i * 6 + 1, none⟩ = some (.int .i64 c.who) := fun W hW => (XI.out W hW).1.c1
                  have yy2 : ∀ W, Below w1.heap.size w1 W → W.cell? ⟨b, off + i * 6 + 2, none⟩ = some (.int .i64 c.began) := fun W hW => (XI.out W hW).1.c2
                  have yy3 : ∀ W, Below w1.heap.size w1 W → W.cell? ⟨b, off + i * 6 + 3, none⟩ = some (.int .i64 c.ended) := fun W hW => (XI.out W hW).1.c3
                  have yy4 : ∀ W, Below w1.heap.size w1 W → W.cell? ⟨b, off + i * 6 + 4, none⟩ = some (.int .u32 c.res) := fun W hW => (XI.out W hW).1.c4
                  have yy5 : ∀ W, Below w1.heap.size w1 W → W.cell? ⟨b, off + i * 6 + 5, none⟩ = some (.slice Ac c.inner.length cc) := fun W hW => (XI.out W hW).1.c5
                  have uu0 : ∀ W, Below w1.heap.size w1 W → W.cell? ⟨b, off + k * 6, none⟩ = some (.int .i64 0) := fun W hW => by rw [← t0]; exact (XI.out W hW).2.c0
                  have uu1 : ∀ W, Below w1.heap.size w1 W → W.cell? ⟨b, off + k * 6 + 1, none⟩ = some (.int .i64 d.who) := fun W hW => (XI.out W hW).2.c1
                  have uu2 : ∀ W, Below w1.heap.size w1 W → W.cell? ⟨b, off + k * 6 + 2, none⟩ = some (.int .i64 d.began) := fun W hW => (XI.out W hW).2.c2
                  have uu3 : ∀ W, Below w1.heap.size w1 W → W.cell? ⟨b, off + k * 6 + 3, none⟩ = some (.int .i64 d.ended) := fun W hW => (XI.out W hW).2.c3
                  have uu4 : ∀ W, Below w1.heap.size w1 W → W.cell? ⟨b, off + k * 6 + 4, none⟩ = some (.int .u32 d.res) := fun W hW => (XI.out W hW).2.c4
                  have uu5 : ∀ W, Below w1.heap.size w1 W → W.cell? ⟨b, off + k * 6 + 5, none⟩ = some (.slice Ad d.inner.length cd) := fun W hW => (XI.out W hW).2.c5
                  have b0 : Below w1.heap.size w1 w2.drew := bl_drewN hB2 1
                  clear HDC HDD XI hdc hdd s0 t0 e0 hnb hB2
                  refine wp_region_g (fun W => Below w1.heap.size w1 W) 99 (by kernel_rfl) ?_
                  generalize w2.drew = wd at *
                  refine AnyG_take (i := 0) (oi := _) (v := ?_) rfl (by kernel_rfl) (fun _ _ _ h => h) (Or.inl ⟨by rfl, ?_⟩) b0 ?_
                  rotate_left
                  · intro W hSw; (try dsimp only at hSw); go_simp; first | done | with_reducible rfl
                  simp only [Act.put, Zq1, Zq2, Zq3, Zq4, Zq5, Zq6]
                  refine AnyG_take (i := 1) (oi := _) (v := ?_) rfl (by kernel_rfl) (fun _ _ _ h => h) (Or.inl ⟨by rfl, ?_⟩) b0 ?_
                  rotate_left
                  · intro W hSw; (try dsimp only at hSw); go_simp; first | done | with_reducible rfl
                  simp only [Act.put, Zq1, Zq2, Zq3, Zq4, Zq5, Zq6]
                  refine AnyG_take (i := 2) (oi := _) (v := ?_) rfl (by kernel_rfl) (fun _ _ _ h => h) (Or.inl ⟨by rfl, ?_⟩) b0 ?_
                  rotate_left
                  · intro W hSw; (try dsimp only at hSw); go_simp; first | done | with_reducible rfl
                  simp only [Act.put, Zq1, Zq2, Zq3, Zq4, Zq5, Zq6]
                  refine AnyG_take (i := 3) (oi := _) (v := ?_) rfl (by kernel_rfl) (fun _ _ _ h => h) (Or.inl ⟨by rfl, ?_⟩) b0 ?_
                  rotate_left
                  · intro W hSw; (try dsimp only at hSw); go_simp; first | done | with_reducible rfl
                  simp only [Act.put, Zq1, Zq2, Zq3, Zq4, Zq5, Zq6]
                  refine AnyG_take (i := 4) (oi := _) (v := ?_) rfl (by kernel_rfl) (fun _ _ _ h => h) (Or.inl ⟨by rfl, ?_⟩) b0 ?_
                  rotate_left
                  · intro W hSw; (try dsimp only at hSw); go_simp; first | done | with_reducible rfl
                  simp only [Act.put, Zq1, Zq2, Zq3, Zq4, Zq5, Zq6]
                  refine AnyG_take (i := 6) (oi := _) (v := ?_) rfl (by kernel_rfl) (fun _ _ _ h => h) (Or.inl ⟨by rfl, ?_⟩) b0 ?_
                  rotate_left
                  · intro W hSw; (try dsimp only at hSw); go_simp; first | done | with_reducible rfl
                  simp only [Act.put, Zq1, Zq2, Zq3, Zq4, Zq5, Zq6]
                  refine AnyG_take (i := 7) (oi := _) (v := ?_) rfl (by kernel_rfl) (fun _ _ _ h => h) (Or.inl ⟨by rfl, ?_⟩) b0 ?_
                  rotate_left
                  · intro W hSw; (try dsimp only at hSw); go_simp; first | done | with_reducible rfl
                  simp only [Act.put, Zq1, Zq2, Zq3, Zq4, Zq5, Zq6]
                  refine AnyG_take (i := 8) (oi := _) (v := ?_) rfl (by kernel_rfl) (fun _ _ _ h => h) (Or.inl ⟨by rfl, ?_⟩) b0 ?_
                  rotate_left
                  · intro W hSw; (try dsimp only at hSw); go_simp; first | done | with_reducible rfl
                  simp only [Act.put, Zq1, Zq2, Zq3, Zq4, Zq5, Zq6]
                  refine AnyG_take (i := 9) (oi := _) (v := ?_) rfl (by kernel_rfl) (fun _ _ _ h => h) (Or.inl ⟨by rfl, ?_⟩) b0 ?_
                  rotate_left
                  · intro W hSw; (try dsimp only at hSw); go_simp; first | done | with_reducible rfl
                  simp only [Act.put, Zq1, Zq2, Zq3, Zq4, Zq5, Zq6]
                  refine AnyG_take (i := 10) (oi := _) (v := ?_) rfl (by kernel_rfl) (fun _ _ _ h => h) (Or.inl ⟨by rfl, ?_⟩) b0 ?_
                  rotate_left
                  · intro W hSw; (try dsimp only at hSw); go_simp; first | done | with_reducible rfl
                  simp only [Act.put, Zq1, Zq2, Zq3, Zq4, Zq5, Zq6]
                  refine AnyG_one (i := 5) rfl (by kernel_rfl) ?_
                  refine wpOp_of rfl rfl ?_
                  try simp only [Act.put, Zq1, Zq2, Zq3, Zq4, Zq5, Zq6]
                  go_simp
                  refine (HDC2.out wd b0).mono ?_
                  rintro _ v1 ⟨rfl, b1⟩
                  refine ⟨b1, ?_⟩
                  try simp only [Act.put, Zq1, Zq2, Zq3, Zq4, Zq5, Zq6]
                  refine AnyG_one (i := 11) rfl (by kernel_rfl) ?_
                  refine wpOp_of rfl rfl ?_
                  try simp only [Act.put, Zq1, Zq2, Zq3, Zq4, Zq5, Zq6]
                  go_simp
                  refine (HDD2.out v1 b1).mono ?_
                  rintro _ v2 ⟨rfl, b2⟩
                  refine ⟨b2, ?_⟩
                  try simp only [Act.put, Zq1, Zq2, Zq3, Zq4, Zq5, Zq6]
                  by_cases h4 : dc < dd
                  · obtain ⟨o1, o2⟩ := hord h4
                    have o3 : ¬ d.ended < c.ended := by omega
                    have o4 : ¬ c.ended < 0 := by omega
                    clear hord o2 o1
                    refine AnyG_take (i := 12) (oi := _) (v := ?_) rfl (by kernel_rfl) (fun _ _ _ h => h) (Or.inl ⟨by rfl, ?_⟩) b2 ?_
                    rotate_left
                    · intro W hSw; (try dsimp only at hSw); go_simp; first | done | with_reducible rfl
                    simp only [Act.put, Zq1, Zq2, Zq3, Zq4, Zq5, Zq6]
                    refine AnyG_take (i := 13) (oi := _) (v := ?_) rfl (by kernel_rfl) (fun _ _ _ h => h) (Or.inl ⟨by rfl, ?_⟩) b2 ?_
                    rotate_left
                    · intro W hSw; (try dsimp only at hSw); go_simp; first | done | with_reducible rfl
                    simp only [Act.put, Zq1, Zq2, Zq3, Zq4, Zq5, Zq6]
                    refine AnyG_take (i := 14) (oi := _) (v := ?_) rfl (by kernel_rfl) (fun _ _ _ h => h) (Or.inl ⟨by rfl, ?_⟩) b2 ?_
                    rotate_left
                    · intro W hSw; (try dsimp only at hSw); go_simp; first | done | with_reducible rfl
                    simp only [Act.put, Zq1, Zq2, Zq3, Zq4, Zq5, Zq6]
                    refine AnyG_take (i := 15) (oi := _) (v := ?_) rfl (by kernel_rfl) (fun _ _ _ h => h) (Or.inl ⟨by rfl, ?_⟩) b2 ?_
                    rotate_left
                    · intro W hSw; (try dsimp only at hSw); go_simp; first | done | with_reducible rfl
                    simp only [Act.put, Zq1, Zq2, Zq3, Zq4, Zq5, Zq6]
                    refine AnyG_take (i := 16) (oi := _) (v := ?_) rfl (by kernel_rfl) (fun _ _ _ h => h) (Or.inl ⟨by rfl, ?_⟩) b2 ?_
                    rotate_left
                    · intro W hSw; (try dsimp only at hSw); go_simp; first | done | with_reducible rfl
                    simp only [Act.put, Zq1, Zq2, Zq3, Zq4, Zq5, Zq6]
                    refine AnyG_take (i := 17) (oi := _) (v := ?_) rfl (by kernel_rfl) (fun _ _ _ h => h) (Or.inl ⟨by rfl, ?_⟩) b2 ?_
                    rotate_left
                    · intro W hSw; (try dsimp only at hSw); go_simp; first | done | with_reducible rfl
                    simp only [Act.put, Zq1, Zq2, Zq3, Zq4, Zq5, Zq6]
                    refine AnyG_take (i := 18) (oi := _) (v := ?_) rfl (by kernel_rfl) (fun _ _ _ h => h) (Or.inl ⟨by rfl, ?_⟩) b2 ?_
                    rotate_left
                    · intro W hSw; (try dsimp only at hSw); go_simp; first | done | with_reducible rfl
                    simp only [Act.put, Zq1, Zq2, Zq3, Zq4, Zq5, Zq6]
                    refine AnyG_take (i := 19) (oi := _) (v := ?_) rfl (by kernel_rfl) (fun _ _ _ h => h) (Or.inl ⟨by rfl, ?_⟩) b2 ?_
                    rotate_left
                    · intro W hSw; (try dsimp only at hSw); go_simp; first | done | with_reducible rfl
                    simp only [Act.put, Zq1, Zq2, Zq3, Zq4, Zq5, Zq6]
                    refine AnyG_take (i := 20) (oi := _) (v := ?_) rfl (by kernel_rfl) (fun _ _ _ h => h) (Or.inl ⟨by rfl, ?_⟩) b2 ?_
                    rotate_left
                    · intro W hSw; (try dsimp only at hSw); go_simp; first | done | with_reducible rfl
                    simp only [Act.put, Zq1, Zq2, Zq3, Zq4, Zq5, Zq6]
                    refine AnyG_take (i := 21) (oi := _) (v := ?_) rfl (by kernel_rfl) (fun _ _ _ h => h) (Or.inl ⟨by rfl, ?_⟩) b2 ?_
                    rotate_left
                    · intro W hSw; (try dsimp only at hSw); go_simp; first | done | with_reducible rfl
                    simp only [Act.put, Zq1, Zq2, Zq3, Zq4, Zq5, Zq6]
                    refine AnyG_take (i := 22) (oi := _) (v := ?_) rfl (by kernel_rfl) (fun _ _ _ h => h) (Or.inl ⟨by rfl, ?_⟩) b2 ?_
                    rotate_left
                    · intro W hSw; (try dsimp only at hSw); go_simp; first | done | with_reducible rfl
                    simp only [Act.put, Zq1, Zq2, Zq3, Zq4, Zq5, Zq6]
                    refine AnyG_take (i := 23) (oi := _) (v := ?_) rfl (by kernel_rfl) (fun _ _ _ h => h) (Or.inl ⟨by rfl, ?_⟩) b2 ?_
                    rotate_left
                    · intro W hSw; (try dsimp only at hSw); go_simp; first | done | with_reducible rfl
                    simp only [Act.put, Zq1, Zq2, Zq3, Zq4, Zq5, Zq6]
                    refine AnyG_take (i := 24) (oi := _) (v := ?_) rfl (by kernel_rfl) (fun _ _ _ h => h) (Or.inl ⟨by rfl, ?_⟩) b2 ?_
                    rotate_left
                    · intro W hSw; (try dsimp only at hSw); go_simp; first | done | with_reducible rfl
                    simp only [Act.put, Zq1, Zq2, Zq3, Zq4, Zq5, Zq6]
                    refine AnyG_take (i := 25) (oi := _) (v := ?_) rfl (by kernel_rfl) (fun _ _ _ h => h) (Or.inl ⟨by rfl, ?_⟩) b2 ?_
                    rotate_left
                    · intro W hSw; (try dsimp only at hSw); go_simp; first | done | with_reducible rfl
                    simp only [Act.put, Zq1, Zq2, Zq3, Zq4, Zq5, Zq6]
                    refine AnyG_take (i := 26) (oi := _) (v := ?_) rfl (by kernel_rfl) (fun _ _ _ h => h) (Or.inl ⟨by rfl, ?_⟩) b2 ?_
                    rotate_left
                    · intro W hSw; (try dsimp only at hSw); go_simp; first | done | with_reducible rfl
                    simp only [Act.put, Zq1, Zq2, Zq3, Zq4, Zq5, Zq6]
                    refine AnyG_take (i := 27) (oi := _) (v := ?_) rfl (by kernel_rfl) (fun _ _ _ h => h) (Or.inl ⟨by rfl, ?_⟩) b2 ?_
                    rotate_left
                    · intro W hSw; (try dsimp only at hSw); go_simp; first | done | with_reducible rfl
                    simp only [Act.put, Zq1, Zq2, Zq3, Zq4, Zq5, Zq6]
                    refine AnyG_take (i := 28) (oi := _) (v := ?_) rfl (by kernel_rfl) (fun _ _ _ h => h) (Or.inl ⟨by rfl, ?_⟩) b2 ?_
                    rotate_left
                    · intro W hSw; (try dsimp only at hSw); go_simp; first | done | with_reducible rfl
                    simp only [Act.put, Zq1, Zq2, Zq3, Zq4, Zq5, Zq6]
                    refine AnyG_take (i := 29) (oi := _) (v := ?_) rfl (by kernel_rfl) (fun _ _ _ h => h) (Or.inl ⟨by rfl, ?_⟩) b2 ?_
                    rotate_left
                    · intro W hSw; (try dsimp only at hSw); go_simp; first | done | with_reducible rfl
                    simp only [Act.put, Zq1, Zq2, Zq3, Zq4, Zq5, Zq6]
                    refine AnyG_take (i := 30) (oi := _) (v := ?_) rfl (by kernel_rfl) (fun _ _ _ h => h) (Or.inl ⟨by rfl, ?_⟩) b2 ?_
                    rotate_left
                    · intro W hSw; (try dsimp only at hSw); go_simp; first | done | with_reducible rfl
                    simp only [Act.put, Zq1, Zq2, Zq3, Zq4, Zq5, Zq6]
                    refine AnyG_take (i := 31) (oi := _) (v := ?_) rfl (by kernel_rfl) (fun _ _ _ h => h) (Or.inl ⟨by rfl, ?_⟩) b2 ?_
                    rotate_left
                    · intro W hSw; (try dsimp only at hSw); go_simp; first | done | with_reducible rfl
                    simp only [Act.put, Zq1, Zq2, Zq3, Zq4, Zq5, Zq6]
                    refine AnyG_take (i := 32) (oi := _) (v := ?_) rfl (by kernel_rfl) (fun _ _ _ h => h) (Or.inl ⟨by rfl, ?_⟩) b2 ?_
                    rotate_left
                    · intro W hSw; (try dsimp only at hSw); go_simp; first | done | with_reducible rfl
                    simp only [Act.put, Zq1, Zq2, Zq3, Zq4, Zq5, Zq6]
                    refine AnyG_take (i := 33) (oi := _) (v := ?_) rfl (by kernel_rfl) (fun _ _ _ h => h) (Or.inl ⟨by rfl, ?_⟩) b2 ?_
                    rotate_left
                    · intro W hSw; (try dsimp only at hSw); go_simp; first | done | with_reducible rfl
                    simp only [Act.put, Zq1, Zq2, Zq3, Zq4, Zq5, Zq6]
                    refine AnyG_done (by kernel_rfl) ?_ _
                    go_wp2_with fail
                    go_roundg gg
                    case rel => exact ⟨k + 1, by omega, by omega, by first | (simp; done) | (simp; exact hwk), Lib.hid b2⟩
                    case measure => omega
                  · clear hord
                    refine AnyG_take (i := 12) (oi := _) (v := ?_) rfl (by kernel_rfl) (fun _ _ _ h => h) (Or.inl ⟨by rfl, ?_⟩) b2 ?_
                    rotate_left
                    · intro W hSw; (try dsimp only at hSw); go_simp; first | done | with_reducible rfl
                    simp only [Act.put, Zq1, Zq2, Zq3, Zq4, Zq5, Zq6]
                    refine AnyG_take (i := 13) (oi := _) (v := ?_) rfl (by kernel_rfl) (fun _ _ _ h => h) (Or.inl ⟨by rfl, ?_⟩) b2 ?_
                    rotate_left
                    · intro W hSw; (try dsimp only at hSw); go_simp; first | done | with_reducible rfl
                    simp only [Act.put, Zq1, Zq2, Zq3, Zq4, Zq5, Zq6]
                    refine AnyG_take (i := 14) (oi := _) (v := undef) rfl (by kernel_rfl) (fun _ _ _ h => h) (Or.inr ⟨by rfl, rfl⟩) b2 ?_
                    simp only [Act.put, List.getElem_toArray, List.getElem_cons_zero, List.getElem_cons_succ, List.setIfInBounds_toArray, List.set_cons_zero, List.set_cons_succ]
                    refine AnyG_take (i := 15) (oi := _) (v := undef) rfl (by kernel_rfl) (fun _ _ _ h => h) (Or.inr ⟨by rfl, rfl⟩) b2 ?_
                    simp only [Act.put, List.getElem_toArray, List.getElem_cons_zero, List.getElem_cons_succ, List.setIfInBounds_toArray, List.set_cons_zero, List.set_cons_succ]
                    refine AnyG_take (i := 16) (oi := _) (v := undef) rfl (by kernel_rfl) (fun _ _ _ h => h) (Or.inr ⟨by rfl, rfl⟩) b2 ?_
                    simp only [Act.put, List.getElem_toArray, List.getElem_cons_zero, List.getElem_cons_succ, List.setIfInBounds_toArray, List.set_cons_zero, List.set_cons_succ]
                    refine AnyG_take (i := 17) (oi := _) (v := undef) rfl (by kernel_rfl) (fun _ _ _ h => h) (Or.inr ⟨by rfl, rfl⟩) b2 ?_
                    simp only [Act.put, List.getElem_toArray, List.getElem_cons_zero, List.getElem_cons_succ, List.setIfInBounds_toArray, List.set_cons_zero, List.set_cons_succ]
                    refine AnyG_take (i := 18) (oi := _) (v := undef) rfl (by kernel_rfl) (fun _ _ _ h => h) (Or.inr ⟨by rfl, rfl⟩) b2 ?_
                    simp only [Act.put, List.getElem_toArray, List.getElem_cons_zero, List.getElem_cons_succ, List.setIfInBounds_toArray, List.set_cons_zero, List.set_cons_succ]
                    refine AnyG_take (i := 19) (oi := _) (v := undef) rfl (by kernel_rfl) (fun _ _ _ h => h) (Or.inr ⟨by rfl, rfl⟩) b2 ?_
                    simp only [Act.put, List.getElem_toArray, List.getElem_cons_zero, List.getElem_cons_succ, List.setIfInBounds_toArray, List.set_cons_zero, List.set_cons_succ]
                    refine AnyG_take (i := 20) (oi := _) (v := undef) rfl (by kernel_rfl) (fun _ _ _ h => h) (Or.inr ⟨by rfl, rfl⟩) b2 ?_
                    simp only [Act.put, List.getElem_toArray, List.getElem_cons_zero, List.getElem_cons_succ, List.setIfInBounds_toArray, List.set_cons_zero, List.set_cons_succ]
                    refine AnyG_take (i := 21) (oi := _) (v := undef) rfl (by kernel_rfl) (fun _ _ _ h => h) (Or.inr ⟨by rfl, rfl⟩) b2 ?_
                    simp only [Act.put, List.getElem_toArray, List.getElem_cons_zero, List.getElem_cons_succ, List.setIfInBounds_toArray, List.set_cons_zero, List.set_cons_succ]
                    refine AnyG_take (i := 22) (oi := _) (v := undef) rfl (by kernel_rfl) (fun _ _ _ h => h) (Or.inr ⟨by rfl, rfl⟩) b2 ?_
                    simp only [Act.put, List.getElem_toArray, List.getElem_cons_zero, List.getElem_cons_succ, List.setIfInBounds_toArray, List.set_cons_zero, List.set_cons_succ]
                    refine AnyG_take (i := 23) (oi := _) (v := undef) rfl (by kernel_rfl) (fun _ _ _ h => h) (Or.inr ⟨by rfl, rfl⟩) b2 ?_
                    simp only [Act.put, List.getElem_toArray, List.getElem_cons_zero, List.getElem_cons_succ, List.setIfInBounds_toArray, List.set_cons_zero, List.set_cons_succ]
                    refine AnyG_take (i := 24) (oi := _) (v := undef) rfl (by kernel_rfl) (fun _ _ _ h => h) (Or.inr ⟨by rfl, rfl⟩) b2 ?_
                    simp only [Act.put, List.getElem_toArray, List.getElem_cons_zero, List.getElem_cons_succ, List.setIfInBounds_toArray, List.set_cons_zero, List.set_cons_succ]
                    refine AnyG_take (i := 25) (oi := _) (v := undef) rfl (by kernel_rfl) (fun _ _ _ h => h) (Or.inr ⟨by rfl, rfl⟩) b2 ?_
                    simp only [Act.put, List.getElem_toArray, List.getElem_cons_zero, List.getElem_cons_succ, List.setIfInBounds_toArray, List.set_cons_zero, List.set_cons_succ]
                    refine AnyG_take (i := 26) (oi := _) (v := undef) rfl (by kernel_rfl) (fun _ _ _ h => h) (Or.inr ⟨by rfl, rfl⟩) b2 ?_
                    simp only [Act.put, List.getElem_toArray, List.getElem_cons_zero, List.getElem_cons_succ, List.setIfInBounds_toArray, List.set_cons_zero, List.set_cons_succ]
                    refine AnyG_take (i := 27) (oi := _) (v := undef) rfl (by kernel_rfl) (fun _ _ _ h => h) (Or.inr ⟨by rfl, rfl⟩) b2 ?_
                    simp only [Act.put, List.getElem_toArray, List.getElem_cons_zero, List.getElem_cons_succ, List.setIfInBounds_toArray, List.set_cons_zero, List.set_cons_succ]
                    refine AnyG_take (i := 28) (oi := _) (v := undef) rfl (by kernel_rfl) (fun _ _ _ h => h) (Or.inr ⟨by rfl, rfl⟩) b2 ?_
                    simp only [Act.put, List.getElem_toArray, List.getElem_cons_zero, List.getElem_cons_succ, List.setIfInBounds_toArray, List.set_cons_zero, List.set_cons_succ]
                    refine AnyG_take (i := 29) (oi := _) (v := undef) rfl (by kernel_rfl) (fun _ _ _ h => h) (Or.inr ⟨by rfl, rfl⟩) b2 ?_
                    simp only [Act.put, List.getElem_toArray, List.getElem_cons_zero, List.getElem_cons_succ, List.setIfInBounds_toArray, List.set_cons_zero, List.set_cons_succ]
                    refine AnyG_take (i := 30) (oi := _) (v := undef) rfl (by kernel_rfl) (fun _ _ _ h => h) (Or.inr ⟨by rfl, rfl⟩) b2 ?_
                    simp only [Act.put, List.getElem_toArray, List.getElem_cons_zero, List.getElem_cons_succ, List.setIfInBounds_toArray, List.set_cons_zero, List.set_cons_succ]
                    refine AnyG_take (i := 31) (oi := _) (v := undef) rfl (by kernel_rfl) (fun _ _ _ h => h) (Or.inr ⟨by rfl, rfl⟩) b2 ?_
                    simp only [Act.put, List.getElem_toArray, List.getElem_cons_zero, List.getElem_cons_succ, List.setIfInBounds_toArray, List.set_cons_zero, List.set_cons_succ]
                    refine AnyG_take (i := 32) (oi := _) (v := undef) rfl (by kernel_rfl) (fun _ _ _ h => h) (Or.inr ⟨by rfl, rfl⟩) b2 ?_
                    simp only [Act.put, List.getElem_toArray, List.getElem_cons_zero, List.getElem_cons_succ, List.setIfInBounds_toArray, List.set_cons_zero, List.set_cons_succ]
                    refine AnyG_take (i := 33) (oi := _) (v := ?_) rfl (by kernel_rfl) (fun _ _ _ h => h) (Or.inl ⟨by rfl, ?_⟩) b2 ?_
                    rotate_left
                    · intro W hSw; (try dsimp only at hSw); go_simp; first | done | with_reducible rfl
                    simp only [Act.put, Zq1, Zq2, Zq3, Zq4, Zq5, Zq6]
                    refine AnyG_done (by kernel_rfl) ?_ _
                    go_wp2_with fail
                    go_roundg gg
                    case rel => exact ⟨k + 1, by omega, by omega, by first | (simp; done) | (simp; exact hwk), Lib.hid b2⟩
                    case measure => omega
            · have t1 : (d.site == 0) = false := by simpa using t0
              have t2 : (d.site != 0) = true := by simpa using t0
              go_wp2_with fail
              go_roundg gg
              case rel => exact ⟨k + 1, by omega, by omega, by first | (simp; done) | (simp; exact hwk), HK⟩
              case measure => omega
          · have s1 : (c.site == 0) = false := by simpa using s0
            have s2 : (c.site != 0) = true := by simpa using s0
            go_wp2_with fail
            go_roundg gg
            case rel => exact ⟨k + 1, by omega, by omega, by first | (simp; done) | (simp; exact hwk), HK⟩
            case measure => omega
        · obtain rfl : k = C := by omega
          have hkl : ¬ ((k : Int) < (k : Int)) := by omega
          go_wp2_with fail
          go_roundg g'
          case rel => exact ⟨i + 1, by omega, by omega, by first | (simp; done) | (simp; exact hwi), HK⟩
          case measure => omega
    · obtain rfl : i = C := by omega
      have hil : ¬ ((i : Int) < (i : Int)) := by omega
      go_wp2_with fail
      go_ret
      exact ⟨rfl, HB1.out.trans (HR.out.mono HB1.out.size)⟩
end Go.Proofs.YtckmkaeopnnbbaaGreatDoor.As
