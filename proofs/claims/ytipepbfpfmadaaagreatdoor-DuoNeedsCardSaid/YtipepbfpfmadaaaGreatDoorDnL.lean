/- The law DuoNeeds. -/
import Derived.Test.YtipepbfpfmadaaaGreatDoorDnC
set_option linter.unusedVariables false
set_option linter.unusedSimpArgs false
set_option maxRecDepth 20000
namespace Go.Proofs.YtipepbfpfmadaaaGreatDoor.As.T
open Go.RowKit

theorem truth0_any (w : World) : Calls Tryz.prog 52 #[.bool false] w fun e w' => e = .returned (.int .i64 0) ∧ w' = w := by
  go_enter Tryz.func52, Tryz.ntmps52
  go_wp2_with fail
  go_ret
  exact ⟨rfl, rfl⟩
theorem One0_any (w : World) (v : Value) (l : List Ev) (h : Rd w 8 v l.length (flatE l)) (hn : l.length ≤ 200000) (ho : oneF l = none) : Calls Tryz.prog 22 #[v] w fun e w' => e = .returned (.int .i64 0) ∧ Below w.heap.size w w' := by
  have h1 := one_any w v l h (by omega)
  rw [ho] at h1
  go_enter Tryz.func22, Tryz.ntmps22
  go_wp2_with (first
    | (go_at_call 53; refine h1.mono ?_; rintro r w2 ⟨rfl, hb2⟩)
    | (go_at_call 52; refine (truth0_any _).mono ?_; rintro r w3 ⟨rfl, rfl⟩))
  go_ret
  exact ⟨rfl, hb2⟩
/-- A machine between two picks. -/
structure DnS (w : World) (Z : Nat → Prop) (K : TsK) (codes : List (List Ins)) (ob A B : Nat) (wr : World) (s : Ts) (c : Nat) : Prop where
  m : Mch Z wr K codes s
  ok : OkS codes s
  bel : Below w.heap.size w wr
  oa : wr.cell? ⟨ob, 2, none⟩ = some (.int .i64 (A : Int))
  ob_ : wr.cell? ⟨ob, 3, none⟩ = some (.int .i64 (B : Int))
  nt : s.ths.length = 2
  nm : s.mem.length ≤ 2000
  ne : s.evs.length + s.pend ≤ 2 * c
theorem DnS.more {w : World} {Z : Nat → Prop} {K : TsK} {codes : List (List Ins)} {ob A B : Nat} {wr : World} {s : Ts} {c c' : Nat} (h : DnS w Z K codes ob A B wr s c) (hc : c ≤ c') : DnS w Z K codes ob A B wr s c' := ⟨h.m, h.ok, h.bel, h.oa, h.ob_, h.nt, h.nm, by have := h.ne; omega⟩
theorem DnS.below {w : World} {Z : Nat → Prop} {K : TsK} {codes : List (List Ins)} {ob A B : Nat} {wr w' : World} {s : Ts} {c : Nat} (h : DnS w Z K codes ob A B wr s c) (hb : Below wr.heap.size wr w') : DnS w Z K codes ob A B w' s c :=
  ⟨h.m.keep (h.m.m.below hb) (Only.of_below (F := fun _ => False) hb (Nat.le_refl _)) (fun _ e => e.elim), h.ok, h.bel.trans (hb.mono h.bel.size), (hb.cell (block_lt_of_cell h.oa)).trans h.oa, (hb.cell (block_lt_of_cell h.ob_)).trans h.ob_, h.nt, h.nm, h.ne⟩
theorem stop_snoc (l : List Ev) (x : Ev) (t : Nat) : stopE (l ++ [x]) t = (x.kind == 7 && x.who == t && x.k == 1) := by
  unfold stopE
  rw [List.getLast?_concat]
theorem DnS.next {w : World} {Z : Nat → Prop} {K : TsK} {codes : List (List Ins)} {ob A B : Nat} {wr w' : World} {s s' : Ts} {c : Nat} {p : Nat × Nat} (h : DnS w Z K codes ob A B wr s c) (hp : s.pick codes p = some s') (hM : TsM Z w' K s') (ho : Only (fun k => ¬ Z k) wr w') (hZ : ∀ k, k < w.heap.size → Z k) (hob : Z ob) : DnS w Z K codes ob A B w' s' (c + 1) := by
  obtain ⟨o1, o2, o3, o4, o5, o6⟩ := pick_ok h.ok hp
  refine ⟨h.m.keep hM ho (fun k e => e), o1, h.bel.trans (ho.below h.bel.size (fun k e => ?_)), ?_, ?_, o2.trans h.nt, by rw [o3]; exact h.nm, by have := h.ne; omega⟩
  · rcases Nat.lt_or_ge k w.heap.size with h | h
    · exact absurd (hZ k h) e
    · exact h
  · exact (World.cell?_of_block (w := wr) (a := ⟨ob, 2, none⟩) (ho.block ob (block_lt_of_cell h.oa) (fun e => e hob))).trans h.oa
  · exact (World.cell?_of_block (w := wr) (a := ⟨ob, 3, none⟩) (ho.block ob (block_lt_of_cell h.ob_) (fun e => e hob))).trans h.ob_
set_option maxHeartbeats 4000000 in
theorem duoNeeds_any (w : World) (TI : TabI w) (TO : TabO w) (x0 x1 x2 x3 : Int) (h0 : 0 ≤ x0 ∧ x0 ≤ 255) (h1 : 0 ≤ x1 ∧ x1 ≤ 255) (h2 : 0 ≤ x2 ∧ x2 ≤ 255) (h3 : 0 ≤ x3 ∧ x3 ≤ 255) :
    Calls Tryz.prog 4 #[.agg #[.int .u8 x0, .int .u8 x1, .int .u8 x2, .int .u8 x3]] w fun e w' => e = .returned (.bool true) ∧ Below w.heap.size w w' := by
  obtain ⟨k, hk⟩ : ∃ k : Nat, 6 + x0 % 2 = (k : Int) := ⟨(6 + x0 % 2).toNat, by omega⟩
  obtain ⟨A, hA⟩ : ∃ A : Nat, x1 % 2 = (A : Int) := ⟨(x1 % 2).toNat, by omega⟩
  obtain ⟨M, hM⟩ : ∃ M : Nat, 3 + x3 % 14 = (M : Int) := ⟨(3 + x3 % 14).toNat, by omega⟩
  have hk6 : k = 6 ∨ k = 7 := by omega
  have hA2 : A < 2 := by omega
  have hM3 : 3 ≤ M ∧ M ≤ 16 := by omega
  obtain ⟨B, hB⟩ : ∃ B : Nat, 1 - A = B := ⟨_, rfl⟩
  have hAB : 1 - (A : Int) = (B : Int) := by omega
  have haw := fun W (hW : Below w.heap.size w W) => awake17_any W (TI.below hW (Nat.le_refl _)) (TO.below hW (Nat.le_refl _))
  have hob := fun W => object17 W x0 x1 x2 x3 h0 h1 h2 h3
  rw [hk, hA, hAB] at hob
  have hw14 : wrap64 (3 + (wrap64 x3).tmod 14) = (M : Int) := by
    have e : wrap64 x3 = x3 := by unfold wrap64; omega
    rw [e, Int.tmod_eq_emod_of_nonneg h3.1]
    unfold wrap64
    omega
  have hml : (duM k).length ≤ 4 ∧ 0 < (duM k).length := by rcases hk6 with rfl | rfl <;> decide
  have hmw : ∀ v ∈ mem0 (duM k), wd v = true := by rcases hk6 with rfl | rfl <;> decide
  have hcok := wk_ok hk6 hA2
  have hlF := fun t => (wk_short hk6 hA2 t).1
  have hlG := fun t => (wk_short hk6 hA2 t).2
  have hsm : ∀ t, (duF k A t).length = (duF k A t).length := fun _ => rfl
  have hlen : ∀ t, t < 2 → (resL (duF k A t)).length ≤ 3000 ∧ (resL (duG k A t)).length ≤ 3000 := fun t ht => by
    have a := (hlF t).1; have b := (hlG t).1
    unfold wkF at a; unfold wkG at b
    rw [List.length_map, lim_eq _ (by omega)] at a b
    omega
  have hrd : ∀ W, Below w.heap.size w W → ∀ bo, W.heap[bo]? = some (.cells #[.int .i64 (k : Int), .int .i64 0, .int .i64 (A : Int), .int .i64 (B : Int)] 27 (0, 0)) → Calls Tryz.prog 10 #[.agg #[.int .i64 (k : Int), .int .i64 0, .int .i64 (A : Int), .int .i64 (B : Int)], .int .i64 2, .int .i64 1, .int .i64 M, .func (.func 18) #[] #[.pointer (some ⟨bo, 0, none⟩)]] W fun e w' => ∃ cv mv, e = .returned (.tuple #[.agg #[cv, mv, .int .i64 M], .bool true]) ∧ w'.ownsRow W.heap.size 50 1 mv (16 + (duM k).length) (w32 (mem0 (duM k))) ∧ CsW W w' (W.heap.size + 1) cv (fun t => roundsR (wkF k A t) (wkG k A t) 1 []) 2 ∧ Below W.heap.size W w' := fun W hW bo ho => by
    have hkeep := fun W' (hW' : Below W.heap.size W W') => (hW'.block bo (Array.getElem?_eq_some_iff.1 ho).1).trans ho
    have ti := fun W' (hW' : Below W.heap.size W W') => TI.below (hW.trans (hW'.mono hW.size)) (Nat.le_refl _)
    have to_ := fun W' (hW' : Below W.heap.size W W') => TO.below (hW.trans (hW'.mono hW.size)) (Nat.le_refl _)
    exact rounds_any W (TI.below hW (Nat.le_refl _)) k 0 A B 2 1 M 18 #[.pointer (some ⟨bo, 0, none⟩)] (wkF k A) (wkG k A) (duM k)
      (fun t ht W' hW' => by
        have h := dn_1 W' k A B 1 t bo (resL (duF k A t)) (hlen t ht).1 (hkeep W' hW') (by have := du1 W' (ti W' hW') (to_ W' hW') k A t hk6 hA2 ht; rw [hB] at this; exact this)
        rw [← lim_eq (duF k A) (show t < 4 by omega)] at h
        exact h)
      (fun t ht W' hW' => by
        have h := dn_1 W' k A B 2 t bo (resL (duG k A t)) (hlen t ht).2 (hkeep W' hW') (by have := du2 W' (ti W' hW') (to_ W' hW') k A t hk6 hA2 ht; rw [hB] at this; exact this)
        rw [← lim_eq (duG k A) (show t < 4 by omega)] at h
        exact h)
      (fun W' hW' => by
        rcases hk6 with rfl | rfl
        · exact first_6 W' (to_ W' hW') 0 A B 2 (by unfold RightP; omega)
        · exact first_7 W' (to_ W' hW') 0 A B 2 (by unfold RightP; omega))
      (fun args w => enters_of Tryz.func18 (by kernel_rfl) rfl args w) (by omega) (by omega) (by omega) (by omega) (by omega) (by omega) hlF hlG
  obtain ⟨s1, s2, hp1, hp2, hone⟩ := wk_runs hk6 hA2 hM3.1 hM3.2
  rw [hB] at hp2
  obtain ⟨ml, hml2⟩ : ∃ ml, (duM k).length = ml := ⟨_, rfl⟩
  rw [hml2] at hrd
  have HAW := Lib.hid haw
  have HOB := Lib.hid hob
  have HRD := Lib.hid hrd
  have HCO := Lib.hid hcok
  have HRUN := Lib.hid (And.intro hp1 (And.intro hp2 hone))
  have HM := Lib.hid (And.intro hml (And.intro hmw (And.intro hM3 hml2)))
  have HTI := Lib.hid TI
  have HAB := Lib.hid (And.intro hA2 hB)
  clear haw hob hrd hcok hp1 hp2 hone hml hmw hM3 hA2 hB TI TO h0 h1 h2 h3 hk hA hM hk6 hAB hlF hlG hsm hlen hml2
  have hB0 : Below w.heap.size w (w.alloc (.cells #[.int .u8 x0, .int .u8 x1, .int .u8 x2, .int .u8 x3] 55)) := (Below.refl _ w).alloc (Nat.le_refl _) _
  go_enter Tryz.func4, Tryz.ntmps4
  go_wp2_with (first
    | (go_at_call 16; refine (HAW.out _ hB0).mono ?_; rintro r w1 ⟨rfl, hb1⟩; have c0 : w1.cell? ⟨w.heap.size, 0, none⟩ = some (.int .u8 x0) := cell_of_row w1 _ 0 _ _ _ ((hb1.block w.heap.size (by simp)).trans (heap_alloc_new _ _)); have c1 : w1.cell? ⟨w.heap.size, 1, none⟩ = some (.int .u8 x1) := cell_of_row w1 _ 1 _ _ _ ((hb1.block w.heap.size (by simp)).trans (heap_alloc_new _ _)); have c2 : w1.cell? ⟨w.heap.size, 2, none⟩ = some (.int .u8 x2) := cell_of_row w1 _ 2 _ _ _ ((hb1.block w.heap.size (by simp)).trans (heap_alloc_new _ _)); have c3 : w1.cell? ⟨w.heap.size, 3, none⟩ = some (.int .u8 x3) := cell_of_row w1 _ 3 _ _ _ ((hb1.block w.heap.size (by simp)).trans (heap_alloc_new _ _)); have hB1 : Hid (Below w.heap.size w w1) := Lib.hid (hB0.trans (hb1.mono (by simp))); clear hb1)
    | (go_at_call 17; refine (HOB.out _).mono ?_; rintro r w2 ⟨rfl, hb2⟩; have c3a : ∀ X, (w2.alloc X).cell? ⟨w.heap.size, 3, none⟩ = some (.int .u8 x3) := fun X => alloc_cell1 ((hb2.cell (block_lt_of_cell c3)).trans c3)))
  have hBo : Below w.heap.size w w2 := hB1.out.trans (hb2.mono hB1.out.size)
  rw [hw14]
  refine (HRD.out _ (hBo.alloc hBo.size _) _ (at_new rfl)).mono ?_
  rintro r w4 ⟨cv, mv, rfl, hmv, hcs, hb4⟩
  obtain ⟨ggx, cpx, hcox, _⟩ := hcs.ex
  obtain ⟨gv, pv, rfl⟩ := own_form hcox (by omega)
  obtain ⟨gm5, pm5, rfl⟩ := own_form hmv (by omega)
  obtain ⟨ob, hob⟩ : ∃ ob, w2.heap.size = ob := ⟨_, rfl⟩
  have hrow4 : w4.heap[ob]? = some (.cells #[.int .i64 (k : Int), .int .i64 0, .int .i64 (A : Int), .int .i64 (B : Int)] 27 (0, 0)) := by
    rw [← hob]; exact (hb4.block _ (by simp)).trans (heap_alloc_new _ _)
  have HB4 : Hid (Below w.heap.size w w4) := Lib.hid ((hBo.alloc hBo.size _).trans (hb4.mono (by have := hBo.size; simp; omega)))
  have HMV := Lib.hid (Rd.of_own hmv)
  have HCS := Lib.hid (cdp_of hcs)
  have HROW := Lib.hid hrow4
  rw [hob]
  clear hmv hcs hcox hb4 hrow4 hBo hb2 c3a c0 c1 c2 c3 hw14 HRD HOB HAW hB0 hB1 hob
  go_wp2_with fail
  have hmem0 : (mem0 (duM k)).length = 16 + ml := by unfold mem0; rw [List.length_append, List.length_replicate, HM.out.2.2.2]
  have hnew : ∀ X, Calls Tryz.prog 12 #[.agg #[.slice (some ⟨gv, 0, none⟩) 2 pv, .slice (some ⟨gm5, 0, none⟩) (16 + ml) pm5, .int .i64 M]] (w4.alloc X) fun e w' => ∃ (Z : Nat → Prop) (K : TsK), e = .returned (.tuple #[.pointer (some ⟨K.mb, 0, none⟩), .int .i64 0]) ∧ Mch Z w' K (codesR (wkF k A) (wkG k A) 2 1) (ts0 (mem0 (duM k)) M 2) ∧ (∀ k, k < (w4.alloc X).heap.size → Z k) ∧ Below (w4.alloc X).heap.size (w4.alloc X) w' ∧ (mem0 (duM k)).length ≤ K.mc := fun X => by
    have h := new_ts (w4.alloc X) (HTI.out.below (HB4.out.alloc HB4.out.size X) (Nat.le_refl _)) gv pv M pm5 (some ⟨gm5, 0, none⟩) (mem0 (duM k)) (codesR (wkF k A) (wkG k A) 2 1) (HCS.out.below ((Below.refl _ _).alloc (Nat.le_refl _) _)) (by rw [hmem0]; exact HMV.out.alloc X) (by rw [codesR_len]; omega) (by rw [codesR_len]; omega) (by rw [hmem0]; omega) (by rw [hmem0]; have := HM.out.1; have := HM.out.2.2.2; omega) (by have := HM.out.2.2.1; omega) (by have := HM.out.2.2.1; omega) (fun L hL => ⟨(HCO.out L hL).2.1, fun x hx => by
      have := (HCO.out L hL).2.2 x hx
      simp only [okI, Bool.and_eq_true] at this
      exact this.1.1⟩) (fun L hL => (HCO.out L hL).1)
    rw [codesR_len, hmem0] at h
    rw [hmem0]
    exact h
  refine (hnew _).mono ?_
  rintro r w5 ⟨Z, K, rfl, hm5, hz5, hb5, hmc⟩
  have hkk : Below w4.heap.size w4 w5 := ((Below.refl _ w4).alloc (Nat.le_refl _) _).trans (hb5.mono (by simp))
  have hD0 : DnS w Z K (codesR (wkF k A) (wkG k A) 2 1) ob A B w5 (ts0 (mem0 (duM k)) M 2) 0 := by
    have hk0 := ok0 HCO.out (mem := mem0 (duM k)) (room := M) HM.out.2.1
    rw [codesR_len] at hk0
    refine ⟨hm5, hk0, HB4.out.trans (hkk.mono HB4.out.size), (hkk.cell (Array.getElem?_eq_some_iff.1 HROW.out).1).trans (cellsQ4 HROW.out).2.2.1, (hkk.cell (Array.getElem?_eq_some_iff.1 HROW.out).1).trans (cellsQ4 HROW.out).2.2.2, by simp [ts0], ?_, ?_⟩
    · show (mem0 (duM k)).length ≤ 2000
      rw [hmem0]; have := HM.out.1; have := HM.out.2.2.2; omega
    · have h1 : (ts0 (mem0 (duM k)) M 2).evs.length = 0 := rfl
      have h2 : (ts0 (mem0 (duM k)) M 2).pend = 0 := by simp [ts0, Ts.pend]
      omega
  have HD0 := Lib.hid hD0
  have HZ : Hid ((∀ k, k < w.heap.size → Z k) ∧ Z ob) := Lib.hid ⟨fun j hj => hz5 j (by have := HB4.out.size; simp; omega), hz5 ob (by have := (Array.getElem?_eq_some_iff.1 HROW.out).1; simp; omega)⟩
  clear hnew hm5 hz5 hb5 hmc hkk hD0 hmem0 HB4 HROW HMV HCS HTI HM
  go_wp2_with fail
  go_loopg [11] 2 (fun g iv wr => ∃ s : Ts, (g = 2 ∧ iv = .int .i64 0 ∧ Hid (DnS w Z K (codesR (wkF k A) (wkG k A) 2 1) ob A B wr s 0 ∧ press (codesR (wkF k A) (wkG k A) 2 1) A 100 s = some s1)) ∨ (g = 1 ∧ iv = .int .i64 1 ∧ Hid (DnS w Z K (codesR (wkF k A) (wkG k A) 2 1) ob A B wr s 100 ∧ press (codesR (wkF k A) (wkG k A) 2 1) B 100 s = some s2)) ∨ (g = 0 ∧ iv = .int .i64 2 ∧ Hid (DnS w Z K (codesR (wkF k A) (wkG k A) 2 1) ob A B wr s 200 ∧ s = s2)))
  case atStart => exact ⟨_, .inl ⟨rfl, rfl, Lib.hid ⟨HD0.out, HRUN.out.1⟩⟩⟩
  case round =>
    clear HD0
    obtain ⟨s, ⟨hg, rfl, HR⟩ | ⟨hg, rfl, HR⟩ | ⟨hg, rfl, HR⟩⟩ := hrel
    · obtain ⟨gq, rfl⟩ : ∃ gq, gk = gq + 1 := ⟨gk - 1, by omega⟩
      have oa := HR.out.1.oa
      obtain ⟨wo, hwo⟩ : ∃ x, x = wr := ⟨_, rfl⟩
      subst hwo
      have HIN := Lib.hid (show DnS w Z K (codesR (wkF k A) (wkG k A) 2 1) ob A B _ s (0 + 0) ∧ press (codesR (wkF k A) (wkG k A) 2 1) A 100 s = some s1 from HR.out)
      clear HR
      go_wp2_with fail
      clear oa
      go_loopg [13] 100 (fun g iv wr => ∃ (j : Nat) (s : Ts), j + g = 100 ∧ iv = .int .i64 j ∧ Hid (DnS w Z K (codesR (wkF k A) (wkG k A) 2 1) ob A B wr s (0 + j) ∧ press (codesR (wkF k A) (wkG k A) 2 1) A g s = some s1))
      case atStart => exact ⟨0, _, by omega, rfl, HIN⟩
      case round =>
        obtain ⟨j, s', hj, rfl, HR⟩ := hrel
        clear HIN
        by_cases hlt : j < 100
        · obtain ⟨g2, rfl⟩ : ∃ g2, gk = g2 + 1 := ⟨gk - 1, by omega⟩
          have hil : (j : Int) < 100 := by omega
          have hwr : wrap64 ((j : Int) + 1) = (j : Int) + 1 := by unfold wrap64; omega
          obtain ⟨sn, hpk, hor⟩ := press_step HR.out.2
          have hD := HR.out.1
          have hpick : Calls Tryz.prog 21 #[.pointer (some ⟨K.mb, 0, none⟩), .agg #[.int .i64 0, .int .i64 (A : Int)]] wr fun e w' => e = .returned (.tuple #[]) ∧ TsM Z w' K sn ∧ Only (fun k => ¬ Z k) wr w' := pick_ts (kd := 0) (who := A) hD.m hD.ok (by rw [hD.nt]; omega) (by have := hD.ne; omega) hD.nm hpk
          have HPK := Lib.hid hpick
          have HOR := Lib.hid hor
          have HDP := Lib.hid (And.intro hD hpk)
          clear hpick hor hD hpk
          go_wp2_with (go_at_call 21; refine HPK.out.mono ?_; rintro r w6 ⟨rfl, hm6, ho6⟩)
          have hD6 := HDP.out.1.next HDP.out.2 hm6 ho6 HZ.out.1 HZ.out.2
          have hevs := events_ts hm6 (by have := hD6.ne; omega)
          refine hevs.mono ?_
          rintro r w7 ⟨ve, rfl, hve, hb7⟩
          have HD7 := Lib.hid (hD6.below hb7)
          obtain ⟨Ae, ce, rfl, hce, hle, hcell⟩ := Rd.of_own hve
          have HCE := Lib.hid hcell
          have hne7 := hD6.ne
          have HN7 := Lib.hid (show sn.evs.length ≤ 100000 by omega)
          clear hevs hve hb7 hm6 ho6 hD6 hcell hce hle hne7 HPK HDP HR
          rcases List.eq_nil_or_concat sn.evs with hnil | ⟨l0, x, hlx⟩
          · have hps : press (codesR (wkF k A) (wkG k A) 2 1) A g2 sn = some s1 := by
              rcases HOR.out with ⟨h, _⟩ | ⟨_, h⟩
              · rw [hnil] at h; cases h
              · exact h
            have hl0 : sn.evs.length = 0 := by rw [hnil]; rfl
            rw [hl0]
            clear hnil hl0 HOR HCE HN7
            go_wp2_with fail
            go_roundg g2
            case rel => exact ⟨j + 1, sn, by omega, by first | (simp; done) | (simp; exact hwr), Lib.hid ⟨by have := HD7.out; rwa [Nat.add_assoc] at this, hps⟩⟩
            case measure => omega
          · obtain ⟨m, hm⟩ : ∃ m, l0.length = m := ⟨_, rfl⟩
            have hlen : sn.evs.length = m + 1 := by rw [hlx, List.concat_eq_append, List.length_append, hm]; rfl
            have hx : sn.evs[m]? = some x := by rw [hlx, List.concat_eq_append, ← hm, List.getElem?_concat_length]
            have hstop : stopE sn.evs A = (x.kind == 7 && x.who == A && x.k == 1) := by rw [hlx, List.concat_eq_append]; exact stop_snoc _ _ _
            obtain ⟨b0, off, rfl, hbl, hce⟩ : ∃ b off, Ae = some ⟨b, off, none⟩ ∧ b < w7.heap.size ∧ ∀ j u, (flatE sn.evs)[j]? = some u → w7.cell? ⟨b, off + j, none⟩ = some u := by
              rcases HCE.out with ⟨_, h⟩ | h
              · omega
              · exact h
            obtain ⟨y0, y1, y2, y3, y4, y5, y6, y7⟩ := ev_cells hce hx
            have hm7 : m ≤ 100000 := by have := HN7.out; omega
            have r0 : (0 : Int) < (m : Int) + 1 := by omega
            have r1 : wrap64 ((m : Int) + 1 - 1) = (m : Int) := by unfold wrap64; omega
            have r2 : (m : Int) < (m : Int) + 1 := by omega
            have HST := Lib.hid hstop
            rw [hlen]
            clear hce hx y2 y3 y4 y5 y7 hstop hlx hlen HCE HN7 hbl hm
            by_cases a7 : x.kind = 7
            · by_cases aw : x.who = A
              · by_cases ak : x.k = 1
                · have hen : s1 = sn := by
                    rcases HOR.out with ⟨_, h⟩ | ⟨h, _⟩
                    · exact h
                    · rw [HST.out, a7, aw, ak] at h; simp at h
                  have q7 : (x.kind == 7) = true := by simpa using a7
                  have qw : ((x.who : Int) == (A : Int)) = true := by simp; omega
                  have qk : (x.k == 1) = true := by simpa using ak
                  clear HOR HST a7 aw ak
                  go_wp2_with fail
                  go_roundg gq
                  case rel => exact ⟨s1, .inr (.inl ⟨by omega, by first | rfl | (simp; done) | decide, Lib.hid ⟨by rw [hen]; exact (HD7.out.more (by omega)), HRUN.out.2.1⟩⟩)⟩
                  case measure => omega
                · have hps : press (codesR (wkF k A) (wkG k A) 2 1) A g2 sn = some s1 := by
                    rcases HOR.out with ⟨h, _⟩ | ⟨_, h⟩
                    · rw [HST.out] at h; simp at h; exact absurd h.2 ak
                    · exact h
                  have q7 : (x.kind == 7) = true := by simpa using a7
                  have qw : ((x.who : Int) == (A : Int)) = true := by simp; omega
                  have qk : (x.k == 1) = false := by simpa using ak
                  clear HOR HST a7 aw ak
                  go_wp2_with fail
                  go_roundg g2
                  case rel => exact ⟨j + 1, sn, by omega, by first | (simp; done) | (simp; exact hwr), Lib.hid ⟨by have := HD7.out; rwa [Nat.add_assoc] at this, hps⟩⟩
                  case measure => omega
              · have hps : press (codesR (wkF k A) (wkG k A) 2 1) A g2 sn = some s1 := by
                  rcases HOR.out with ⟨h, _⟩ | ⟨_, h⟩
                  · rw [HST.out] at h; simp at h; exact absurd h.1.2 aw
                  · exact h
                have q7 : (x.kind == 7) = true := by simpa using a7
                have qw : ((x.who : Int) == (A : Int)) = false := by simp; omega
                clear HOR HST a7 aw
                go_wp2_with fail
                go_roundg g2
                case rel => exact ⟨j + 1, sn, by omega, by first | (simp; done) | (simp; exact hwr), Lib.hid ⟨by have := HD7.out; rwa [Nat.add_assoc] at this, hps⟩⟩
                case measure => omega
            · have hps : press (codesR (wkF k A) (wkG k A) 2 1) A g2 sn = some s1 := by
                rcases HOR.out with ⟨h, _⟩ | ⟨_, h⟩
                · rw [HST.out] at h; simp at h; exact absurd h.1.1 a7
                · exact h
              have q7 : (x.kind == 7) = false := by simpa using a7
              clear HOR HST a7
              go_wp2_with fail
              go_roundg g2
              case rel => exact ⟨j + 1, sn, by omega, by first | (simp; done) | (simp; exact hwr), Lib.hid ⟨by have := HD7.out; rwa [Nat.add_assoc] at this, hps⟩⟩
              case measure => omega
        · have hil : ¬ ((j : Int) < 100) := by omega
          have hgk : gk = 0 := by omega
          have hen : s1 = s' := by
            have h := HR.out.2
            rw [hgk] at h
            exact (Option.some.inj h).symm
          have hD := Lib.hid HR.out.1
          clear HR
          go_wp2_with fail
          go_roundg gq
          case rel => exact ⟨s1, .inr (.inl ⟨by omega, by first | rfl | (simp; done) | decide, Lib.hid ⟨by rw [hen]; exact (hD.out.more (by omega)), HRUN.out.2.1⟩⟩)⟩
          case measure => omega
    · obtain ⟨gq, rfl⟩ : ∃ gq, gk = gq + 1 := ⟨gk - 1, by omega⟩
      have oa := HR.out.1.oa
      have ob3 := HR.out.1.ob_
      obtain ⟨wo, hwo⟩ : ∃ x, x = wr := ⟨_, rfl⟩
      subst hwo
      have HIN := Lib.hid (show DnS w Z K (codesR (wkF k A) (wkG k A) 2 1) ob A B _ s (100 + 0) ∧ press (codesR (wkF k A) (wkG k A) 2 1) B 100 s = some s2 from HR.out)
      clear HR
      go_wp2_with fail
      clear oa ob3
      go_loopg [13] 100 (fun g iv wr => ∃ (j : Nat) (s : Ts), j + g = 100 ∧ iv = .int .i64 j ∧ Hid (DnS w Z K (codesR (wkF k A) (wkG k A) 2 1) ob A B wr s (100 + j) ∧ press (codesR (wkF k A) (wkG k A) 2 1) B g s = some s2))
      case atStart => exact ⟨0, _, by omega, rfl, HIN⟩
      case round =>
        obtain ⟨j, s', hj, rfl, HR⟩ := hrel
        clear HIN
        by_cases hlt : j < 100
        · obtain ⟨g2, rfl⟩ : ∃ g2, gk = g2 + 1 := ⟨gk - 1, by omega⟩
          have hil : (j : Int) < 100 := by omega
          have hwr : wrap64 ((j : Int) + 1) = (j : Int) + 1 := by unfold wrap64; omega
          obtain ⟨sn, hpk, hor⟩ := press_step HR.out.2
          have hD := HR.out.1
          have hpick : Calls Tryz.prog 21 #[.pointer (some ⟨K.mb, 0, none⟩), .agg #[.int .i64 0, .int .i64 (B : Int)]] wr fun e w' => e = .returned (.tuple #[]) ∧ TsM Z w' K sn ∧ Only (fun k => ¬ Z k) wr w' := pick_ts (kd := 0) (who := B) hD.m hD.ok (by rw [hD.nt]; omega) (by have := hD.ne; omega) hD.nm hpk
          have HPK := Lib.hid hpick
          have HOR := Lib.hid hor
          have HDP := Lib.hid (And.intro hD hpk)
          clear hpick hor hD hpk
          go_wp2_with (go_at_call 21; refine HPK.out.mono ?_; rintro r w6 ⟨rfl, hm6, ho6⟩)
          have hD6 := HDP.out.1.next HDP.out.2 hm6 ho6 HZ.out.1 HZ.out.2
          have hevs := events_ts hm6 (by have := hD6.ne; omega)
          refine hevs.mono ?_
          rintro r w7 ⟨ve, rfl, hve, hb7⟩
          have HD7 := Lib.hid (hD6.below hb7)
          obtain ⟨Ae, ce, rfl, hce, hle, hcell⟩ := Rd.of_own hve
          have HCE := Lib.hid hcell
          have hne7 := hD6.ne
          have HN7 := Lib.hid (show sn.evs.length ≤ 100000 by omega)
          clear hevs hve hb7 hm6 ho6 hD6 hcell hce hle hne7 HPK HDP HR
          rcases List.eq_nil_or_concat sn.evs with hnil | ⟨l0, x, hlx⟩
          · have hps : press (codesR (wkF k A) (wkG k A) 2 1) B g2 sn = some s2 := by
              rcases HOR.out with ⟨h, _⟩ | ⟨_, h⟩
              · rw [hnil] at h; cases h
              · exact h
            have hl0 : sn.evs.length = 0 := by rw [hnil]; rfl
            rw [hl0]
            clear hnil hl0 HOR HCE HN7
            go_wp2_with fail
            go_roundg g2
            case rel => exact ⟨j + 1, sn, by omega, by first | (simp; done) | (simp; exact hwr), Lib.hid ⟨by have := HD7.out; rwa [Nat.add_assoc] at this, hps⟩⟩
            case measure => omega
          · obtain ⟨m, hm⟩ : ∃ m, l0.length = m := ⟨_, rfl⟩
            have hlen : sn.evs.length = m + 1 := by rw [hlx, List.concat_eq_append, List.length_append, hm]; rfl
            have hx : sn.evs[m]? = some x := by rw [hlx, List.concat_eq_append, ← hm, List.getElem?_concat_length]
            have hstop : stopE sn.evs B = (x.kind == 7 && x.who == B && x.k == 1) := by rw [hlx, List.concat_eq_append]; exact stop_snoc _ _ _
            obtain ⟨b0, off, rfl, hbl, hce⟩ : ∃ b off, Ae = some ⟨b, off, none⟩ ∧ b < w7.heap.size ∧ ∀ j u, (flatE sn.evs)[j]? = some u → w7.cell? ⟨b, off + j, none⟩ = some u := by
              rcases HCE.out with ⟨_, h⟩ | h
              · omega
              · exact h
            obtain ⟨y0, y1, y2, y3, y4, y5, y6, y7⟩ := ev_cells hce hx
            have hm7 : m ≤ 100000 := by have := HN7.out; omega
            have r0 : (0 : Int) < (m : Int) + 1 := by omega
            have r1 : wrap64 ((m : Int) + 1 - 1) = (m : Int) := by unfold wrap64; omega
            have r2 : (m : Int) < (m : Int) + 1 := by omega
            have HST := Lib.hid hstop
            rw [hlen]
            clear hce hx y2 y3 y4 y5 y7 hstop hlx hlen HCE HN7 hbl hm
            by_cases a7 : x.kind = 7
            · by_cases aw : x.who = B
              · by_cases ak : x.k = 1
                · have hen : s2 = sn := by
                    rcases HOR.out with ⟨_, h⟩ | ⟨h, _⟩
                    · exact h
                    · rw [HST.out, a7, aw, ak] at h; simp at h
                  have q7 : (x.kind == 7) = true := by simpa using a7
                  have qw : ((x.who : Int) == (B : Int)) = true := by simp; omega
                  have qk : (x.k == 1) = true := by simpa using ak
                  clear HOR HST a7 aw ak
                  go_wp2_with fail
                  go_roundg gq
                  case rel => exact ⟨s2, .inr (.inr ⟨by omega, by first | rfl | (simp; done) | decide, Lib.hid ⟨by rw [hen]; exact (HD7.out.more (by omega)), rfl⟩⟩)⟩
                  case measure => omega
                · have hps : press (codesR (wkF k A) (wkG k A) 2 1) B g2 sn = some s2 := by
                    rcases HOR.out with ⟨h, _⟩ | ⟨_, h⟩
                    · rw [HST.out] at h; simp at h; exact absurd h.2 ak
                    · exact h
                  have q7 : (x.kind == 7) = true := by simpa using a7
                  have qw : ((x.who : Int) == (B : Int)) = true := by simp; omega
                  have qk : (x.k == 1) = false := by simpa using ak
                  clear HOR HST a7 aw ak
                  go_wp2_with fail
                  go_roundg g2
                  case rel => exact ⟨j + 1, sn, by omega, by first | (simp; done) | (simp; exact hwr), Lib.hid ⟨by have := HD7.out; rwa [Nat.add_assoc] at this, hps⟩⟩
                  case measure => omega
              · have hps : press (codesR (wkF k A) (wkG k A) 2 1) B g2 sn = some s2 := by
                  rcases HOR.out with ⟨h, _⟩ | ⟨_, h⟩
                  · rw [HST.out] at h; simp at h; exact absurd h.1.2 aw
                  · exact h
                have q7 : (x.kind == 7) = true := by simpa using a7
                have qw : ((x.who : Int) == (B : Int)) = false := by simp; omega
                clear HOR HST a7 aw
                go_wp2_with fail
                go_roundg g2
                case rel => exact ⟨j + 1, sn, by omega, by first | (simp; done) | (simp; exact hwr), Lib.hid ⟨by have := HD7.out; rwa [Nat.add_assoc] at this, hps⟩⟩
                case measure => omega
            · have hps : press (codesR (wkF k A) (wkG k A) 2 1) B g2 sn = some s2 := by
                rcases HOR.out with ⟨h, _⟩ | ⟨_, h⟩
                · rw [HST.out] at h; simp at h; exact absurd h.1.1 a7
                · exact h
              have q7 : (x.kind == 7) = false := by simpa using a7
              clear HOR HST a7
              go_wp2_with fail
              go_roundg g2
              case rel => exact ⟨j + 1, sn, by omega, by first | (simp; done) | (simp; exact hwr), Lib.hid ⟨by have := HD7.out; rwa [Nat.add_assoc] at this, hps⟩⟩
              case measure => omega
        · have hil : ¬ ((j : Int) < 100) := by omega
          have hgk : gk = 0 := by omega
          have hen : s2 = s' := by
            have h := HR.out.2
            rw [hgk] at h
            exact (Option.some.inj h).symm
          have hD := Lib.hid HR.out.1
          clear HR
          go_wp2_with fail
          go_roundg gq
          case rel => exact ⟨s2, .inr (.inr ⟨by omega, by first | rfl | (simp; done) | decide, Lib.hid ⟨by rw [hen]; exact (hD.out.more (by omega)), rfl⟩⟩)⟩
          case measure => omega
    · have hse := HR.out.2
      subst hse
      have hD := HR.out.1
      have hevs := events_ts hD.m.m (by have := hD.ne; omega)
      have HEV := Lib.hid hevs
      have HBE := Lib.hid hD.bel
      have HNE := Lib.hid hD.ne
      clear hevs hD HR
      go_wp2_with (go_at_call 15; refine HEV.out.mono ?_; rintro r w7 ⟨ve, rfl, hve, hb7⟩)
      refine (One0_any w7 ve _ (Rd.of_own hve) (by have := HNE.out; omega) HRUN.out.2.2).mono ?_
      rintro r w8 ⟨rfl, hb8⟩
      have HF := Lib.hid (HBE.out.trans ((hb7.trans (hb8.mono hb7.size)).mono HBE.out.size))
      clear hve hb7 hb8
      go_wp2_with fail
      go_ret
      exact ⟨rfl, HF.out⟩
end Go.Proofs.YtipepbfpfmadaaaGreatDoor.As.T
