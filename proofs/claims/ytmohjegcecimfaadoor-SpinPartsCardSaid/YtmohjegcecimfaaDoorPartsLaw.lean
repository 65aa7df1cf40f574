/- The walks of the package deadlatchlaw15: the law on the parts of calls. -/
import Derived.Test.YtmohjegcecimfaaDoorSpinLaw
set_option linter.unusedVariables false
set_option linter.unusedSimpArgs false
namespace Go.Proofs.YtmohjegcecimfaaDoor.As
open Go.RowKit

theorem code_gen {w : World} {g : Nat} {b : List Ln} {s : BS} {F : Nat → Prop} (h : Bld w g s F) (hs : s = BS.zero.run b) (T : TabI w) (H : OkL b) :
    Calls Tryd.prog 20 #[.pointer (some ⟨g, 0, none⟩)] w (CodeOk w b) := by
  have hlen := run_len b BS.zero
  have hfew := H.few
  refine (code_any w g s F h T (by rw [hs]; have : BS.zero.code.length = 0 := rfl; omega) (by rw [hs]; intro p hp; have := links_run H p hp; unfold maxLen; omega)).mono ?_
  rintro e w' ⟨hB, h2⟩
  rcases h2 with ⟨h2, _⟩ | ⟨l, v, h2, rfl, hown⟩
  · rw [hs, out_run H] at h2; cases h2
  · rw [hs, out_run H] at h2
    injection h2 with h2
    subst h2
    exact ⟨⟨v, rfl, hown⟩, hB⟩
/-- Two builders, one behind the other. -/
theorem two_zero (w1 : World) : ∃ W, W = (w1.alloc zeroB).alloc zeroB ∧ Bat W (fun k => k = w1.heap.size) w1.heap.size 0 BS.zero W ∧ Bld W (w1.heap.size + 1) BS.zero (fun k => k = w1.heap.size + 1) ∧ W.heap.size = w1.heap.size + 2 ∧ Below w1.heap.size w1 W := by
  have h1 := bld_zero w1
  have h2 := bld_zero (w1.alloc zeroB)
  rw [World.size_alloc] at h2
  have ha : Below (w1.alloc zeroB).heap.size (w1.alloc zeroB) ((w1.alloc zeroB).alloc zeroB) := (Below.refl _ _).alloc (Nat.le_refl _) _
  exact ⟨_, rfl, Bat.start ⟨h1.good, mem_below h1.mem ha (Nat.le_refl _)⟩ (Nat.le_refl _) (Nat.le_refl _), h2, by simp, ((Below.refl _ w1).alloc (Nat.le_refl _) _).alloc (by simp) _⟩
/-- The second builder behind the first one's calls, and the first one behind the second one's. -/
theorem Bat.second {W wA : World} {ga N : Nat} {sA s : BS} (h : Bat W (fun k => k = ga) ga N sA wA) (h2 : Bld W (ga + 1) s (fun k => k = ga + 1)) : Bld wA (ga + 1) s (fun k => k = ga + 1) := by
  obtain ⟨F, hb, hs, _, _⟩ := h
  exact ⟨h2.good, mem_only h2.mem hs.1 (fun k e e' => by omega)⟩
theorem Bat.first {W wA wB : World} {ga N M : Nat} {sA sB : BS} (h : Bat W (fun k => k = ga) ga N sA wA) (hW : W.heap.size = ga + 2) (h2 : Bat wA (fun k => k = ga + 1) (ga + 1) M sB wB) : ∃ F, Bld wB ga sA F := by
  obtain ⟨F, hb, hs, _, _⟩ := h
  obtain ⟨F', hb', hs', _, _⟩ := h2
  exact ⟨F, hb.good, mem_only hb.mem hs'.1 (fun k e e' => by have := hs.2 k e; omega)⟩
theorem Bat.belowOf {W wA : World} {F0 : Nat → Prop} {g N B : Nat} {s : BS} (h : Bat W F0 g N s wA) (hB : B ≤ W.heap.size) (hF : ∀ k, F0 k → B ≤ k) : Below B W wA := by
  obtain ⟨F, hb, hs, _, _⟩ := h
  exact hs.1.below hB hF
set_option maxHeartbeats 8000000 in
theorem parts_any (w : World) (TI : TabI w) (TO : TabO w) (o t : Nat) (ho : o ≤ 65535) (ht : t ≤ 255) :
    Calls Tryd.prog 4 #[.int .u16 o, .int .u8 t] w fun e w' => e = .returned (.bool true) ∧ Below w.heap.size w w' := by
  have q1 : IntKind.u32.wrap (o : Int) = o := by rw [IntKind.wrap_u32]; omega
  have q2 : IntKind.i64.wrap (o : Int) = o := by rw [IntKind.wrap_i64]; omega
  have q3 : IntKind.i64.wrap (t : Int) = t := by rw [IntKind.wrap_i64]; omega
  go_enter Tryd.func4, Tryd.ntmps4
  go_wp2_with fail
  refine (awake15_any _ TI TO).mono ?_; rintro e w1 ⟨rfl, hb1⟩
  have TI1 := TI.below hb1 (Nat.le_refl _)
  obtain ⟨W, hWe, hA0, hB0, hWs, hWb⟩ := two_zero w1
  go_wp2_with fail
  rw [← hWe]
  refine (claim_at hA0 (by omega) o t (by omega)).mono ?_; rintro e w2 ⟨rfl, h2⟩
  go_wp2_with fail
  refine (zero_at h2 (by omega) o).mono ?_; rintro e w3 ⟨rfl, h3⟩
  go_wp2_with fail
  refine (close_at h3 (by omega)).mono ?_; rintro e w4 ⟨rfl, h4⟩
  have hB4 := h4.second hB0
  have hS4 : Bat w4 (fun k => k = w1.heap.size + 1) (w1.heap.size + 1) 0 BS.zero w4 := Bat.start hB4 (Nat.le_refl _) (Nat.le_refl _)
  have hb4 : Below w1.heap.size w1 w4 := hWb.trans (h4.belowOf (by omega) (fun k e => by omega))
  go_wp2_with fail
  refine (prove_at hS4 (by omega) o t (by omega)).mono ?_; rintro e w5 ⟨rfl, h5⟩
  go_wp2_with fail
  refine (close_at h5 (by omega)).mono ?_; rintro e w6 ⟨rfl, h6⟩
  obtain ⟨FA, hA6⟩ := h4.first hWs h6
  have hb46 : Below w1.heap.size w4 w6 := h6.belowOf (by have := hb4.size; omega) (fun k e => by omega)
  have hb6 : Below w1.heap.size w1 w6 := hb4.trans hb46
  have TI6 := TI1.below hb6 (Nat.le_refl _)
  have hB6 := hb1.trans (hb6.mono hb1.size)
  go_wp2_with fail
  refine (code_gen (b := linClaimZ o t) hA6 (by simp only [← BS.run_app]; exact congrArg (BS.run BS.zero) rfl) TI6 (okClaimZ (by omega) (by omega))).mono ?_; rintro e w7 ⟨⟨v, rfl, hv⟩, hb7⟩
  obtain ⟨FB, hbB, _, _, _⟩ := h6
  have hbB7 : Bld w7 (w1.heap.size + 1) _ FB := ⟨hbB.good, mem_below hbB.mem hb7 (Nat.le_refl _)⟩
  have TI7 := TI6.below hb7 (Nat.le_refl _)
  have hB7 := hB6.trans (hb7.mono hB6.size)
  go_wp2_with fail
  refine (code_gen (b := linProveE o t) hbB7 (by simp only [← BS.run_app]; exact congrArg (BS.run BS.zero) rfl) TI7 (okProveE (by omega) (by omega))).mono ?_; rintro e w8 ⟨⟨u, rfl, hu⟩, hb8⟩
  have hB8 := hB7.trans (hb8.mono hB7.size)
  obtain ⟨N, hN⟩ : ∃ N, N = (resL (linClaimZ o t)).length := ⟨_, rfl⟩
  obtain ⟨M, hM⟩ : ∃ M, M = (resL (linProveE o t)).length := ⟨_, rfl⟩
  have hN6 : N ≤ 1000000 := by rw [hN]; exact Nat.le_of_ble_eq_true rfl
  have hM6 : M ≤ 1000000 := by rw [hM]; exact Nat.le_of_ble_eq_true rfl
  rw [← hN] at hv
  rw [← hM] at hu
  have HN := Lib.hid hN
  have HM := Lib.hid hM
  clear hN hM
  have hRv := (Rd.of_own hv).below hb8 (Nat.le_refl _)
  have hRu := Rd.of_own hu
  clear hv hu
  obtain ⟨A1, c1, rfl⟩ := hRv.form
  obtain ⟨A2, c2, rfl⟩ := hRu.form
  go_wp2_with fail
  refine (claim15_any _ _ (by decide)).mono ?_; rintro e w9 ⟨⟨o1, rfl, ho1⟩, hb9⟩
  have z1 : o1.size ≤ 2000 := by (rw [size_toList, ho1]; decide)
  have hB9 := hB8.trans (hb9.mono hB8.size)
  go_wp2_with fail
  refine (end15_any _).mono ?_; rintro e w10 ⟨⟨o2, rfl, ho2⟩, hb10⟩
  have z2 : o2.size ≤ 2000 := by (rw [size_toList, ho2]; decide)
  have hB10 := hB9.trans (hb10.mono hB9.size)
  go_wp2_with fail
  refine (code15_any _ _ o t (resL (linClaimZ o t)) ?h0 ?hs (by omega) (by omega) ?hp).mono ?_
  case h0 => simp only [app_toList, ho1, ho2]; decide
  case hs => rw [size_toList]; simp only [app_toList, ho1, ho2]; decide +kernel
  case hp => simp only [app_toList, ho1, ho2]; exact parseClaimZ (by omega) (by omega)
  rintro e w11 ⟨⟨v1, rfl, hv1⟩, hb11⟩
  rw [← HN.out] at hv1
  have hR1 := Rd.of_own hv1
  clear hv1
  have hB11 := hB10.trans (hb11.mono hB10.size)
  go_wp2_with fail
  refine (prove15_any _ _ (by decide)).mono ?_; rintro e w12 ⟨⟨o3, rfl, ho3⟩, hb12⟩
  have z3 : o3.size ≤ 2000 := by (rw [size_toList, ho3]; decide)
  have hB12 := hB11.trans (hb12.mono hB11.size)
  go_wp2_with fail
  refine (end15_any _).mono ?_; rintro e w13 ⟨⟨o4, rfl, ho4⟩, hb13⟩
  have z4 : o4.size ≤ 2000 := by (rw [size_toList, ho4]; decide)
  have hB13 := hB12.trans (hb13.mono hB12.size)
  go_wp2_with fail
  refine (code15_any _ _ o t (resL (linProveE o t)) ?h0 ?hs (by omega) (by omega) ?hp).mono ?_
  case h0 => simp only [app_toList, ho3, ho4]; decide
  case hs => rw [size_toList]; simp only [app_toList, ho3, ho4]; decide +kernel
  case hp => simp only [app_toList, ho3, ho4]; exact parseProveE (by omega) (by omega)
  rintro e w14 ⟨⟨v2, rfl, hv2⟩, hb14⟩
  rw [← HM.out] at hv2
  have hR2 := Rd.of_own hv2
  clear hv2
  have hB14 := hB13.trans (hb14.mono hB13.size)
  have hRv14 := (((((hRv.below hb9 (Nat.le_refl _)).below hb10 (Nat.le_refl _)).below hb11 (Nat.le_refl _)).below hb12 (Nat.le_refl _)).below hb13 (Nat.le_refl _)).below hb14 (Nat.le_refl _)
  have hRu14 := (((((hRu.below hb9 (Nat.le_refl _)).below hb10 (Nat.le_refl _)).below hb11 (Nat.le_refl _)).below hb12 (Nat.le_refl _)).below hb13 (Nat.le_refl _)).below hb14 (Nat.le_refl _)
  have hR114 := ((hR1.below hb12 (Nat.le_refl _)).below hb13 (Nat.le_refl _)).below hb14 (Nat.le_refl _)
  go_wp2_with fail
  refine (same15_any _ _ _ (resL (linClaimZ o t)) N HN.out.symm hRv14 hR114 (by omega)).mono ?_; rintro e w15 ⟨rfl, m1, rfl⟩
  go_wp2_with fail
  refine (same15_any _ _ _ (resL (linProveE o t)) M HM.out.symm (hRu14.below (below_drewN m1 (Below.refl _ _)) (Nat.le_refl _)) (hR2.below (below_drewN m1 (Below.refl _ _)) (Nat.le_refl _)) (by omega)).mono ?_; rintro e w16 ⟨rfl, m2, rfl⟩
  go_wp2_with fail
  go_ret
  exact ⟨rfl, bl_drewN hB14 (m1 + m2)⟩
end Go.Proofs.YtmohjegcecimfaaDoor.As
