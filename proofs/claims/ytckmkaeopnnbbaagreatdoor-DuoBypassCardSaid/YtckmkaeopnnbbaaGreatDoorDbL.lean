/- The law DuoBypass. -/
import Derived.Test.YtckmkaeopnnbbaaGreatDoorDoK
import Derived.Test.YtckmkaeopnnbbaaGreatDoorTgV
import Derived.Test.YtckmkaeopnnbbaaGreatDoorDbM
import Derived.Test.YtckmkaeopnnbbaaGreatDoorGe
set_option linter.unusedVariables false
set_option linter.unusedSimpArgs false
set_option maxRecDepth 20000
namespace Go.Proofs.YtckmkaeopnnbbaaGreatDoor.As.T
open Go.RowKit

theorem short_du6 : ∀ (A : Fin 2) (t : Fin 4), shortL (resL (duF 6 A t)) = true ∧ shortL (resL (duG 6 A t)) = true := by decide +kernel
theorem fine_du6 : ∀ (A : Fin 2) (r t : Fin 4), fineL (roundsR (resL (duF 6 A t)) (resL (duG 6 A t)) (r + 1) []) = true := by decide +kernel

theorem bl_set {B : Nat} {a w : World} {p : Addr} (h : Below B a w) (hp : B ≤ p.block) (hB : B ≤ a.heap.size) (v : Value) : Below B a (w.setCell p v) :=
  h.trans ((Only.set1 (F := fun k => k = p.block) (p := p) (Only.refl _ w) rfl v).below (Nat.le_trans hB h.size) (fun k e => by omega))
theorem at_drew {W : World} {g : Nat} {o : Obj} (h : W.heap[g]? = some o) : W.drew.heap[g]? = some o := h
/-- The program lies in memory, the object too. -/
structure PrF (w WR W : World) (g9 gv pv gm5 pm5 ob A T M : Nat) (codes : List (List Ins)) : Prop where
  bel : Below w.heap.size w W
  row : W.heap[g9]? = some (.cells #[.slice (some ⟨gv, 0, none⟩) T pv, .slice (some ⟨gm5, 0, none⟩) 20 pm5, .int .i64 M] 45 (0, 0))
  cd : CdP W gv codes
  mem : Rd W 1 (.slice (some ⟨gm5, 0, none⟩) 20 pm5) 20 (w32 (mem0 [0, 0, 0, 0]))
  obj : W.cell? ⟨ob, 2, none⟩ = some (.int .i64 (A : Int))
  up : Below WR.heap.size WR W
theorem own_ge {W : World} {base : Nat} {e : TypeId} {size n k : Nat} {v : Value} {xs : List Value} (h : W.ownsRow base e size v n xs) (hk : v.ownBlock = some k) : base ≤ k := by
  rcases h.2 with ⟨rfl, _⟩ | ⟨g, cap, cur, rfl, hb, _⟩
  · cases hk
  · have : g = k := Option.some.inj hk
    omega
theorem CsW.turned {w W W' : World} {gp g9 : Nat} {cv : Value} {f : Nat → List Ins} {i : Nat} (h : CsW w W gp cv f i) (ho : Only (fun k => k = g9) W W') (hg : g9 < w.heap.size) : CsW w W' gp cv f i := by
  obtain ⟨⟨g, cap, h1, h2⟩, h3⟩ := h
  exact ⟨⟨g, cap, own_only h1 ho (fun k hk e => by have := own_ge h1 hk; omega), fun t ht => ⟨(h2 t ht).1.only ho (fun e => by have := (h2 t ht).2.1; omega), (h2 t ht).2⟩⟩, h3⟩
section
variable {w WR Wp W4 W : World} {gp gv pv gm5 pm5 ob A T M R : Nat} {ca cb : Nat → List Ins}
theorem prf_bel {g9 : Nat} (hb : Below w.heap.size w W4) (hcs : CsW Wp W4 gp (.slice (some ⟨gv, 0, none⟩) T pv) (fun t => roundsR (ca t) (cb t) R []) T) (hmv : W4.ownsRow Wp.heap.size 60 1 (.slice (some ⟨gm5, 0, none⟩) 20 pm5) 20 (w32 (mem0 [0, 0, 0, 0]))) (ho : W4.cell? ⟨ob, 2, none⟩ = some (.int .i64 (A : Int)))
    (hW : Below W4.heap.size W4 W) (hr : W.heap[g9]? = some (.cells #[.slice (some ⟨gv, 0, none⟩) T pv, .slice (some ⟨gm5, 0, none⟩) 20 pm5, .int .i64 M] 45 (0, 0))) (hup : Below WR.heap.size WR W) :
    PrF w WR W g9 gv pv gm5 pm5 ob A T M (codesR ca cb T R) :=
  ⟨hb.trans (hW.mono hb.size), hr, cdp_of (hcs.below hW), (Rd.of_own hmv).below hW (Nat.le_refl _), (hW.cell (block_lt_of_cell ho)).trans ho, hup⟩
theorem prf_set {g9 : Nat} {o0 o1 o2 : Value} (hb : Below w.heap.size w W4) (hcs : CsW Wp W4 gp (.slice (some ⟨gv, 0, none⟩) T pv) (fun t => roundsR (ca t) (cb t) R []) T) (hmv : W4.ownsRow Wp.heap.size 60 1 (.slice (some ⟨gm5, 0, none⟩) 20 pm5) 20 (w32 (mem0 [0, 0, 0, 0]))) (ho : W4.cell? ⟨ob, 2, none⟩ = some (.int .i64 (A : Int)))
    (hr : W4.heap[g9]? = some (.cells #[o0, o1, o2] 45 (0, 0))) (hg : g9 < Wp.heap.size) (hg2 : w.heap.size ≤ g9) (hne : ob ≠ g9)
    (hup : Below WR.heap.size WR (((W4.setCell ⟨g9, 0, none⟩ (.slice (some ⟨gv, 0, none⟩) T pv)).setCell ⟨g9, 1, none⟩ (.slice (some ⟨gm5, 0, none⟩) 20 pm5)).setCell ⟨g9, 2, none⟩ (.int .i64 M))) :
    PrF w WR (((W4.setCell ⟨g9, 0, none⟩ (.slice (some ⟨gv, 0, none⟩) T pv)).setCell ⟨g9, 1, none⟩ (.slice (some ⟨gm5, 0, none⟩) 20 pm5)).setCell ⟨g9, 2, none⟩ (.int .i64 M)) g9 gv pv gm5 pm5 ob A T M (codesR ca cb T R) := by
  obtain ⟨h1, h2⟩ := set3 hr (.slice (some ⟨gv, 0, none⟩) T pv) (.slice (some ⟨gm5, 0, none⟩) 20 pm5) (.int .i64 M)
  exact ⟨hb.trans (below_of_only h2 hg2 hb.size), h1, cdp_of (hcs.turned h2 hg), Rd.of_own (own_only hmv h2 (fun k hk e => by have := own_ge hmv hk; omega)), (World.cell?_of_block (w := W4) (a := ⟨ob, 2, none⟩) (h2.block ob (block_lt_of_cell ho) hne)).trans ho, hup⟩
end
set_option maxHeartbeats 4000000 in
theorem duoBypass_any (w : World) (TI : TabI w) (TO : TabO w) (x0 x1 x2 x3 : Int) (h0 : 0 ≤ x0 ∧ x0 ≤ 255) (h1 : 0 ≤ x1 ∧ x1 ≤ 255) (h2 : 0 ≤ x2 ∧ x2 ≤ 255) (h3 : 0 ≤ x3 ∧ x3 ≤ 255) (Ad : Option Addr) (cap : Nat) (bs : List Nat) (hl : bs.length ≤ maxLen) (hs : Rd w 1 (.slice Ad bs.length cap) bs.length (u8s bs)) (hb : ∀ b ∈ bs, b ≤ 255) :
    Calls Tryz.prog 5 #[.agg #[.int .u8 x0, .int .u8 x1, .int .u8 x2, .int .u8 x3], .slice Ad bs.length cap] w fun e w' => e = .returned (.bool true) ∧ Below w.heap.size w w' := by
  obtain ⟨A, hA⟩ : ∃ A : Nat, x1 % 2 = (A : Int) := ⟨(x1 % 2).toNat, by omega⟩
  obtain ⟨R, hR⟩ : ∃ R : Nat, 1 + x2 % 4 = (R : Int) := ⟨(1 + x2 % 4).toNat, by omega⟩
  obtain ⟨M, hM⟩ : ∃ M : Nat, 1 + x3 % 6 = (M : Int) := ⟨(1 + x3 % 6).toNat, by omega⟩
  have hA2 : A < 2 := by omega
  have hAB : 1 - (A : Int) = ((1 - A : Nat) : Int) := by omega
  have hR4 : 1 ≤ R ∧ R ≤ 4 := by omega
  have hM6 : 1 ≤ M ∧ M ≤ 6 := by omega
  have haw := fun W (hW : Below w.heap.size w W) => awake17_any W (TI.below hW (Nat.le_refl _)) (TO.below hW (Nat.le_refl _))
  have hob := fun W => object17 W 0 x1 x2 x3 (by decide) h1 h2 h3
  obtain ⟨B, hB⟩ : ∃ B : Nat, 1 - A = B := ⟨_, rfl⟩
  rw [show (6 : Int) + 0 % 2 = 6 from rfl, hA, hAB, hR, hM, hB] at hob
  have hcok : CodesOk (codesR (lim (duF 6 A)) (lim (duG 6 A)) 2 R) := codes_of (fun r t => fine_du6 ⟨A, hA2⟩ r t) (by omega) hR4.1 hR4.2
  have hrd : ∀ W, Below w.heap.size w W → ∀ bo, W.heap[bo]? = some (.cells #[.int .i64 6, .int .i64 0, .int .i64 (A : Int), .int .i64 (B : Int)] 27 (0, 0)) → Calls Tryz.prog 21 #[.agg #[.int .i64 6, .int .i64 0, .int .i64 (A : Int), .int .i64 (B : Int)], .int .i64 2, .int .i64 R, .int .i64 M, .func (.func 45) #[] #[.pointer (some ⟨bo, 0, none⟩)]] W fun e w' => ∃ cv mv, e = .returned (.tuple #[.agg #[cv, mv, .int .i64 M], .bool true]) ∧ w'.ownsRow W.heap.size 60 1 mv (16 + 4) (w32 (mem0 [0, 0, 0, 0])) ∧ CsW W w' (W.heap.size + 1) cv (fun t => roundsR (lim (duF 6 A) t) (lim (duG 6 A) t) R []) 2 ∧ Below W.heap.size W w' := fun W hW bo ho => by
    have hbelow := fun W' (hW' : Below W.heap.size W W') => hW.trans (hW'.mono hW.size)
    have hkeep := fun W' (hW' : Below W.heap.size W W') => (hW'.block bo (Array.getElem?_eq_some_iff.1 ho).1).trans ho
    have ti := fun W' (hW' : Below W.heap.size W W') => TI.below (hbelow W' hW') (Nat.le_refl _)
    have to_ := fun W' (hW' : Below W.heap.size W W') => TO.below (hbelow W' hW') (Nat.le_refl _)
    subst hB
    exact rounds_any W (TI.below hW (Nat.le_refl _)) 6 0 A ((1 - A : Nat) : Int) 2 R M 45 #[.pointer (some ⟨bo, 0, none⟩)] (lim (duF 6 A)) (lim (duG 6 A)) [0, 0, 0, 0]
      (fun t ht W' hW' => by
        rw [lim_eq (duF 6 A) (by omega)]
        exact maker17_1 W' 6 0 A ((1 - A : Nat) : Int) 1 t bo _ (hkeep W' hW') (du1 W' (ti W' hW') (to_ W' hW') 6 A t (.inl rfl) hA2 ht))
      (fun t ht W' hW' => by
        rw [lim_eq (duG 6 A) (by omega)]
        exact maker17_1 W' 6 0 A ((1 - A : Nat) : Int) 2 t bo _ (hkeep W' hW') (du2 W' (ti W' hW') (to_ W' hW') 6 A t (.inl rfl) hA2 ht))
      (fun W' hW' => first_6 W' (to_ W' hW') 0 A _ 2 (by unfold RightP; omega))
      (fun args w => enters_of Tryz.func45 (by kernel_rfl) rfl args w) (by decide) (by decide) (by omega) (by omega) (by omega) (by omega) (short_of (fun t => (short_du6 ⟨A, hA2⟩ t).1)) (short_of (fun t => (short_du6 ⟨A, hA2⟩ t).2))
  obtain ⟨s', hrun, stq, pq, hgood⟩ := pet_runsG (A := A) (R := R) M hA2 hR4.1 hR4.2 (bs.map pickB)
  obtain ⟨n, hn⟩ : ∃ n : Nat, bs.length = n := ⟨_, rfl⟩
  rw [hn] at hl ⊢
  have HS := Lib.hid (And.intro hs (And.intro hb hn))
  have HL := Lib.hid hl
  have HAW := Lib.hid haw
  have HOB := Lib.hid hob
  have HRD := Lib.hid hrd
  have HCO := Lib.hid hcok
  have HRUN := Lib.hid (And.intro hrun hgood)
  have HT := Lib.hid (And.intro hA2 (And.intro hR4 hM6))
  have HTI := Lib.hid TI
  clear hs hb hn hl haw hob hrd hcok hrun hgood hA hR hM hA2 hAB hB hR4 hM6 TI TO h0 h1 h2 h3
  go_enter Tryz.func5, Tryz.ntmps5
  have hB0 : Below w.heap.size w (w.alloc (.cells #[.int .u8 x0, .int .u8 x1, .int .u8 x2, .int .u8 x3] 39)) := (Below.refl _ w).alloc (Nat.le_refl _) _
  go_wp2_with (first
    | (go_at_call 19; refine (HAW.out _ hB0).mono ?_; rintro r w1 ⟨rfl, hb1⟩; have c0 : w1.cell? ⟨w.heap.size, 0, none⟩ = some (.int .u8 x0) := cell_of_row w1 _ 0 _ _ _ ((hb1.block w.heap.size (by simp)).trans (heap_alloc_new _ _)); have c1 : w1.cell? ⟨w.heap.size, 1, none⟩ = some (.int .u8 x1) := cell_of_row w1 _ 1 _ _ _ ((hb1.block w.heap.size (by simp)).trans (heap_alloc_new _ _)); have c2 : w1.cell? ⟨w.heap.size, 2, none⟩ = some (.int .u8 x2) := cell_of_row w1 _ 2 _ _ _ ((hb1.block w.heap.size (by simp)).trans (heap_alloc_new _ _)); have c3 : w1.cell? ⟨w.heap.size, 3, none⟩ = some (.int .u8 x3) := cell_of_row w1 _ 3 _ _ _ ((hb1.block w.heap.size (by simp)).trans (heap_alloc_new _ _)); have hB1 : Hid (Below w.heap.size w w1) := Lib.hid (hB0.trans (hb1.mono (by simp))); have hrw := (hb1.block w.heap.size (by simp)).trans (heap_alloc_new w (.cells #[.int .u8 x0, .int .u8 x1, .int .u8 x2, .int .u8 x3] 39)); have f0 := frozen_of_row w1 w.heap.size 0 _ _ hrw; have hrs := heap_setCell_same w1 w.heap.size 0 _ _ (.int .u8 0) hrw; have d0 : (w1.setCell ⟨w.heap.size, 0, none⟩ (.int .u8 0)).cell? ⟨w.heap.size, 0, none⟩ = some (.int .u8 0) := cell_of_row _ _ 0 _ _ _ hrs; have d1 : (w1.setCell ⟨w.heap.size, 0, none⟩ (.int .u8 0)).cell? ⟨w.heap.size, 1, none⟩ = some (.int .u8 x1) := cell_of_row _ _ 1 _ _ _ hrs; have d2 : (w1.setCell ⟨w.heap.size, 0, none⟩ (.int .u8 0)).cell? ⟨w.heap.size, 2, none⟩ = some (.int .u8 x2) := cell_of_row _ _ 2 _ _ _ hrs; have d3 : (w1.setCell ⟨w.heap.size, 0, none⟩ (.int .u8 0)).cell? ⟨w.heap.size, 3, none⟩ = some (.int .u8 x3) := cell_of_row _ _ 3 _ _ _ hrs; have hBS : Hid (Below w.heap.size w (w1.setCell ⟨w.heap.size, 0, none⟩ (.int .u8 0))) := Lib.hid (hB1.out.setCell (Nat.le_refl _) _); clear hb1 hrw hrs)
    | (go_at_call 19; refine (HAW.out _ hB1.out).mono ?_; rintro r w2 ⟨rfl, hb2⟩)
    | (go_at_call 20; refine (HOB.out _).mono ?_; rintro r w2 ⟨rfl, hb2x⟩; have hb2 : Below w.heap.size w w2 := hBS.out.trans (hb2x.mono hBS.out.size); clear hb2x))
  · go_ret
    exact ⟨rfl, hB1.out.trans (hb2.mono hB1.out.size)⟩
  have hB2 : Below w.heap.size w w2 := hb2
  obtain ⟨WR, hWR⟩ : ∃ WR, (w2.alloc (.cells #[.int .i64 6, .int .i64 0, .int .i64 (A : Int), .int .i64 (B : Int)] 27)) = WR := ⟨_, rfl⟩
  have hO : WR.heap[w2.heap.size]? = some (.cells #[.int .i64 6, .int .i64 0, .int .i64 (A : Int), .int .i64 (B : Int)] 27 (0, 0)) := by rw [← hWR]; exact heap_alloc_new _ _
  have hBR : Below w.heap.size w WR := by rw [← hWR]; exact hB2.alloc hB2.size _
  obtain ⟨ob, hob⟩ : ∃ ob, w2.heap.size = ob := ⟨_, rfl⟩
  have hob1 : ob < WR.heap.size := by rw [← hWR, ← hob]; simp
  rw [hWR, hob]
  rw [hob] at hO
  clear hWR c0 c1 c2 c3 d0 d1 d2 d3 f0 hBS hb2 hB0 hB1 HAW HOB hB2 hob
  obtain ⟨o0, o1, o2, o3⟩ := cellsQ4 hO
  have hm := fun W => maker17_any W 6 0 A B
  have HBR := Lib.hid hBR
  have HO := Lib.hid hO
  have HOB1 := Lib.hid hob1
  clear hBR hO hob1
  have x0 : ∀ W, Below WR.heap.size WR W → W.cell? ⟨ob, 0, none⟩ = some (.int .i64 6) := fun W hW => (hW.cell HOB1.out).trans o0
  have x1 : ∀ W, Below WR.heap.size WR W → W.cell? ⟨ob, 1, none⟩ = some (.int .i64 0) := fun W hW => (hW.cell HOB1.out).trans o1
  have x2 : ∀ W, Below WR.heap.size WR W → W.cell? ⟨ob, 2, none⟩ = some (.int .i64 (A : Int)) := fun W hW => (hW.cell HOB1.out).trans o2
  have x3 : ∀ W, Below WR.heap.size WR W → W.cell? ⟨ob, 3, none⟩ = some (.int .i64 (B : Int)) := fun W hW => (hW.cell HOB1.out).trans o3
  have HO2 := Lib.hid o2
  clear o0 o1 o2 o3
  go_cut [8, 9] (fun v8 v9 wx => ∃ g9 gv pv gm5 pm5 : Nat, v8 = .pointer (some ⟨g9, 0, none⟩) ∧ v9 = .bool true ∧ Hid (PrF w WR wx g9 gv pv gm5 pm5 ob A 2 M (codesR (lim (duF 6 A)) (lim (duG 6 A)) 2 R)))
  case first =>
    have b0 : Below WR.heap.size WR WR.drew := bl_drew (Below.refl _ _)
    refine wp_region_g (fun W => Below WR.heap.size WR W) 99 (by kernel_rfl) ?_
    generalize WR.drew = wd at *
    refine AnyG_take (i := 0) (oi := _) (v := ?_) rfl (by kernel_rfl) (fun _ _ _ h => h) (Or.inl ⟨by rfl, ?_⟩) b0 ?_
    rotate_left
    · intro W hSw; (try dsimp only at hSw); go_simp; first | done | with_reducible rfl
    simp only [Act.put, List.getElem_toArray, List.getElem_cons_zero, List.getElem_cons_succ, List.setIfInBounds_toArray, List.set_cons_zero, List.set_cons_succ]
    refine AnyG_take (i := 1) (oi := _) (v := ?_) rfl (by kernel_rfl) (fun _ _ _ h => h) (Or.inl ⟨by rfl, ?_⟩) b0 ?_
    rotate_left
    · intro W hSw; (try dsimp only at hSw); go_simp; first | done | with_reducible rfl
    simp only [Act.put, List.getElem_toArray, List.getElem_cons_zero, List.getElem_cons_succ, List.setIfInBounds_toArray, List.set_cons_zero, List.set_cons_succ]
    refine AnyG_take (i := 2) (oi := _) (v := ?_) rfl (by kernel_rfl) (fun _ _ _ h => h) (Or.inl ⟨by rfl, ?_⟩) b0 ?_
    rotate_left
    · intro W hSw; (try dsimp only at hSw); go_simp; first | done | with_reducible rfl
    simp only [Act.put, List.getElem_toArray, List.getElem_cons_zero, List.getElem_cons_succ, List.setIfInBounds_toArray, List.set_cons_zero, List.set_cons_succ]
    refine AnyG_take (i := 3) (oi := _) (v := ?_) rfl (by kernel_rfl) (fun _ _ _ h => h) (Or.inl ⟨by rfl, ?_⟩) b0 ?_
    rotate_left
    · intro W hSw; (try dsimp only at hSw); go_simp; first | done | with_reducible rfl
    simp only [Act.put, List.getElem_toArray, List.getElem_cons_zero, List.getElem_cons_succ, List.setIfInBounds_toArray, List.set_cons_zero, List.set_cons_succ]
    refine AnyG_two (i := 4) (j := 9) (by kernel_rfl) ?_ ?_
    · skip
      refine wpOp_of rfl rfl ?_
      try simp only [Act.put, List.getElem_toArray, List.getElem_cons_zero, List.getElem_cons_succ, List.setIfInBounds_toArray, List.set_cons_zero, List.set_cons_succ]
      go_simp
      refine (hm wd).mono ?_
      rintro _ v1 ⟨rfl, hv1⟩
      have b1 : Below WR.heap.size WR v1 := by rw [hv1]; exact b0.alloc b0.size _
      have hbo : v1.heap[wd.heap.size]? = some (.cells #[.int .i64 6, .int .i64 0, .int .i64 (A : Int), .int .i64 (B : Int)] 27 (0, 0)) := by rw [hv1]; exact at_new rfl
      have HBO := Lib.hid hbo
      clear hbo hv1
      refine ⟨b1, ?_⟩
      try simp only [Act.put, List.getElem_toArray, List.getElem_cons_zero, List.getElem_cons_succ, List.setIfInBounds_toArray, List.set_cons_zero, List.set_cons_succ]
      refine AnyG_two (i := 5) (j := 9) (by kernel_rfl) ?_ ?_
      · skip
        refine wpOp_of rfl rfl ?_
        try simp only [Act.put, List.getElem_toArray, List.getElem_cons_zero, List.getElem_cons_succ, List.setIfInBounds_toArray, List.set_cons_zero, List.set_cons_succ]
        go_simp
        refine (HRD.out v1 (HBR.out.trans (b1.mono HBR.out.size)) _ HBO.out).mono ?_
        rintro _ v2 ⟨cv, mv, rfl, hmv, hcs, hb4⟩
        obtain ⟨ggx, cpx, hcox, _⟩ := hcs.ex
        obtain ⟨gv, pv, rfl⟩ := own_form hcox (by omega)
        obtain ⟨gm5, pm5, rfl⟩ := own_form hmv (by omega)
        have b2 : Below WR.heap.size WR v2 := Below.trans b1 (hb4.mono b1.size)
        have HCS := Lib.hid hcs
        have HMV := Lib.hid hmv
        clear hcs hmv hcox hb4
        refine ⟨b2, ?_⟩
        try simp only [Act.put, List.getElem_toArray, List.getElem_cons_zero, List.getElem_cons_succ, List.setIfInBounds_toArray, List.set_cons_zero, List.set_cons_succ]
        refine AnyG_take (i := 6) (oi := _) (v := ?_) rfl (by kernel_rfl) (fun _ _ _ h => h) (Or.inl ⟨by rfl, ?_⟩) b2 ?_
        rotate_left
        · intro W hSw; (try dsimp only at hSw); go_simp; first | done | with_reducible rfl
        simp only [Act.put, List.getElem_toArray, List.getElem_cons_zero, List.getElem_cons_succ, List.setIfInBounds_toArray, List.set_cons_zero, List.set_cons_succ]
        refine AnyG_take (i := 7) (oi := _) (v := ?_) rfl (by kernel_rfl) (fun _ _ _ h => h) (Or.inl ⟨by rfl, ?_⟩) b2 ?_
        rotate_left
        · intro W hSw; (try dsimp only at hSw); go_simp; first | done | with_reducible rfl
        simp only [Act.put, List.getElem_toArray, List.getElem_cons_zero, List.getElem_cons_succ, List.setIfInBounds_toArray, List.set_cons_zero, List.set_cons_succ]
        refine AnyG_take (i := 8) (oi := _) (v := ?_) rfl (by kernel_rfl) (fun _ _ _ h => h) (Or.inl ⟨by rfl, ?_⟩) b2 ?_
        rotate_left
        · intro W hSw; (try dsimp only at hSw); go_simp; first | done | with_reducible rfl
        simp only [Act.put, List.getElem_toArray, List.getElem_cons_zero, List.getElem_cons_succ, List.setIfInBounds_toArray, List.set_cons_zero, List.set_cons_succ]
        refine AnyG_one (i := 9) rfl (by kernel_rfl) ?_
        refine wpOp_of rfl rfl ?_
        try simp only [Act.put, List.getElem_toArray, List.getElem_cons_zero, List.getElem_cons_succ, List.setIfInBounds_toArray, List.set_cons_zero, List.set_cons_succ]
        go_simp
        obtain ⟨v3, hv3⟩ : ∃ W, World.alloc v2 (.cells #[.slice none 0 0, .slice none 0 0, .int .i64 0] 45) = W := ⟨_, rfl⟩
        rw [hv3]
        have b3 : Below WR.heap.size WR v3 := by rw [← hv3]; exact b2.alloc b2.size _
        have hr9 : v3.heap[v2.heap.size]? = some (.cells #[.slice none 0 0, .slice none 0 0, .int .i64 0] 45 (0, 0)) := by rw [← hv3]; exact at_new rfl
        have hq : Below v2.heap.size v2 v3 := by rw [← hv3]; exact (Below.refl _ _).alloc (Nat.le_refl _) _
        have HQ := Lib.hid hq
        clear hq
        have hle9 : WR.heap.size ≤ v2.heap.size := b2.size
        have HL9 := Lib.hid hle9
        clear hle9
        clear hv3
        refine ⟨b3, ?_⟩
        try simp only [Act.put, List.getElem_toArray, List.getElem_cons_zero, List.getElem_cons_succ, List.setIfInBounds_toArray, List.set_cons_zero, List.set_cons_succ]
        have d0 := cell_of_row _ _ 0 _ _ _ hr9
        have d1 := cell_of_row _ _ 1 _ _ _ hr9
        have d2 := cell_of_row _ _ 2 _ _ _ hr9
        have e0 := frozen_of_row _ _ 0 _ _ hr9
        have e1 := frozen_of_row _ _ 1 _ _ hr9
        have e2 := frozen_of_row _ _ 2 _ _ hr9
        refine AnyG_one (i := 10) rfl (by kernel_rfl) ?_
        refine wpOp_of rfl rfl ?_
        try simp only [Act.put, List.getElem_toArray, List.getElem_cons_zero, List.getElem_cons_succ, List.setIfInBounds_toArray, List.set_cons_zero, List.set_cons_succ]
        go_simp
        obtain ⟨hs1, hs2⟩ := set3 hr9 (.slice (some ⟨gv, 0, none⟩) 2 pv) (.slice (some ⟨gm5, 0, none⟩) 20 pm5) (.int .i64 M)
        have hbz := below_of_only hs2 HL9.out b3.size
        have HF : Hid (PrF w WR _ v2.heap.size gv pv gm5 pm5 ob A 2 M (codesR (lim (duF 6 A)) (lim (duG 6 A)) 2 R)) := Lib.hid (prf_bel (HBR.out.trans (b2.mono HBR.out.size)) HCS.out HMV.out ((b2.cell HOB1.out).trans HO2.out) (HQ.out.trans (below_of_only hs2 (Nat.le_refl _) HQ.out.size)) hs1 (b3.trans hbz))
        refine ⟨b3.trans hbz, ?_⟩
        clear d0 d1 d2 e0 e1 e2 hr9 hs1 hs2 hbz
        try simp only [Act.put, List.getElem_toArray, List.getElem_cons_zero, List.getElem_cons_succ, List.setIfInBounds_toArray, List.set_cons_zero, List.set_cons_succ]
        refine AnyG_one (i := 11) rfl (by kernel_rfl) ?_
        refine wpOp_of rfl rfl ?_
        try simp only [Act.put, List.getElem_toArray, List.getElem_cons_zero, List.getElem_cons_succ, List.setIfInBounds_toArray, List.set_cons_zero, List.set_cons_succ]
        go_simp
        refine ⟨HF.out.up, ?_⟩
        try simp only [Act.put, List.getElem_toArray, List.getElem_cons_zero, List.getElem_cons_succ, List.setIfInBounds_toArray, List.set_cons_zero, List.set_cons_succ]
        refine AnyG_done (by kernel_rfl) ?_ _
        go_wp2_with fail
        go_meet
        exact ⟨_, gv, pv, gm5, pm5, rfl, rfl, HF⟩
      · skip
        refine wpOp_of rfl rfl ?_
        try simp only [Act.put, List.getElem_toArray, List.getElem_cons_zero, List.getElem_cons_succ, List.setIfInBounds_toArray, List.set_cons_zero, List.set_cons_succ]
        go_simp
        obtain ⟨v2, hv2⟩ : ∃ W, World.alloc v1 (.cells #[.slice none 0 0, .slice none 0 0, .int .i64 0] 45) = W := ⟨_, rfl⟩
        rw [hv2]
        have b2 : Below WR.heap.size WR v2 := by rw [← hv2]; exact b1.alloc b1.size _
        have hr9 : v2.heap[v1.heap.size]? = some (.cells #[.slice none 0 0, .slice none 0 0, .int .i64 0] 45 (0, 0)) := by rw [← hv2]; exact at_new rfl
        have hbo2 := at_alloc (X := .cells #[.slice none 0 0, .slice none 0 0, .int .i64 0] 45) HBO.out
        rw [hv2] at hbo2
        have HBO2 := Lib.hid hbo2
        clear hbo2
        have hle9 : WR.heap.size ≤ v1.heap.size := b1.size
        have HL9 := Lib.hid hle9
        clear hle9
        have HR9 := Lib.hid hr9
        clear hr9
        clear hv2
        refine ⟨b2, ?_⟩
        try simp only [Act.put, List.getElem_toArray, List.getElem_cons_zero, List.getElem_cons_succ, List.setIfInBounds_toArray, List.set_cons_zero, List.set_cons_succ]
        refine AnyG_one (i := 5) rfl (by kernel_rfl) ?_
        refine wpOp_of rfl rfl ?_
        try simp only [Act.put, List.getElem_toArray, List.getElem_cons_zero, List.getElem_cons_succ, List.setIfInBounds_toArray, List.set_cons_zero, List.set_cons_succ]
        go_simp
        refine (HRD.out v2 (HBR.out.trans (b2.mono HBR.out.size)) _ HBO2.out).mono ?_
        rintro _ v3 ⟨cv, mv, rfl, hmv, hcs, hb4⟩
        obtain ⟨ggx, cpx, hcox, _⟩ := hcs.ex
        obtain ⟨gv, pv, rfl⟩ := own_form hcox (by omega)
        obtain ⟨gm5, pm5, rfl⟩ := own_form hmv (by omega)
        have b3 : Below WR.heap.size WR v3 := Below.trans b2 (hb4.mono b2.size)
        have hr9 : v3.heap[v1.heap.size]? = some (.cells #[.slice none 0 0, .slice none 0 0, .int .i64 0] 45 (0, 0)) := (hb4.block _ (Array.getElem?_eq_some_iff.1 HR9.out).1).trans HR9.out
        have hg9 : v1.heap.size < v2.heap.size := (Array.getElem?_eq_some_iff.1 HR9.out).1
        have HG9 := Lib.hid hg9
        have HR92 := Lib.hid hr9
        clear hg9 hr9
        have HCS := Lib.hid hcs
        have HMV := Lib.hid hmv
        clear hcs hmv hcox hb4
        refine ⟨b3, ?_⟩
        try simp only [Act.put, List.getElem_toArray, List.getElem_cons_zero, List.getElem_cons_succ, List.setIfInBounds_toArray, List.set_cons_zero, List.set_cons_succ]
        refine AnyG_take (i := 6) (oi := _) (v := ?_) rfl (by kernel_rfl) (fun _ _ _ h => h) (Or.inl ⟨by rfl, ?_⟩) b3 ?_
        rotate_left
        · intro W hSw; (try dsimp only at hSw); go_simp; first | done | with_reducible rfl
        simp only [Act.put, List.getElem_toArray, List.getElem_cons_zero, List.getElem_cons_succ, List.setIfInBounds_toArray, List.set_cons_zero, List.set_cons_succ]
        refine AnyG_take (i := 7) (oi := _) (v := ?_) rfl (by kernel_rfl) (fun _ _ _ h => h) (Or.inl ⟨by rfl, ?_⟩) b3 ?_
        rotate_left
        · intro W hSw; (try dsimp only at hSw); go_simp; first | done | with_reducible rfl
        simp only [Act.put, List.getElem_toArray, List.getElem_cons_zero, List.getElem_cons_succ, List.setIfInBounds_toArray, List.set_cons_zero, List.set_cons_succ]
        refine AnyG_take (i := 8) (oi := _) (v := ?_) rfl (by kernel_rfl) (fun _ _ _ h => h) (Or.inl ⟨by rfl, ?_⟩) b3 ?_
        rotate_left
        · intro W hSw; (try dsimp only at hSw); go_simp; first | done | with_reducible rfl
        simp only [Act.put, List.getElem_toArray, List.getElem_cons_zero, List.getElem_cons_succ, List.setIfInBounds_toArray, List.set_cons_zero, List.set_cons_succ]
        have hr9 := HR92.out
        have d0 := cell_of_row _ _ 0 _ _ _ hr9
        have d1 := cell_of_row _ _ 1 _ _ _ hr9
        have d2 := cell_of_row _ _ 2 _ _ _ hr9
        have e0 := frozen_of_row _ _ 0 _ _ hr9
        have e1 := frozen_of_row _ _ 1 _ _ hr9
        have e2 := frozen_of_row _ _ 2 _ _ hr9
        refine AnyG_one (i := 10) rfl (by kernel_rfl) ?_
        refine wpOp_of rfl rfl ?_
        try simp only [Act.put, List.getElem_toArray, List.getElem_cons_zero, List.getElem_cons_succ, List.setIfInBounds_toArray, List.set_cons_zero, List.set_cons_succ]
        go_simp
        obtain ⟨hs1, hs2⟩ := set3 hr9 (.slice (some ⟨gv, 0, none⟩) 2 pv) (.slice (some ⟨gm5, 0, none⟩) 20 pm5) (.int .i64 M)
        have hbz := below_of_only hs2 HL9.out b3.size
        have HF : Hid (PrF w WR _ v1.heap.size gv pv gm5 pm5 ob A 2 M (codesR (lim (duF 6 A)) (lim (duG 6 A)) 2 R)) := Lib.hid (prf_set (HBR.out.trans (b3.mono HBR.out.size)) HCS.out HMV.out ((b3.cell HOB1.out).trans HO2.out) hr9 HG9.out (Nat.le_trans HBR.out.size HL9.out) (by have := HOB1.out; have := HL9.out; omega) (b3.trans hbz))
        refine ⟨b3.trans hbz, ?_⟩
        clear d0 d1 d2 e0 e1 e2 hr9 hs1 hs2 hbz
        try simp only [Act.put, List.getElem_toArray, List.getElem_cons_zero, List.getElem_cons_succ, List.setIfInBounds_toArray, List.set_cons_zero, List.set_cons_succ]
        refine AnyG_one (i := 11) rfl (by kernel_rfl) ?_
        refine wpOp_of rfl rfl ?_
        try simp only [Act.put, List.getElem_toArray, List.getElem_cons_zero, List.getElem_cons_succ, List.setIfInBounds_toArray, List.set_cons_zero, List.set_cons_succ]
        go_simp
        refine ⟨HF.out.up, ?_⟩
        try simp only [Act.put, List.getElem_toArray, List.getElem_cons_zero, List.getElem_cons_succ, List.setIfInBounds_toArray, List.set_cons_zero, List.set_cons_succ]
        refine AnyG_done (by kernel_rfl) ?_ _
        go_wp2_with fail
        go_meet
        exact ⟨_, gv, pv, gm5, pm5, rfl, rfl, HF⟩
    · skip
      refine wpOp_of rfl rfl ?_
      try simp only [Act.put, List.getElem_toArray, List.getElem_cons_zero, List.getElem_cons_succ, List.setIfInBounds_toArray, List.set_cons_zero, List.set_cons_succ]
      go_simp
      obtain ⟨v1, hv1⟩ : ∃ W, World.alloc wd (.cells #[.slice none 0 0, .slice none 0 0, .int .i64 0] 45) = W := ⟨_, rfl⟩
      rw [hv1]
      have b1 : Below WR.heap.size WR v1 := by rw [← hv1]; exact b0.alloc b0.size _
      have hr9 : v1.heap[wd.heap.size]? = some (.cells #[.slice none 0 0, .slice none 0 0, .int .i64 0] 45 (0, 0)) := by rw [← hv1]; exact at_new rfl
      have hle9 : WR.heap.size ≤ wd.heap.size := b0.size
      have HL9 := Lib.hid hle9
      clear hle9
      have HR0 := Lib.hid hr9
      clear hr9
      clear hv1
      refine ⟨b1, ?_⟩
      try simp only [Act.put, List.getElem_toArray, List.getElem_cons_zero, List.getElem_cons_succ, List.setIfInBounds_toArray, List.set_cons_zero, List.set_cons_succ]
      refine AnyG_one (i := 4) rfl (by kernel_rfl) ?_
      refine wpOp_of rfl rfl ?_
      try simp only [Act.put, List.getElem_toArray, List.getElem_cons_zero, List.getElem_cons_succ, List.setIfInBounds_toArray, List.set_cons_zero, List.set_cons_succ]
      go_simp
      have hr9 := HR0.out
      refine (hm v1).mono ?_
      rintro _ v2 ⟨rfl, hv2⟩
      have b2 : Below WR.heap.size WR v2 := by rw [hv2]; exact b1.alloc b1.size _
      have hbo : v2.heap[v1.heap.size]? = some (.cells #[.int .i64 6, .int .i64 0, .int .i64 (A : Int), .int .i64 (B : Int)] 27 (0, 0)) := by rw [hv2]; exact at_new rfl
      have hr9 : v2.heap[wd.heap.size]? = some (.cells #[.slice none 0 0, .slice none 0 0, .int .i64 0] 45 (0, 0)) := by rw [hv2]; exact at_alloc hr9
      have HBO := Lib.hid hbo
      have HR9 := Lib.hid hr9
      clear hr9
      clear hbo hv2
      refine ⟨b2, ?_⟩
      try simp only [Act.put, List.getElem_toArray, List.getElem_cons_zero, List.getElem_cons_succ, List.setIfInBounds_toArray, List.set_cons_zero, List.set_cons_succ]
      refine AnyG_one (i := 5) rfl (by kernel_rfl) ?_
      refine wpOp_of rfl rfl ?_
      try simp only [Act.put, List.getElem_toArray, List.getElem_cons_zero, List.getElem_cons_succ, List.setIfInBounds_toArray, List.set_cons_zero, List.set_cons_succ]
      go_simp
      refine (HRD.out v2 (HBR.out.trans (b2.mono HBR.out.size)) _ HBO.out).mono ?_
      rintro _ v3 ⟨cv, mv, rfl, hmv, hcs, hb4⟩
      obtain ⟨ggx, cpx, hcox, _⟩ := hcs.ex
      obtain ⟨gv, pv, rfl⟩ := own_form hcox (by omega)
      obtain ⟨gm5, pm5, rfl⟩ := own_form hmv (by omega)
      have b3 : Below WR.heap.size WR v3 := Below.trans b2 (hb4.mono b2.size)
      have hr9 : v3.heap[wd.heap.size]? = some (.cells #[.slice none 0 0, .slice none 0 0, .int .i64 0] 45 (0, 0)) := (hb4.block _ (Array.getElem?_eq_some_iff.1 HR9.out).1).trans HR9.out
      have hg9 : wd.heap.size < v2.heap.size := (Array.getElem?_eq_some_iff.1 HR9.out).1
      have HG9 := Lib.hid hg9
      have HR92 := Lib.hid hr9
      clear hg9 hr9
      have HCS := Lib.hid hcs
      have HMV := Lib.hid hmv
      clear hcs hmv hcox hb4
      refine ⟨b3, ?_⟩
      try simp only [Act.put, List.getElem_toArray, List.getElem_cons_zero, List.getElem_cons_succ, List.setIfInBounds_toArray, List.set_cons_zero, List.set_cons_succ]
      refine AnyG_take (i := 6) (oi := _) (v := ?_) rfl (by kernel_rfl) (fun _ _ _ h => h) (Or.inl ⟨by rfl, ?_⟩) b3 ?_
      rotate_left
      · intro W hSw; (try dsimp only at hSw); go_simp; first | done | with_reducible rfl
      simp only [Act.put, List.getElem_toArray, List.getElem_cons_zero, List.getElem_cons_succ, List.setIfInBounds_toArray, List.set_cons_zero, List.set_cons_succ]
      refine AnyG_take (i := 7) (oi := _) (v := ?_) rfl (by kernel_rfl) (fun _ _ _ h => h) (Or.inl ⟨by rfl, ?_⟩) b3 ?_
      rotate_left
      · intro W hSw; (try dsimp only at hSw); go_simp; first | done | with_reducible rfl
      simp only [Act.put, List.getElem_toArray, List.getElem_cons_zero, List.getElem_cons_succ, List.setIfInBounds_toArray, List.set_cons_zero, List.set_cons_succ]
      refine AnyG_take (i := 8) (oi := _) (v := ?_) rfl (by kernel_rfl) (fun _ _ _ h => h) (Or.inl ⟨by rfl, ?_⟩) b3 ?_
      rotate_left
      · intro W hSw; (try dsimp only at hSw); go_simp; first | done | with_reducible rfl
      simp only [Act.put, List.getElem_toArray, List.getElem_cons_zero, List.getElem_cons_succ, List.setIfInBounds_toArray, List.set_cons_zero, List.set_cons_succ]
      have hr9 := HR92.out
      have d0 := cell_of_row _ _ 0 _ _ _ hr9
      have d1 := cell_of_row _ _ 1 _ _ _ hr9
      have d2 := cell_of_row _ _ 2 _ _ _ hr9
      have e0 := frozen_of_row _ _ 0 _ _ hr9
      have e1 := frozen_of_row _ _ 1 _ _ hr9
      have e2 := frozen_of_row _ _ 2 _ _ hr9
      refine AnyG_one (i := 10) rfl (by kernel_rfl) ?_
      refine wpOp_of rfl rfl ?_
      try simp only [Act.put, List.getElem_toArray, List.getElem_cons_zero, List.getElem_cons_succ, List.setIfInBounds_toArray, List.set_cons_zero, List.set_cons_succ]
      go_simp
      obtain ⟨hs1, hs2⟩ := set3 hr9 (.slice (some ⟨gv, 0, none⟩) 2 pv) (.slice (some ⟨gm5, 0, none⟩) 20 pm5) (.int .i64 M)
      have hbz := below_of_only hs2 HL9.out b3.size
      have HF : Hid (PrF w WR _ wd.heap.size gv pv gm5 pm5 ob A 2 M (codesR (lim (duF 6 A)) (lim (duG 6 A)) 2 R)) := Lib.hid (prf_set (HBR.out.trans (b3.mono HBR.out.size)) HCS.out HMV.out ((b3.cell HOB1.out).trans HO2.out) hr9 HG9.out (Nat.le_trans HBR.out.size HL9.out) (by have := HOB1.out; have := HL9.out; omega) (b3.trans hbz))
      refine ⟨b3.trans hbz, ?_⟩
      clear d0 d1 d2 e0 e1 e2 hr9 hs1 hs2 hbz
      try simp only [Act.put, List.getElem_toArray, List.getElem_cons_zero, List.getElem_cons_succ, List.setIfInBounds_toArray, List.set_cons_zero, List.set_cons_succ]
      refine AnyG_one (i := 11) rfl (by kernel_rfl) ?_
      refine wpOp_of rfl rfl ?_
      try simp only [Act.put, List.getElem_toArray, List.getElem_cons_zero, List.getElem_cons_succ, List.setIfInBounds_toArray, List.set_cons_zero, List.set_cons_succ]
      go_simp
      refine ⟨HF.out.up, ?_⟩
      try simp only [Act.put, List.getElem_toArray, List.getElem_cons_zero, List.getElem_cons_succ, List.setIfInBounds_toArray, List.set_cons_zero, List.set_cons_succ]
      refine AnyG_done (by kernel_rfl) ?_ _
      go_wp2_with fail
      go_meet
      exact ⟨_, gv, pv, gm5, pm5, rfl, rfl, HF⟩
  case rest =>
    obtain ⟨g9, gv, pv, gm5, pm5, rfl, rfl, HF⟩ := hcut
    clear x0 x1 x2 x3 hm HRD HBR HO HOB1 HO2
    have hr9 := HF.out.row
    have d0 := cell_of_row _ _ 0 _ _ _ hr9
    have d1 := cell_of_row _ _ 1 _ _ _ hr9
    have d2 := cell_of_row _ _ 2 _ _ _ hr9
    clear hr9
    have hnew : Calls Tryz.prog 23 #[.agg #[.slice (some ⟨gv, 0, none⟩) 2 pv, .slice (some ⟨gm5, 0, none⟩) 20 pm5, .int .i64 M]] wc fun e w' => ∃ (Z : Nat → Prop) (K : TsK), e = .returned (.tuple #[.pointer (some ⟨K.mb, 0, none⟩), .int .i64 0]) ∧ Mch Z w' K (codesR (lim (duF 6 A)) (lim (duG 6 A)) 2 R) (ts0 (mem0 [0, 0, 0, 0]) M 2) ∧ (∀ k, k < wc.heap.size → Z k) ∧ Below wc.heap.size wc w' ∧ (mem0 [0, 0, 0, 0]).length ≤ K.mc := by
      have h := new_ts wc (HTI.out.below HF.out.bel (Nat.le_refl _)) gv pv M pm5 (some ⟨gm5, 0, none⟩) (mem0 [0, 0, 0, 0]) (codesR (lim (duF 6 A)) (lim (duG 6 A)) 2 R) HF.out.cd HF.out.mem (by rw [codesR_len]; omega) (by rw [codesR_len]; omega) (by decide) (by decide) (by have := HT.out.2.2; omega) (by have := HT.out.2.2; omega) (fun L hL => ⟨(HCO.out L hL).2.1, fun x hx => by
        have := (HCO.out L hL).2.2 x hx
        simp only [okI, Bool.and_eq_true] at this
        exact this.1.1⟩) (fun L hL => (HCO.out L hL).1)
      rw [codesR_len] at h
      exact h
    go_wp2_with fail
    refine hnew.mono ?_
    rintro r w4 ⟨Z, K, rfl, hm4, hz4, hb4, hmc⟩
    have HB4 : Hid (Below w.heap.size w w4) := Lib.hid (HF.out.bel.trans (hb4.mono HF.out.bel.size))
    have HM4 := Lib.hid hm4
    have HZ : Hid (∀ k, k < w.heap.size → Z k) := Lib.hid (fun k hk => hz4 k (by have := HF.out.bel.size; omega))
    clear hnew hm4 hz4 hb4 hmc d0 d1 d2 HF HTI
    have hread := read_any w4 (.slice Ad bs.length cap) bs (HS.out.1.below HB4.out (Nat.le_refl _)) HS.out.2.1 (by rw [HS.out.2.2]; omega)
    rw [HS.out.2.2] at hread
    go_wp2_with (go_at_call 25; refine hread.mono ?_; rintro r w5 ⟨gp, rfl, hpk, hg5, hg6, hb5⟩)
    have hn3 : n ≤ 3000 := by omega
    have hrunc : Calls Tryz.prog 24 #[.pointer (some ⟨K.mb, 0, none⟩), .slice (some ⟨gp, 0, none⟩) n n] w5 fun e w' => e = .returned (.tuple #[]) ∧ TsM (fun k => Z k ∨ k = gp) w' K s' ∧ Only (fun k => ¬ (Z k ∨ k = gp)) w5 w' ∧ s'.evs.length ≤ 2 * n := by
      have hk0 := ok0 HCO.out (mem := mem0 [0, 0, 0, 0]) (room := M) (fun v hv => by
        have : ∀ v ∈ mem0 [0, 0, 0, 0], wd v = true := by decide
        exact this v hv)
      rw [codesR_len] at hk0
      have hp0 : (ts0 (mem0 [0, 0, 0, 0]) M 2).pend = 0 := by simp [ts0, Ts.pend]
      have he0 : (ts0 (mem0 [0, 0, 0, 0]) M 2).evs.length = 0 := rfl
      have hli : (bs.map pickB).length = n := by rw [List.length_map]; exact HS.out.2.2
      have h := run_ts (cap := n) (HM4.out.more (TsM.add HM4.out.m hb5 hg5 hg6) (Only.of_below (F := fun _ => False) hb5 (Nat.le_refl _)) (fun k e => Or.inl e)) hk0 (by simp [ts0]) (by
        rw [he0, hp0, hli]; omega) (by show (mem0 [0, 0, 0, 0]).length ≤ 2000; decide) (Or.inr rfl) hpk HRUN.out.1
      rw [hli] at h
      refine h.mono ?_
      rintro e w' ⟨a1, a2, a3, a4, a5, a6, a7⟩
      exact ⟨a1, a2, a3, by omega⟩
    have HRC := Lib.hid hrunc
    have HB5 : Hid (Below w.heap.size w w5) := Lib.hid (HB4.out.trans (hb5.mono HB4.out.size))
    have HN3 := Lib.hid hn3
    clear hrunc hread hpk hg5 hg6 hb5 hn3 HL HM4 HB4 HCO
    go_wp2_with (first
      | (go_at_call 24; refine HRC.out.mono ?_; rintro r w6 ⟨rfl, hm6, ho6, hev6⟩; have HB6 : Hid (Below w.heap.size w w6) := Lib.hid (HB5.out.trans (ho6.below HB5.out.size (fun k e => by
          rcases Nat.lt_or_ge k w.heap.size with h | h
          · exact absurd (.inl (HZ.out k h)) e
          · exact h))); have HM6 := Lib.hid hm6; have HE6 := Lib.hid hev6; have hevs := events_ts HM6.out (by have := HE6.out; have := HN3.out; omega); have HEV := Lib.hid hevs; clear hm6 ho6 hev6 hevs)
      | (go_at_call 26; refine HEV.out.mono ?_; rintro r w7 ⟨ve, rfl, hve, hb7⟩; have HB7 : Hid (Below w.heap.size w w7) := Lib.hid (HB6.out.trans (hb7.mono HB6.out.size)); have HRE := Lib.hid (Rd.of_own hve); clear hve hb7)
      | (go_at_call 27; refine (Calls_any ve s'.evs (by have := HE6.out; have := HN3.out; omega) (byF_k _ _ HRUN.out.2) w7 HRE.out).mono ?_; rintro r w8 ⟨vc, rfl, hrc, hb8⟩; have HB8 : Hid (Below w.heap.size w w8) := Lib.hid (HB7.out.trans (hb8.mono HB7.out.size)); have HR8 := Lib.hid (And.intro hrc (HRE.out.below hb8 (Nat.le_refl _))); clear hrc hb8))
    have hby : bypP s'.evs (callsAll s'.evs) ∧ ∀ c ∈ callsAll s'.evs, inB s'.evs.length c := byp_of s'.evs stq pq HRUN.out.2
    have hel : s'.evs.length ≤ 6000 := by have := HE6.out; have := HN3.out; omega
    clear HB7 HRE HEV HM6 HE6 HB6 HZ HRC HB5 HRUN HS HT HN3
    generalize s'.evs = evs at *
    obtain ⟨L, hL⟩ : ∃ L, callsAll evs = L := ⟨_, rfl⟩
    have hCn := calls_small hel
    have hCn2 := calls_small (Nat.le_refl evs.length)
    have hIn : ∀ c ∈ callsAll evs, c.inner.length ≤ 6000 := fun c hc => inner_small hel hc
    rw [hL] at hby hCn hCn2 hIn HR8
    clear hL
    obtain ⟨Ac, cc, rfl⟩ := HR8.out.1.form
    obtain ⟨Ae, ce, rfl⟩ := HR8.out.2.form
    obtain ⟨NE, hNE⟩ : ∃ NE, evs.length = NE := ⟨_, rfl⟩
    obtain ⟨C, hC⟩ : ∃ C, L.length = C := ⟨_, rfl⟩
    have HAT : Hid (0 < C → ∃ b off, Ac = some ⟨b, off, none⟩ ∧ b < w8.heap.size ∧ ∀ (i : Nat) (c : Cl), L[i]? = some c → ∃ Au cu, CallAt w8 b off i c Au cu) := Lib.hid fun h => HR8.out.1.at (by omega)
    have HEV : Hid (Rd w8 8 (.slice Ae NE ce) NE (flatE evs)) := Lib.hid (by have h := HR8.out.2; rw [hNE] at h; exact h)
    rw [hNE] at hel hby hCn2 ⊢
    rw [hC] at hCn hCn2 ⊢
    have HC := Lib.hid hC
    have HNE := Lib.hid hNE
    have HBY := Lib.hid hby
    have HIN := Lib.hid hIn
    have HSZ := Lib.hid (And.intro hel (And.intro hCn hCn2))
    clear HR8 hC hNE hby hIn hel hCn hCn2
    refine out_loop w8 evs L Ac Ae cc ce NE C HAT HEV HC HNE HBY HIN HSZ _ _ _ _ _ _ _ _ _ _ _ _ _ _ _ _ _ _ _ _ _ _ _ _ _ _ _ _ _ _ _ _ _ _ _ _ _ _ _ _ _ _ _ _ _ _ _ _ _ _ _ _ _ _ _ _ _ _ _ _ _ _ _ _ _ _ _ _ _ _ _ _ _ _ _ _ _ _ _ _ _ _ _ _ _ _ _ _ _ _ _ _ _ _ _ _ _ _ _ _ _ _ _ _ _ _ _ _ _ _ _ _ _ _ _ _ _ _ _ _ _ _ _ _ _ _ _ _ _ _ _ _ _ _ _ _ _ _ _ _ _ _ _ _ _ _ _ _ _ _ _ _ _ _ _ _ _ _ _ _ _ _ ?_
    intro o4 o14 o15 o16 o17 o18 o19 o67 o68 o69 o70 o71 o72 o73 o74 o75 o76 o77 o78 o79 o80 o81 o82 o83 o84 o85 o86 o87 o88 o89 o90 o91 o92 o93 o94 o95 o96 o97 o98 o99 o100 o101 o102 o103 o104 o105 o106 o107 o108 o109 o110 o111 o112 o113 o114 o115 o116 o117 o118 o119 o120 o121 o122 o123 o124 o125 o126 o127 o128 o129 o130 o131 o132 o133 o134 o135 o136 o137 o138 o139 o140 o141 o142 o143 o144 o145 o146 o147 o148 o149 o150 o151 o152 o153 o154 o155 o156 o157 o158 o159 o160 o161 o162 o163 o164 w9 hb9
    have HB9 := Lib.hid (HB8.out.trans (hb9.mono HB8.out.size))
    clear hb9
    go_wp2_with fail
    go_ret
    exact ⟨rfl, HB9.out⟩
end Go.Proofs.YtckmkaeopnnbbaaGreatDoor.As.T
