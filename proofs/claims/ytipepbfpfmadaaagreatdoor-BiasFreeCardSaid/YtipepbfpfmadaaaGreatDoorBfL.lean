/- The law BiasFree. -/
import Derived.Test.YtipepbfpfmadaaaGreatDoorBiK
import Derived.Test.YtipepbfpfmadaaaGreatDoorTp4
set_option linter.unusedVariables false
set_option linter.unusedSimpArgs false
set_option maxRecDepth 20000
namespace Go.Proofs.YtipepbfpfmadaaaGreatDoor.As.T
open Go.RowKit

theorem own_code (A : Nat) (h : A < 4) : resL (biF A A) = BF.acqO ((A + 1 : Nat) : Int) ∧ resL (biG A A) = BF.relO ((A + 1 : Nat) : Int) := by
  have : A = 0 ∨ A = 1 ∨ A = 2 ∨ A = 3 := by omega
  rcases this with rfl | rfl | rfl | rfl <;> exact ⟨rfl, rfl⟩
theorem free_runs {A T R : Nat} (room : Nat) (hA : A < T) (hT : T ≤ 4) (hR0 : 0 < R) (hR : R ≤ 4) (l : List (Nat × Nat)) (hl : ∀ q ∈ l, q.2 = A) : ∃ s', Ts.run (codesR (lim (biF A)) (lim (biG A)) T R) (ts0 (mem0 [0, 0, 0, 0]) room T) l = some s' ∧ ∀ e ∈ s'.evs, BF.good e := by
  have hc : (codesR (lim (biF A)) (lim (biG A)) T R)[A]? = some (BF.codeO ((A + 1 : Nat) : Int) R) := by
    rw [codes_at _ _ hT hA]
    obtain ⟨e1, e2⟩ := own_code A (by omega)
    rw [e1, e2]; rfl
  have hld : ∀ x, (ts0 (mem0 [0, 0, 0, 0]) room T).load A x = (mem0 [0, 0, 0, 0]).getD x 0 := fun x => by
    unfold Ts.load; rw [buf0]; rfl
  obtain ⟨s', h1, h2⟩ := BF.run (s := ts0 (mem0 [0, 0, 0, 0]) room T) hA (by omega) (by omega) hc l hl ⟨by simp [ts0], by simp [ts0], rfl, rfl, (fun j q hj e he => by
    have hj2 : (List.replicate T ([] : List (Nat × Int)))[j]? = some q := hj
    rw [List.getElem?_replicate] at hj2
    split at hj2
    · injection hj2 with hj2; subst hj2; cases he
    · cases hj2), by rw [hld]; rfl, by rw [hld]; rfl, ⟨0, 0, 0, 0, 0, 0, 0, 0, 0, 0, 0, (by
      show (List.replicate T th0)[A]? = _
      rw [List.getElem?_replicate, if_pos hA]; rfl), .inl ⟨rfl, hR0, by decide, BF.At.a0 (by rw [hld]; rfl)⟩⟩, fun e he => by cases he⟩
  exact ⟨s', h1, h2.evs⟩
theorem bl_set {B : Nat} {a w : World} {p : Addr} (h : Below B a w) (hp : B ≤ p.block) (hB : B ≤ a.heap.size) (v : Value) : Below B a (w.setCell p v) :=
  h.trans ((Only.set1 (F := fun k => k = p.block) (p := p) (Only.refl _ w) rfl v).below (Nat.le_trans hB h.size) (fun k e => by omega))
theorem at_drew {W : World} {g : Nat} {o : Obj} (h : W.heap[g]? = some o) : W.drew.heap[g]? = some o := h
/-- The program lies in memory, the object too. -/
structure PrF (w WR W : World) (g9 gv pv gm5 pm5 ob A T M : Nat) (codes : List (List Ins)) : Prop where
  bel : Below w.heap.size w W
  row : W.heap[g9]? = some (.cells #[.slice (some ⟨gv, 0, none⟩) T pv, .slice (some ⟨gm5, 0, none⟩) 20 pm5, .int .i64 M] 33 (0, 0))
  cd : CdP W gv codes
  mem : Rd W 1 (.slice (some ⟨gm5, 0, none⟩) 20 pm5) 20 (w32 (mem0 [0, 0, 0, 0]))
  obj : W.cell? ⟨ob, 2, none⟩ = some (.int .i64 (A : Int))
  up : Below WR.heap.size WR W
theorem own_ge {W : World} {base : Nat} {e : TypeId} {size n k : Nat} {v : Value} {xs : List Value} (h : W.ownsRow base e size v n xs) (hk : v.ownBlock = some k) : base ≤ k := by
  rcases h.2 with ⟨rfl, _⟩ | ⟨g, cap, cur, rfl, hb, _⟩
  · cases hk
  · have : g = k := Option.some.inj hk
    omega
theorem CsW.turned {w W W' : World} {gp g9 : Nat} {cv : Value} {f : Nat → List Ins} {i : Nat} (h : CsW w W gp cv f i) (ho : Only (fun k => k = g9) W W') (hg : g9 < w.heap.size) : CsW w W' gp cv f i := by
  obtain ⟨⟨g, cap, h1, h2⟩, h3⟩ := h
  exact ⟨⟨g, cap, own_only h1 ho (fun k hk e => by have := own_ge h1 hk; omega), fun t ht => ⟨(h2 t ht).1.only ho (fun e => by have := (h2 t ht).2.1; omega), (h2 t ht).2⟩⟩, h3⟩
section
variable {w WR Wp W4 W : World} {gp gv pv gm5 pm5 ob A T M R : Nat} {ca cb : Nat → List Ins}
theorem prf_bel {g9 : Nat} (hb : Below w.heap.size w W4) (hcs : CsW Wp W4 gp (.slice (some ⟨gv, 0, none⟩) T pv) (fun t => roundsR (ca t) (cb t) R []) T) (hmv : W4.ownsRow Wp.heap.size 50 1 (.slice (some ⟨gm5, 0, none⟩) 20 pm5) 20 (w32 (mem0 [0, 0, 0, 0]))) (ho : W4.cell? ⟨ob, 2, none⟩ = some (.int .i64 (A : Int)))
    (hW : Below W4.heap.size W4 W) (hr : W.heap[g9]? = some (.cells #[.slice (some ⟨gv, 0, none⟩) T pv, .slice (some ⟨gm5, 0, none⟩) 20 pm5, .int .i64 M] 33 (0, 0))) (hup : Below WR.heap.size WR W) :
    PrF w WR W g9 gv pv gm5 pm5 ob A T M (codesR ca cb T R) :=
  ⟨hb.trans (hW.mono hb.size), hr, cdp_of (hcs.below hW), (Rd.of_own hmv).below hW (Nat.le_refl _), (hW.cell (block_lt_of_cell ho)).trans ho, hup⟩
theorem prf_set {g9 : Nat} {o0 o1 o2 : Value} (hb : Below w.heap.size w W4) (hcs : CsW Wp W4 gp (.slice (some ⟨gv, 0, none⟩) T pv) (fun t => roundsR (ca t) (cb t) R []) T) (hmv : W4.ownsRow Wp.heap.size 50 1 (.slice (some ⟨gm5, 0, none⟩) 20 pm5) 20 (w32 (mem0 [0, 0, 0, 0]))) (ho : W4.cell? ⟨ob, 2, none⟩ = some (.int .i64 (A : Int)))
    (hr : W4.heap[g9]? = some (.cells #[o0, o1, o2] 33 (0, 0))) (hg : g9 < Wp.heap.size) (hg2 : w.heap.size ≤ g9) (hne : ob ≠ g9)
    (hup : Below WR.heap.size WR (((W4.setCell ⟨g9, 0, none⟩ (.slice (some ⟨gv, 0, none⟩) T pv)).setCell ⟨g9, 1, none⟩ (.slice (some ⟨gm5, 0, none⟩) 20 pm5)).setCell ⟨g9, 2, none⟩ (.int .i64 M))) :
    PrF w WR (((W4.setCell ⟨g9, 0, none⟩ (.slice (some ⟨gv, 0, none⟩) T pv)).setCell ⟨g9, 1, none⟩ (.slice (some ⟨gm5, 0, none⟩) 20 pm5)).setCell ⟨g9, 2, none⟩ (.int .i64 M)) g9 gv pv gm5 pm5 ob A T M (codesR ca cb T R) := by
  obtain ⟨h1, h2⟩ := set3 hr (.slice (some ⟨gv, 0, none⟩) T pv) (.slice (some ⟨gm5, 0, none⟩) 20 pm5) (.int .i64 M)
  exact ⟨hb.trans (below_of_only h2 hg2 hb.size), h1, cdp_of (hcs.turned h2 hg), Rd.of_own (own_only hmv h2 (fun k hk e => by have := own_ge hmv hk; omega)), (World.cell?_of_block (w := W4) (a := ⟨ob, 2, none⟩) (h2.block ob (block_lt_of_cell ho) hne)).trans ho, hup⟩
end
set_option maxHeartbeats 4000000 in
theorem biasFree_any (w : World) (TI : TabI w) (TO : TabO w) (x0 x1 x2 x3 : Int) (h0 : 0 ≤ x0 ∧ x0 ≤ 255) (h1 : 0 ≤ x1 ∧ x1 ≤ 255) (h2 : 0 ≤ x2 ∧ x2 ≤ 255) (h3 : 0 ≤ x3 ∧ x3 ≤ 255) (Ad : Option Addr) (cap : Nat) (bs : List Nat) (hl : bs.length ≤ maxLen) (hs : Rd w 1 (.slice Ad bs.length cap) bs.length (u8s bs)) (hb : ∀ b ∈ bs, b ≤ 255) :
    Calls Tryz.prog 3 #[.agg #[.int .u8 x0, .int .u8 x1, .int .u8 x2, .int .u8 x3], .slice Ad bs.length cap] w fun e w' => e = .returned (.bool true) ∧ Below w.heap.size w w' := by
  obtain ⟨T, hT⟩ : ∃ T : Nat, 1 + x1 % 4 = (T : Int) := ⟨(1 + x1 % 4).toNat, by omega⟩
  obtain ⟨A, hA⟩ : ∃ A : Nat, x0 % (T : Int) = (A : Int) := ⟨(x0 % (T : Int)).toNat, by have := Int.emod_nonneg x0 (by omega : (T : Int) ≠ 0); omega⟩
  obtain ⟨R, hR⟩ : ∃ R : Nat, 1 + x2 % 4 = (R : Int) := ⟨(1 + x2 % 4).toNat, by omega⟩
  obtain ⟨M, hM⟩ : ∃ M : Nat, 1 + x3 % 5 = (M : Int) := ⟨(1 + x3 % 5).toNat, by omega⟩
  have hT4 : 1 ≤ T ∧ T ≤ 4 := by omega
  have hAT : A < T := by have := Int.emod_lt_of_pos x0 (by omega : 0 < (T : Int)); omega
  have hR4 : 1 ≤ R ∧ R ≤ 4 := by omega
  have hM5 : 1 ≤ M ∧ M ≤ 5 := by omega
  have haw := fun W (hW : Below w.heap.size w W) => awake18_any W (TI.below hW (Nat.le_refl _)) (TO.below hW (Nat.le_refl _))
  have hob := fun W => object18 W x0 x1 x2 x3 h0 h1 h2 h3
  rw [hT, hA, hR, hM] at hob
  have hcok : CodesOk (codesR (lim (biF A)) (lim (biG A)) T R) := codes_of (fun r t => fine_bi ⟨A, by omega⟩ r t) hT4.2 hR4.1 hR4.2
  have hrd : ∀ W, Below w.heap.size w W → ∀ bo bt, W.heap[bo]? = some (.cells #[.int .i64 8, .int .i64 0, .int .i64 (A : Int), .int .i64 0] 27 (0, 0)) → W.heap[bt]? = some (.cells #[.int .i64 (T : Int)] 3 (0, 0)) → Calls Tryz.prog 10 #[.agg #[.int .i64 8, .int .i64 0, .int .i64 (A : Int), .int .i64 0], .int .i64 T, .int .i64 R, .int .i64 M, .func (.func 33) #[] #[.pointer (some ⟨bo, 0, none⟩), .pointer (some ⟨bt, 0, none⟩)]] W fun e w' => ∃ cv mv, e = .returned (.tuple #[.agg #[cv, mv, .int .i64 M], .bool true]) ∧ w'.ownsRow W.heap.size 50 1 mv (16 + 4) (w32 (mem0 [0, 0, 0, 0])) ∧ CsW W w' (W.heap.size + 1) cv (fun t => roundsR (lim (biF A) t) (lim (biG A) t) R []) T ∧ Below W.heap.size W w' := fun W hW bo bt ho hbt =>
    rounds_any W (TI.below hW (Nat.le_refl _)) 8 0 A 0 T R M 33 #[.pointer (some ⟨bo, 0, none⟩), .pointer (some ⟨bt, 0, none⟩)] (lim (biF A)) (lim (biG A)) [0, 0, 0, 0]
      (fun t ht W' hW' => biA W (TI.below hW (Nat.le_refl _)) (TO.below hW (Nat.le_refl _)) A T t hAT hT4.2 ht bo bt ho hbt W' hW')
      (fun t ht W' hW' => biB W (TI.below hW (Nat.le_refl _)) (TO.below hW (Nat.le_refl _)) A T t hAT hT4.2 ht bo bt ho hbt W' hW')
      (fun W' hW' => biFirst W (TO.below hW (Nat.le_refl _)) A T hAT hT4.2 W' hW')
      (fun args w => enters_of Tryz.func33 (by kernel_rfl) rfl args w) (by decide) (by decide) (by omega) (by omega) (by omega) (by omega) (short_of (fun t => short_biF ⟨A, by omega⟩ t)) (short_of (fun t => short_biG ⟨A, by omega⟩ t))
  obtain ⟨s', hrun, hgood⟩ := free_runs (A := A) (T := T) (R := R) M hAT hT4.2 hR4.1 hR4.2 (bs.map (fun b => ((pickB b).1, A))) (fun q hq => by obtain ⟨b, _, rfl⟩ := List.mem_map.1 hq; rfl)
  obtain ⟨n, hn⟩ : ∃ n : Nat, bs.length = n := ⟨_, rfl⟩
  rw [hn] at hl ⊢
  have HS := Lib.hid (And.intro hs (And.intro hb hn))
  have HL := Lib.hid hl
  have HAW := Lib.hid haw
  have HOB := Lib.hid hob
  have HRD := Lib.hid hrd
  have HCO := Lib.hid hcok
  have HRUN := Lib.hid (And.intro hrun hgood)
  have HT := Lib.hid (And.intro hT4 (And.intro hAT (And.intro hR4 hM5)))
  have HTI := Lib.hid TI
  clear hs hb hn hl haw hob hrd hcok hrun hgood hT hA hR hM hT4 hAT hR4 hM5 TI TO h0 h1 h2 h3
  go_enter Tryz.func3, Tryz.ntmps3
  have hB0 : Below w.heap.size w (w.alloc (.cells #[.int .u8 x0, .int .u8 x1, .int .u8 x2, .int .u8 x3] 23)) := (Below.refl _ w).alloc (Nat.le_refl _) _
  go_wp2_with (first
    | (go_at_call 8; refine (HAW.out _ hB0).mono ?_; rintro r w1 ⟨rfl, hb1⟩; have c0 : w1.cell? ⟨w.heap.size, 0, none⟩ = some (.int .u8 x0) := cell_of_row w1 _ 0 _ _ _ ((hb1.block w.heap.size (by simp)).trans (heap_alloc_new _ _)); have c1 : w1.cell? ⟨w.heap.size, 1, none⟩ = some (.int .u8 x1) := cell_of_row w1 _ 1 _ _ _ ((hb1.block w.heap.size (by simp)).trans (heap_alloc_new _ _)); have c2 : w1.cell? ⟨w.heap.size, 2, none⟩ = some (.int .u8 x2) := cell_of_row w1 _ 2 _ _ _ ((hb1.block w.heap.size (by simp)).trans (heap_alloc_new _ _)); have c3 : w1.cell? ⟨w.heap.size, 3, none⟩ = some (.int .u8 x3) := cell_of_row w1 _ 3 _ _ _ ((hb1.block w.heap.size (by simp)).trans (heap_alloc_new _ _)); have hB1 : Hid (Below w.heap.size w w1) := Lib.hid (hB0.trans (hb1.mono (by simp))); clear hb1)
    | (go_at_call 8; refine (HAW.out _ hB1.out).mono ?_; rintro r w2 ⟨rfl, hb2⟩)
    | (go_at_call 9; refine (HOB.out _).mono ?_; rintro r w2 ⟨rfl, hb2⟩))
  · go_ret
    exact ⟨rfl, hB1.out.trans (hb2.mono hB1.out.size)⟩
  have hB2 : Below w.heap.size w w2 := hB1.out.trans (hb2.mono hB1.out.size)
  obtain ⟨WR, hWR⟩ : ∃ WR, (w2.alloc (.cells #[.int .i64 8, .int .i64 0, .int .i64 (A : Int), .int .i64 0] 27)) = WR := ⟨_, rfl⟩
  have hO : WR.heap[w2.heap.size]? = some (.cells #[.int .i64 8, .int .i64 0, .int .i64 (A : Int), .int .i64 0] 27 (0, 0)) := by rw [← hWR]; exact heap_alloc_new _ _
  have hBR : Below w.heap.size w WR := by rw [← hWR]; exact hB2.alloc hB2.size _
  obtain ⟨ob, hob⟩ : ∃ ob, w2.heap.size = ob := ⟨_, rfl⟩
  have hob1 : ob < WR.heap.size := by rw [← hWR, ← hob]; simp
  rw [hWR, hob]
  rw [hob] at hO
  clear hWR c0 c1 c2 c3 hb2 hB0 hB1 HAW HOB hB2 hob
  obtain ⟨o0, o1, o2, o3⟩ := cellsQ4 hO
  have hm := fun W => maker18_any W 8 0 A 0 T
  have HBR := Lib.hid hBR
  have HO := Lib.hid hO
  have HOB1 := Lib.hid hob1
  clear hBR hO hob1
  have x0 : ∀ W, Below WR.heap.size WR W → W.cell? ⟨ob, 0, none⟩ = some (.int .i64 8) := fun W hW => (hW.cell HOB1.out).trans o0
  have x1 : ∀ W, Below WR.heap.size WR W → W.cell? ⟨ob, 1, none⟩ = some (.int .i64 0) := fun W hW => (hW.cell HOB1.out).trans o1
  have x2 : ∀ W, Below WR.heap.size WR W → W.cell? ⟨ob, 2, none⟩ = some (.int .i64 (A : Int)) := fun W hW => (hW.cell HOB1.out).trans o2
  have x3 : ∀ W, Below WR.heap.size WR W → W.cell? ⟨ob, 3, none⟩ = some (.int .i64 0) := fun W hW => (hW.cell HOB1.out).trans o3
  have HO2 := Lib.hid o2
  clear o0 o1 o2 o3
  go_cut [9, 10] (fun v9 v10 wx => ∃ g9 gv pv gm5 pm5 : Nat, v9 = .pointer (some ⟨g9, 0, none⟩) ∧ v10 = .bool true ∧ Hid (PrF w WR wx g9 gv pv gm5 pm5 ob A T M (codesR (lim (biF A)) (lim (biG A)) T R)))
  case first =>
    have b0 : Below WR.heap.size WR WR.drew := bl_drew (Below.refl _ _)
    refine wp_region_g (fun W => Below WR.heap.size WR W) 99 (by kernel_rfl) ?_
    generalize WR.drew = wd at *
    refine AnyG_take (i := 0) (oi := _) (v := ?_) rfl (by kernel_rfl) (fun _ _ _ h => h) (Or.inl ⟨by rfl, ?_⟩) b0 ?_
    rotate_left
    · intro W hSw; (try dsimp only at hSw); go_simp; first | done | with_reducible rfl
    simp only [Act.put, List.getElem_toArray, List.getElem_cons_zero, List.getElem_cons_succ, List.setIfInBounds_toArray, List.set_cons_zero, List.set_cons_succ]
    refine AnyG_take (i := 1) (oi := _) (v := ?_) rfl (by kernel_rfl) (fun _ _ _ h => h) (Or.inl ⟨by rfl, ?_⟩) b0 ?_
    rotate_left
    · intro W hSw; (try dsimp only at hSw); go_simp; first | done | with_reducible rfl
    simp only [Act.put, List.getElem_toArray, List.getElem_cons_zero, List.getElem_cons_succ, List.setIfInBounds_toArray, List.set_cons_zero, List.set_cons_succ]
    refine AnyG_take (i := 2) (oi := _) (v := ?_) rfl (by kernel_rfl) (fun _ _ _ h => h) (Or.inl ⟨by rfl, ?_⟩) b0 ?_
    rotate_left
    · intro W hSw; (try dsimp only at hSw); go_simp; first | done | with_reducible rfl
    simp only [Act.put, List.getElem_toArray, List.getElem_cons_zero, List.getElem_cons_succ, List.setIfInBounds_toArray, List.set_cons_zero, List.set_cons_succ]
    refine AnyG_take (i := 3) (oi := _) (v := ?_) rfl (by kernel_rfl) (fun _ _ _ h => h) (Or.inl ⟨by rfl, ?_⟩) b0 ?_
    rotate_left
    · intro W hSw; (try dsimp only at hSw); go_simp; first | done | with_reducible rfl
    simp only [Act.put, List.getElem_toArray, List.getElem_cons_zero, List.getElem_cons_succ, List.setIfInBounds_toArray, List.set_cons_zero, List.set_cons_succ]
    refine AnyG_take (i := 4) (oi := _) (v := ?_) rfl (by kernel_rfl) (fun _ _ _ h => h) (Or.inl ⟨by rfl, ?_⟩) b0 ?_
    rotate_left
    · intro W hSw; (try dsimp only at hSw); go_simp; first | done | with_reducible rfl
    simp only [Act.put, List.getElem_toArray, List.getElem_cons_zero, List.getElem_cons_succ, List.setIfInBounds_toArray, List.set_cons_zero, List.set_cons_succ]
    refine AnyG_take (i := 5) (oi := _) (v := ?_) rfl (by kernel_rfl) (fun _ _ _ h => h) (Or.inl ⟨by rfl, ?_⟩) b0 ?_
    rotate_left
    · intro W hSw; (try dsimp only at hSw); go_simp; first | done | with_reducible rfl
    simp only [Act.put, List.getElem_toArray, List.getElem_cons_zero, List.getElem_cons_succ, List.setIfInBounds_toArray, List.set_cons_zero, List.set_cons_succ]
    refine AnyG_two (i := 6) (j := 11) (by kernel_rfl) ?_ ?_
    · skip
      refine wpOp_of rfl rfl ?_
      try simp only [Act.put, List.getElem_toArray, List.getElem_cons_zero, List.getElem_cons_succ, List.setIfInBounds_toArray, List.set_cons_zero, List.set_cons_succ]
      go_simp
      refine (hm wd).mono ?_
      rintro _ v1 ⟨rfl, hv1⟩
      have b1 : Below WR.heap.size WR v1 := by rw [hv1]; exact (b0.alloc b0.size _).alloc (by have := b0.size; simp; omega) _
      have hbo : v1.heap[wd.heap.size]? = some (.cells #[.int .i64 8, .int .i64 0, .int .i64 (A : Int), .int .i64 0] 27 (0, 0)) := by rw [hv1]; exact at_alloc (at_new rfl)
      have hbt : v1.heap[wd.heap.size + 1]? = some (.cells #[.int .i64 (T : Int)] 3 (0, 0)) := by rw [hv1]; exact at_new (by simp)
      have HBO := Lib.hid (And.intro hbo hbt)
      clear hbo hbt hv1
      refine ⟨b1, ?_⟩
      try simp only [Act.put, List.getElem_toArray, List.getElem_cons_zero, List.getElem_cons_succ, List.setIfInBounds_toArray, List.set_cons_zero, List.set_cons_succ]
      refine AnyG_two (i := 7) (j := 11) (by kernel_rfl) ?_ ?_
      · skip
        refine wpOp_of rfl rfl ?_
        try simp only [Act.put, List.getElem_toArray, List.getElem_cons_zero, List.getElem_cons_succ, List.setIfInBounds_toArray, List.set_cons_zero, List.set_cons_succ]
        go_simp
        refine (HRD.out v1 (HBR.out.trans (b1.mono HBR.out.size)) _ _ HBO.out.1 HBO.out.2).mono ?_
        rintro _ v2 ⟨cv, mv, rfl, hmv, hcs, hb4⟩
        obtain ⟨ggx, cpx, hcox, _⟩ := hcs.ex
        obtain ⟨gv, pv, rfl⟩ := own_form hcox (by have := HT.out.1; omega)
        obtain ⟨gm5, pm5, rfl⟩ := own_form hmv (by omega)
        have b2 : Below WR.heap.size WR v2 := Below.trans b1 (hb4.mono b1.size)
        have HCS := Lib.hid hcs
        have HMV := Lib.hid hmv
        clear hcs hmv hcox hb4
        refine ⟨b2, ?_⟩
        try simp only [Act.put, List.getElem_toArray, List.getElem_cons_zero, List.getElem_cons_succ, List.setIfInBounds_toArray, List.set_cons_zero, List.set_cons_succ]
        refine AnyG_take (i := 8) (oi := _) (v := ?_) rfl (by kernel_rfl) (fun _ _ _ h => h) (Or.inl ⟨by rfl, ?_⟩) b2 ?_
        rotate_left
        · intro W hSw; (try dsimp only at hSw); go_simp; first | done | with_reducible rfl
        simp only [Act.put, List.getElem_toArray, List.getElem_cons_zero, List.getElem_cons_succ, List.setIfInBounds_toArray, List.set_cons_zero, List.set_cons_succ]
        refine AnyG_take (i := 9) (oi := _) (v := ?_) rfl (by kernel_rfl) (fun _ _ _ h => h) (Or.inl ⟨by rfl, ?_⟩) b2 ?_
        rotate_left
        · intro W hSw; (try dsimp only at hSw); go_simp; first | done | with_reducible rfl
        simp only [Act.put, List.getElem_toArray, List.getElem_cons_zero, List.getElem_cons_succ, List.setIfInBounds_toArray, List.set_cons_zero, List.set_cons_succ]
        refine AnyG_take (i := 10) (oi := _) (v := ?_) rfl (by kernel_rfl) (fun _ _ _ h => h) (Or.inl ⟨by rfl, ?_⟩) b2 ?_
        rotate_left
        · intro W hSw; (try dsimp only at hSw); go_simp; first | done | with_reducible rfl
        simp only [Act.put, List.getElem_toArray, List.getElem_cons_zero, List.getElem_cons_succ, List.setIfInBounds_toArray, List.set_cons_zero, List.set_cons_succ]
        refine AnyG_one (i := 11) rfl (by kernel_rfl) ?_
        refine wpOp_of rfl rfl ?_
        try simp only [Act.put, List.getElem_toArray, List.getElem_cons_zero, List.getElem_cons_succ, List.setIfInBounds_toArray, List.set_cons_zero, List.set_cons_succ]
        go_simp
        obtain ⟨v3, hv3⟩ : ∃ W, World.alloc v2 (.cells #[.slice none 0 0, .slice none 0 0, .int .i64 0] 33) = W := ⟨_, rfl⟩
        rw [hv3]
        have b3 : Below WR.heap.size WR v3 := by rw [← hv3]; exact b2.alloc b2.size _
        have hr9 : v3.heap[v2.heap.size]? = some (.cells #[.slice none 0 0, .slice none 0 0, .int .i64 0] 33 (0, 0)) := by rw [← hv3]; exact at_new rfl
        have hq : Below v2.heap.size v2 v3 := by rw [← hv3]; exact (Below.refl _ _).alloc (Nat.le_refl _) _
        have HQ := Lib.hid hq
        clear hq
        have hle9 : WR.heap.size ≤ v2.heap.size := b2.size
        have HL9 := Lib.hid hle9
        clear hle9
        clear hv3
        refine ⟨b3, ?_⟩
        try simp only [Act.put, List.getElem_toArray, List.getElem_cons_zero, List.getElem_cons_succ, List.setIfInBounds_toArray, List.set_cons_zero, List.set_cons_succ]
        have d0 := cell_of_row _ _ 0 _ _ _ hr9
        have d1 := cell_of_row _ _ 1 _ _ _ hr9
        have d2 := cell_of_row _ _ 2 _ _ _ hr9
        have e0 := frozen_of_row _ _ 0 _ _ hr9
        have e1 := frozen_of_row _ _ 1 _ _ hr9
        have e2 := frozen_of_row _ _ 2 _ _ hr9
        refine AnyG_one (i := 12) rfl (by kernel_rfl) ?_
        refine wpOp_of rfl rfl ?_
        try simp only [Act.put, List.getElem_toArray, List.getElem_cons_zero, List.getElem_cons_succ, List.setIfInBounds_toArray, List.set_cons_zero, List.set_cons_succ]
        go_simp
        obtain ⟨hs1, hs2⟩ := set3 hr9 (.slice (some ⟨gv, 0, none⟩) T pv) (.slice (some ⟨gm5, 0, none⟩) 20 pm5) (.int .i64 M)
        have hbz := below_of_only hs2 HL9.out b3.size
        have HF : Hid (PrF w WR _ v2.heap.size gv pv gm5 pm5 ob A T M (codesR (lim (biF A)) (lim (biG A)) T R)) := Lib.hid (prf_bel (HBR.out.trans (b2.mono HBR.out.size)) HCS.out HMV.out ((b2.cell HOB1.out).trans HO2.out) (HQ.out.trans (below_of_only hs2 (Nat.le_refl _) HQ.out.size)) hs1 (b3.trans hbz))
        refine ⟨b3.trans hbz, ?_⟩
        clear d0 d1 d2 e0 e1 e2 hr9 hs1 hs2 hbz
        try simp only [Act.put, List.getElem_toArray, List.getElem_cons_zero, List.getElem_cons_succ, List.setIfInBounds_toArray, List.set_cons_zero, List.set_cons_succ]
        refine AnyG_one (i := 13) rfl (by kernel_rfl) ?_
        refine wpOp_of rfl rfl ?_
        try simp only [Act.put, List.getElem_toArray, List.getElem_cons_zero, List.getElem_cons_succ, List.setIfInBounds_toArray, List.set_cons_zero, List.set_cons_succ]
        go_simp
        refine ⟨HF.out.up, ?_⟩
        try simp only [Act.put, List.getElem_toArray, List.getElem_cons_zero, List.getElem_cons_succ, List.setIfInBounds_toArray, List.set_cons_zero, List.set_cons_succ]
        refine AnyG_done (by kernel_rfl) ?_ _
        go_wp2_with fail
        go_meet
        exact ⟨_, gv, pv, gm5, pm5, rfl, rfl, HF⟩
      · skip
        refine wpOp_of rfl rfl ?_
        try simp only [Act.put, List.getElem_toArray, List.getElem_cons_zero, List.getElem_cons_succ, List.setIfInBounds_toArray, List.set_cons_zero, List.set_cons_succ]
        go_simp
        obtain ⟨v2, hv2⟩ : ∃ W, World.alloc v1 (.cells #[.slice none 0 0, .slice none 0 0, .int .i64 0] 33) = W := ⟨_, rfl⟩
        rw [hv2]
        have b2 : Below WR.heap.size WR v2 := by rw [← hv2]; exact b1.alloc b1.size _
        have hr9 : v2.heap[v1.heap.size]? = some (.cells #[.slice none 0 0, .slice none 0 0, .int .i64 0] 33 (0, 0)) := by rw [← hv2]; exact at_new rfl
        have HBO2 := Lib.hid (show v2.heap[_]? = _ ∧ v2.heap[_]? = _ from by rw [← hv2]; exact ⟨at_alloc HBO.out.1, at_alloc HBO.out.2⟩)
        have hle9 : WR.heap.size ≤ v1.heap.size := b1.size
        have HL9 := Lib.hid hle9
        clear hle9
        have HR9 := Lib.hid hr9
        clear hr9
        clear hv2
        refine ⟨b2, ?_⟩
        try simp only [Act.put, List.getElem_toArray, List.getElem_cons_zero, List.getElem_cons_succ, List.setIfInBounds_toArray, List.set_cons_zero, List.set_cons_succ]
        refine AnyG_one (i := 7) rfl (by kernel_rfl) ?_
        refine wpOp_of rfl rfl ?_
        try simp only [Act.put, List.getElem_toArray, List.getElem_cons_zero, List.getElem_cons_succ, List.setIfInBounds_toArray, List.set_cons_zero, List.set_cons_succ]
        go_simp
        refine (HRD.out v2 (HBR.out.trans (b2.mono HBR.out.size)) _ _ HBO2.out.1 HBO2.out.2).mono ?_
        rintro _ v3 ⟨cv, mv, rfl, hmv, hcs, hb4⟩
        obtain ⟨ggx, cpx, hcox, _⟩ := hcs.ex
        obtain ⟨gv, pv, rfl⟩ := own_form hcox (by have := HT.out.1; omega)
        obtain ⟨gm5, pm5, rfl⟩ := own_form hmv (by omega)
        have b3 : Below WR.heap.size WR v3 := Below.trans b2 (hb4.mono b2.size)
        have hr9 : v3.heap[v1.heap.size]? = some (.cells #[.slice none 0 0, .slice none 0 0, .int .i64 0] 33 (0, 0)) := (hb4.block _ (Array.getElem?_eq_some_iff.1 HR9.out).1).trans HR9.out
        have hg9 : v1.heap.size < v2.heap.size := (Array.getElem?_eq_some_iff.1 HR9.out).1
        have HG9 := Lib.hid hg9
        have HR92 := Lib.hid hr9
        clear hg9 hr9
        have HCS := Lib.hid hcs
        have HMV := Lib.hid hmv
        clear hcs hmv hcox hb4
        refine ⟨b3, ?_⟩
        try simp only [Act.put, List.getElem_toArray, List.getElem_cons_zero, List.getElem_cons_succ, List.setIfInBounds_toArray, List.set_cons_zero, List.set_cons_succ]
        refine AnyG_take (i := 8) (oi := _) (v := ?_) rfl (by kernel_rfl) (fun _ _ _ h => h) (Or.inl ⟨by rfl, ?_⟩) b3 ?_
        rotate_left
        · intro W hSw; (try dsimp only at hSw); go_simp; first | done | with_reducible rfl
        simp only [Act.put, List.getElem_toArray, List.getElem_cons_zero, List.getElem_cons_succ, List.setIfInBounds_toArray, List.set_cons_zero, List.set_cons_succ]
        refine AnyG_take (i := 9) (oi := _) (v := ?_) rfl (by kernel_rfl) (fun _ _ _ h => h) (Or.inl ⟨by rfl, ?_⟩) b3 ?_
        rotate_left
        · intro W hSw; (try dsimp only at hSw); go_simp; first | done | with_reducible rfl
        simp only [Act.put, List.getElem_toArray, List.getElem_cons_zero, List.getElem_cons_succ, List.setIfInBounds_toArray, List.set_cons_zero, List.set_cons_succ]
        refine AnyG_take (i := 10) (oi := _) (v := ?_) rfl (by kernel_rfl) (fun _ _ _ h => h) (Or.inl ⟨by rfl, ?_⟩) b3 ?_
        rotate_left
        · intro W hSw; (try dsimp only at hSw); go_simp; first | done | with_reducible rfl
        simp only [Act.put, List.getElem_toArray, List.getElem_cons_zero, List.getElem_cons_succ, List.setIfInBounds_toArray, List.set_cons_zero, List.set_cons_succ]
        have hr9 := HR92.out
        have d0 := cell_of_row _ _ 0 _ _ _ hr9
        have d1 := cell_of_row _ _ 1 _ _ _ hr9
        have d2 := cell_of_row _ _ 2 _ _ _ hr9
        have e0 := frozen_of_row _ _ 0 _ _ hr9
        have e1 := frozen_of_row _ _ 1 _ _ hr9
        have e2 := frozen_of_row _ _ 2 _ _ hr9
        refine AnyG_one (i := 12) rfl (by kernel_rfl) ?_
        refine wpOp_of rfl rfl ?_
        try simp only [Act.put, List.getElem_toArray, List.getElem_cons_zero, List.getElem_cons_succ, List.setIfInBounds_toArray, List.set_cons_zero, List.set_cons_succ]
        go_simp
        obtain ⟨hs1, hs2⟩ := set3 hr9 (.slice (some ⟨gv, 0, none⟩) T pv) (.slice (some ⟨gm5, 0, none⟩) 20 pm5) (.int .i64 M)
        have hbz := below_of_only hs2 HL9.out b3.size
        have HF : Hid (PrF w WR _ v1.heap.size gv pv gm5 pm5 ob A T M (codesR (lim (biF A)) (lim (biG A)) T R)) := Lib.hid (prf_set (HBR.out.trans (b3.mono HBR.out.size)) HCS.out HMV.out ((b3.cell HOB1.out).trans HO2.out) hr9 HG9.out (Nat.le_trans HBR.out.size HL9.out) (by have := HOB1.out; have := HL9.out; omega) (b3.trans hbz))
        refine ⟨b3.trans hbz, ?_⟩
        clear d0 d1 d2 e0 e1 e2 hr9 hs1 hs2 hbz
        try simp only [Act.put, List.getElem_toArray, List.getElem_cons_zero, List.getElem_cons_succ, List.setIfInBounds_toArray, List.set_cons_zero, List.set_cons_succ]
        refine AnyG_one (i := 13) rfl (by kernel_rfl) ?_
        refine wpOp_of rfl rfl ?_
        try simp only [Act.put, List.getElem_toArray, List.getElem_cons_zero, List.getElem_cons_succ, List.setIfInBounds_toArray, List.set_cons_zero, List.set_cons_succ]
        go_simp
        refine ⟨HF.out.up, ?_⟩
        try simp only [Act.put, List.getElem_toArray, List.getElem_cons_zero, List.getElem_cons_succ, List.setIfInBounds_toArray, List.set_cons_zero, List.set_cons_succ]
        refine AnyG_done (by kernel_rfl) ?_ _
        go_wp2_with fail
        go_meet
        exact ⟨_, gv, pv, gm5, pm5, rfl, rfl, HF⟩
    · skip
      refine wpOp_of rfl rfl ?_
      try simp only [Act.put, List.getElem_toArray, List.getElem_cons_zero, List.getElem_cons_succ, List.setIfInBounds_toArray, List.set_cons_zero, List.set_cons_succ]
      go_simp
      obtain ⟨v1, hv1⟩ : ∃ W, World.alloc wd (.cells #[.slice none 0 0, .slice none 0 0, .int .i64 0] 33) = W := ⟨_, rfl⟩
      rw [hv1]
      have b1 : Below WR.heap.size WR v1 := by rw [← hv1]; exact b0.alloc b0.size _
      have hr9 : v1.heap[wd.heap.size]? = some (.cells #[.slice none 0 0, .slice none 0 0, .int .i64 0] 33 (0, 0)) := by rw [← hv1]; exact at_new rfl
      have hle9 : WR.heap.size ≤ wd.heap.size := b0.size
      have HL9 := Lib.hid hle9
      clear hle9
      have HR0 := Lib.hid hr9
      clear hr9
      clear hv1
      refine ⟨b1, ?_⟩
      try simp only [Act.put, List.getElem_toArray, List.getElem_cons_zero, List.getElem_cons_succ, List.setIfInBounds_toArray, List.set_cons_zero, List.set_cons_succ]
      refine AnyG_one (i := 6) rfl (by kernel_rfl) ?_
      refine wpOp_of rfl rfl ?_
      try simp only [Act.put, List.getElem_toArray, List.getElem_cons_zero, List.getElem_cons_succ, List.setIfInBounds_toArray, List.set_cons_zero, List.set_cons_succ]
      go_simp
      have hr9 := HR0.out
      refine (hm v1).mono ?_
      rintro _ v2 ⟨rfl, hv2⟩
      have b2 : Below WR.heap.size WR v2 := by rw [hv2]; exact (b1.alloc b1.size _).alloc (by have := b1.size; simp; omega) _
      have hbo : v2.heap[v1.heap.size]? = some (.cells #[.int .i64 8, .int .i64 0, .int .i64 (A : Int), .int .i64 0] 27 (0, 0)) := by rw [hv2]; exact at_alloc (at_new rfl)
      have hbt : v2.heap[v1.heap.size + 1]? = some (.cells #[.int .i64 (T : Int)] 3 (0, 0)) := by rw [hv2]; exact at_new (by simp)
      have hr9 : v2.heap[wd.heap.size]? = some (.cells #[.slice none 0 0, .slice none 0 0, .int .i64 0] 33 (0, 0)) := by rw [hv2]; exact at_alloc (at_alloc hr9)
      have HBO := Lib.hid (And.intro hbo hbt)
      have HR9 := Lib.hid hr9
      clear hr9
      clear hbo hbt hv2
      refine ⟨b2, ?_⟩
      try simp only [Act.put, List.getElem_toArray, List.getElem_cons_zero, List.getElem_cons_succ, List.setIfInBounds_toArray, List.set_cons_zero, List.set_cons_succ]
      refine AnyG_one (i := 7) rfl (by kernel_rfl) ?_
      refine wpOp_of rfl rfl ?_
      try simp only [Act.put, List.getElem_toArray, List.getElem_cons_zero, List.getElem_cons_succ, List.setIfInBounds_toArray, List.set_cons_zero, List.set_cons_succ]
      go_simp
      refine (HRD.out v2 (HBR.out.trans (b2.mono HBR.out.size)) _ _ HBO.out.1 HBO.out.2).mono ?_
      rintro _ v3 ⟨cv, mv, rfl, hmv, hcs, hb4⟩
      obtain ⟨ggx, cpx, hcox, _⟩ := hcs.ex
      obtain ⟨gv, pv, rfl⟩ := own_form hcox (by have := HT.out.1; omega)
      obtain ⟨gm5, pm5, rfl⟩ := own_form hmv (by omega)
      have b3 : Below WR.heap.size WR v3 := Below.trans b2 (hb4.mono b2.size)
      have hr9 : v3.heap[wd.heap.size]? = some (.cells #[.slice none 0 0, .slice none 0 0, .int .i64 0] 33 (0, 0)) := (hb4.block _ (Array.getElem?_eq_some_iff.1 HR9.out).1).trans HR9.out
      have hg9 : wd.heap.size < v2.heap.size := (Array.getElem?_eq_some_iff.1 HR9.out).1
      have HG9 := Lib.hid hg9
      have HR92 := Lib.hid hr9
      clear hg9 hr9
      have HCS := Lib.hid hcs
      have HMV := Lib.hid hmv
      clear hcs hmv hcox hb4
      refine ⟨b3, ?_⟩
      try simp only [Act.put, List.getElem_toArray, List.getElem_cons_zero, List.getElem_cons_succ, List.setIfInBounds_toArray, List.set_cons_zero, List.set_cons_succ]
      refine AnyG_take (i := 8) (oi := _) (v := ?_) rfl (by kernel_rfl) (fun _ _ _ h => h) (Or.inl ⟨by rfl, ?_⟩) b3 ?_
      rotate_left
      · intro W hSw; (try dsimp only at hSw); go_simp; first | done | with_reducible rfl
      simp only [Act.put, List.getElem_toArray, List.getElem_cons_zero, List.getElem_cons_succ, List.setIfInBounds_toArray, List.set_cons_zero, List.set_cons_succ]
      refine AnyG_take (i := 9) (oi := _) (v := ?_) rfl (by kernel_rfl) (fun _ _ _ h => h) (Or.inl ⟨by rfl, ?_⟩) b3 ?_
      rotate_left
      · intro W hSw; (try dsimp only at hSw); go_simp; first | done | with_reducible rfl
      simp only [Act.put, List.getElem_toArray, List.getElem_cons_zero, List.getElem_cons_succ, List.setIfInBounds_toArray, List.set_cons_zero, List.set_cons_succ]
      refine AnyG_take (i := 10) (oi := _) (v := ?_) rfl (by kernel_rfl) (fun _ _ _ h => h) (Or.inl ⟨by rfl, ?_⟩) b3 ?_
      rotate_left
      · intro W hSw; (try dsimp only at hSw); go_simp; first | done | with_reducible rfl
      simp only [Act.put, List.getElem_toArray, List.getElem_cons_zero, List.getElem_cons_succ, List.setIfInBounds_toArray, List.set_cons_zero, List.set_cons_succ]
      have hr9 := HR92.out
      have d0 := cell_of_row _ _ 0 _ _ _ hr9
      have d1 := cell_of_row _ _ 1 _ _ _ hr9
      have d2 := cell_of_row _ _ 2 _ _ _ hr9
      have e0 := frozen_of_row _ _ 0 _ _ hr9
      have e1 := frozen_of_row _ _ 1 _ _ hr9
      have e2 := frozen_of_row _ _ 2 _ _ hr9
      refine AnyG_one (i := 12) rfl (by kernel_rfl) ?_
      refine wpOp_of rfl rfl ?_
      try simp only [Act.put, List.getElem_toArray, List.getElem_cons_zero, List.getElem_cons_succ, List.setIfInBounds_toArray, List.set_cons_zero, List.set_cons_succ]
      go_simp
      obtain ⟨hs1, hs2⟩ := set3 hr9 (.slice (some ⟨gv, 0, none⟩) T pv) (.slice (some ⟨gm5, 0, none⟩) 20 pm5) (.int .i64 M)
      have hbz := below_of_only hs2 HL9.out b3.size
      have HF : Hid (PrF w WR _ wd.heap.size gv pv gm5 pm5 ob A T M (codesR (lim (biF A)) (lim (biG A)) T R)) := Lib.hid (prf_set (HBR.out.trans (b3.mono HBR.out.size)) HCS.out HMV.out ((b3.cell HOB1.out).trans HO2.out) hr9 HG9.out (Nat.le_trans HBR.out.size HL9.out) (by have := HOB1.out; have := HL9.out; omega) (b3.trans hbz))
      refine ⟨b3.trans hbz, ?_⟩
      clear d0 d1 d2 e0 e1 e2 hr9 hs1 hs2 hbz
      try simp only [Act.put, List.getElem_toArray, List.getElem_cons_zero, List.getElem_cons_succ, List.setIfInBounds_toArray, List.set_cons_zero, List.set_cons_succ]
      refine AnyG_one (i := 13) rfl (by kernel_rfl) ?_
      refine wpOp_of rfl rfl ?_
      try simp only [Act.put, List.getElem_toArray, List.getElem_cons_zero, List.getElem_cons_succ, List.setIfInBounds_toArray, List.set_cons_zero, List.set_cons_succ]
      go_simp
      refine ⟨HF.out.up, ?_⟩
      try simp only [Act.put, List.getElem_toArray, List.getElem_cons_zero, List.getElem_cons_succ, List.setIfInBounds_toArray, List.set_cons_zero, List.set_cons_succ]
      refine AnyG_done (by kernel_rfl) ?_ _
      go_wp2_with fail
      go_meet
      exact ⟨_, gv, pv, gm5, pm5, rfl, rfl, HF⟩
  case rest =>
    obtain ⟨g9, gv, pv, gm5, pm5, rfl, rfl, HF⟩ := hcut
    clear x0 x1 x2 x3 hm HRD HBR HO HOB1 HO2
    have hr9 := HF.out.row
    have d0 := cell_of_row _ _ 0 _ _ _ hr9
    have d1 := cell_of_row _ _ 1 _ _ _ hr9
    have d2 := cell_of_row _ _ 2 _ _ _ hr9
    clear hr9
    have hnew : Calls Tryz.prog 12 #[.agg #[.slice (some ⟨gv, 0, none⟩) T pv, .slice (some ⟨gm5, 0, none⟩) 20 pm5, .int .i64 M]] wc fun e w' => ∃ (Z : Nat → Prop) (K : TsK), e = .returned (.tuple #[.pointer (some ⟨K.mb, 0, none⟩), .int .i64 0]) ∧ Mch Z w' K (codesR (lim (biF A)) (lim (biG A)) T R) (ts0 (mem0 [0, 0, 0, 0]) M T) ∧ (∀ k, k < wc.heap.size → Z k) ∧ Below wc.heap.size wc w' ∧ (mem0 [0, 0, 0, 0]).length ≤ K.mc := by
      have h := new_ts wc (HTI.out.below HF.out.bel (Nat.le_refl _)) gv pv M pm5 (some ⟨gm5, 0, none⟩) (mem0 [0, 0, 0, 0]) (codesR (lim (biF A)) (lim (biG A)) T R) HF.out.cd HF.out.mem (by rw [codesR_len]; have := HT.out.1; omega) (by rw [codesR_len]; have := HT.out.1; omega) (by decide) (by decide) (by have := HT.out.2.2.2; omega) (by have := HT.out.2.2.2; omega) (fun L hL => ⟨(HCO.out L hL).2.1, fun x hx => by
        have := (HCO.out L hL).2.2 x hx
        simp only [okI, Bool.and_eq_true] at this
        exact this.1.1⟩) (fun L hL => (HCO.out L hL).1)
      rw [codesR_len] at h
      exact h
    go_wp2_with fail
    refine hnew.mono ?_
    rintro r w4 ⟨Z, K, rfl, hm4, hz4, hb4, hmc⟩
    have HB4 : Hid (Below w.heap.size w w4) := Lib.hid (HF.out.bel.trans (hb4.mono HF.out.bel.size))
    have HM4 := Lib.hid hm4
    have HZ : Hid (∀ k, k < w.heap.size → Z k) := Lib.hid (fun k hk => hz4 k (by have := HF.out.bel.size; omega))
    have ob4 : w4.cell? ⟨ob, 2, none⟩ = some (.int .i64 (A : Int)) := (hb4.cell (block_lt_of_cell HF.out.obj)).trans HF.out.obj
    have HOB := Lib.hid ob4
    clear hnew hm4 hz4 hb4 hmc ob4 d0 d1 d2 HF HTI
    have hread := readR_any w4 (.slice Ad bs.length cap) bs (HS.out.1.below HB4.out (Nat.le_refl _)) HS.out.2.1 (by rw [HS.out.2.2]; omega)
    rw [HS.out.2.2] at hread
    go_wp2_with (go_at_call 13; refine hread.mono ?_; rintro r w5 ⟨gp, rfl, hpk, ⟨arr, hrow⟩, hg5, hg6, hb5⟩)
    have hpl : (bs.map pickB).length = n := by rw [List.length_map]; exact HS.out.2.2
    have HPL := Lib.hid hpl
    have hst : ∀ (j : Nat) p, (bs.map pickB)[j]? = some p → arr[j * 2]? = some (.int .i64 (p.1 : Nat)) ∧ arr[j * 2 + 1]? = some (.int .i64 (if j < 0 then (A : Int) else (p.2 : Nat))) := fun j p hp => by
      obtain ⟨q1, q2⟩ := hpk j p hp
      rw [cell_of_row _ _ _ _ _ _ hrow] at q1 q2
      rw [if_neg (Nat.not_lt_zero _)]
      exact ⟨q1, q2⟩
    have HST := Lib.hid (And.intro hrow (And.intro hst hb5))
    have HG5 := Lib.hid hg5
    have hn3 : n ≤ 3000 := by omega
    have HN3 := Lib.hid hn3
    clear hread hpl hpk hrow hg5 hg6 hb5 hst hn3 HL
    go_loopg [14] n (fun g iv wr => ∃ (i : Nat) (ar : Array Value), i + g = n ∧ iv = .int .i64 i ∧ Hid (wr.heap[gp]? = some (.cells ar 46 (0, 0)) ∧ (∀ (j : Nat) p, (bs.map pickB)[j]? = some p → ar[j * 2]? = some (.int .i64 (p.1 : Nat)) ∧ ar[j * 2 + 1]? = some (.int .i64 (if j < i then (A : Int) else (p.2 : Nat)))) ∧ Below w4.heap.size w4 wr))
    case atStart => exact ⟨0, arr, by omega, rfl, HST⟩
    case round =>
      obtain ⟨i, ar, hi, rfl, HR⟩ := hrel
      clear HST
      by_cases hlt : i < n
      · obtain ⟨g', rfl⟩ : ∃ g', gk = g' + 1 := ⟨gk - 1, by omega⟩
        have hil : (i : Int) < (n : Int) := by omega
        have hwr : wrap64 ((i : Int) + 1) = (i : Int) + 1 := by have := HN3.out; unfold wrap64; omega
        obtain ⟨p, hp⟩ : ∃ p, (bs.map pickB)[i]? = some p := ⟨_, List.getElem?_eq_getElem (by rw [HPL.out]; exact hlt)⟩
        have y1 := (cell_of_row _ _ (i * 2 + 1) _ _ _ HR.out.1).trans (HR.out.2.1 i p hp).2
        have f1 := frozen_of_row _ _ (i * 2 + 1) _ _ HR.out.1
        have oA : wr.cell? ⟨ob, 2, none⟩ = some (.int .i64 (A : Int)) := (HR.out.2.2.cell (block_lt_of_cell HOB.out)).trans HOB.out
        clear hp
        go_wp2_with fail
        go_roundg g'
        case rel =>
          refine ⟨i + 1, ar.setIfInBounds (i * 2 + 1) (.int .i64 (A : Int)), by omega, by first | (simp; done) | (simp; exact hwr), Lib.hid ⟨heap_setCell_same _ gp (i * 2 + 1) _ _ _ HR.out.1, fun j q hq => ?_, bl_set HR.out.2.2 HG5.out (Nat.le_refl _) _⟩⟩
          obtain ⟨h1, h2⟩ := HR.out.2.1 j q hq
          rw [Array.getElem?_setIfInBounds, Array.getElem?_setIfInBounds, if_neg (by omega)]
          refine ⟨h1, ?_⟩
          by_cases e : i = j
          · subst e
            rw [if_pos rfl, if_pos (Array.getElem?_eq_some_iff.1 h2).1, if_pos (by omega)]
          · rw [if_neg (by omega), h2]
            by_cases e2 : j < i
            · rw [if_pos e2, if_pos (by omega)]
            · rw [if_neg e2, if_neg (by omega)]
        case measure => omega
      · have hil : ¬ ((i : Int) < (n : Int)) := by omega
        have hin : i = n := by omega
        subst hin
        obtain ⟨wl, hwl⟩ : ∃ x, x = wr := ⟨_, rfl⟩
        subst hwl
        have hpk2 : PkS wl gp (bs.map (fun b => ((pickB b).1, A))) := fun j p hp => by
          rw [List.getElem?_map] at hp
          obtain ⟨b, hb, rfl⟩ := Option.map_eq_some_iff.1 hp
          have hj : j < i := by
            have := (List.getElem?_eq_some_iff.1 hb).1
            have e := HPL.out
            rw [List.length_map] at e
            omega
          obtain ⟨h1, h2⟩ := HR.out.2.1 j (pickB b) (by rw [List.getElem?_map, hb]; rfl)
          rw [if_pos hj] at h2
          exact ⟨(cell_of_row _ _ _ _ _ _ HR.out.1).trans h1, (cell_of_row _ _ _ _ _ _ HR.out.1).trans h2⟩
        have hrunc : Calls Tryz.prog 14 #[.pointer (some ⟨K.mb, 0, none⟩), .slice (some ⟨gp, 0, none⟩) i i] wl fun e w' => e = .returned (.tuple #[]) ∧ TsM (fun k => Z k ∨ k = gp) w' K s' ∧ Only (fun k => ¬ (Z k ∨ k = gp)) wl w' ∧ s'.evs.length ≤ 2 * i := by
          have hk0 := ok0 HCO.out (mem := mem0 [0, 0, 0, 0]) (room := M) (fun v hv => by
            have : ∀ v ∈ mem0 [0, 0, 0, 0], wd v = true := by decide
            exact this v hv)
          rw [codesR_len] at hk0
          have hp0 : (ts0 (mem0 [0, 0, 0, 0]) M T).pend = 0 := by simp [ts0, Ts.pend]
          have he0 : (ts0 (mem0 [0, 0, 0, 0]) M T).evs.length = 0 := rfl
          have hli : (bs.map (fun b => ((pickB b).1, A))).length = i := by rw [List.length_map]; have e := HPL.out; rw [List.length_map] at e; exact e
          have h := run_ts (cap := i) (HM4.out.more (TsM.add HM4.out.m HR.out.2.2 HG5.out (Array.getElem?_eq_some_iff.1 HR.out.1).1) (Only.of_below (F := fun _ => False) HR.out.2.2 (Nat.le_refl _)) (fun k e => Or.inl e)) hk0 (by have := HT.out.1; simp [ts0]; omega) (by
            rw [he0, hp0, hli]; have := HN3.out; omega) (by show (mem0 [0, 0, 0, 0]).length ≤ 2000; decide) (Or.inr rfl) hpk2 HRUN.out.1
          rw [hli] at h
          refine h.mono ?_
          rintro e w' ⟨a1, a2, a3, a4, a5, a6, a7⟩
          exact ⟨a1, a2, a3, by omega⟩
        have HRC := Lib.hid hrunc
        clear hrunc hpk2
        go_wp2_with (go_at_call 14; refine HRC.out.mono ?_; rintro r w6 ⟨rfl, hm6, ho6, hev6⟩)
        have HB6 : Hid (Below w.heap.size w w6) := Lib.hid ((HB4.out.trans (HR.out.2.2.mono HB4.out.size)).trans (ho6.below (Nat.le_trans HB4.out.size HR.out.2.2.size) (fun k e => by
          rcases Nat.lt_or_ge k w.heap.size with h | h
          · exact absurd (.inl (HZ.out k h)) e
          · exact h)))
        have HM6 := Lib.hid hm6
        have HE6 := Lib.hid hev6
        clear hm6 ho6 hev6 HRC HR HM4 HB4 HZ HOB
        have hevs := events_ts HM6.out (by have := HE6.out; have := HN3.out; omega)
        refine hevs.mono ?_
        rintro r w7 ⟨ve, rfl, hve, hb7⟩
        obtain ⟨NE, hNE⟩ : ∃ n, s'.evs.length = n := ⟨_, rfl⟩
        have hre := Rd.of_own hve
        rw [hNE] at hre
        obtain ⟨Ae, ce, rfl, hce, hle, hcell⟩ := hre
        have HB7 : Hid (Below w.heap.size w w7) := Lib.hid (HB6.out.trans (hb7.mono HB6.out.size))
        have HCE := Lib.hid hcell
        have HNE := Lib.hid hNE
        have hnl : NE ≤ 200000 := by have := HE6.out; have := HN3.out; omega
        have HNL := Lib.hid hnl
        clear hevs hve hb7 hcell hNE hnl hce hle HB6
        go_wp2_with fail
        go_loopg [16] NE (fun g iv wr => ∃ (j : Nat), j + g = NE ∧ iv = .int .i64 j ∧ wr = w7)
        case atStart => exact ⟨0, by omega, rfl, rfl⟩
        case round =>
          obtain ⟨j, hj, rfl, rfl⟩ := hrel
          by_cases hlt2 : j < NE
          · obtain ⟨g', rfl⟩ : ∃ g', gk = g' + 1 := ⟨gk - 1, by omega⟩
            have hjl : (j : Int) < (NE : Int) := by omega
            have hwr : wrap64 ((j : Int) + 1) = (j : Int) + 1 := by have := HNL.out; unfold wrap64; omega
            obtain ⟨x, hx⟩ : ∃ x, s'.evs[j]? = some x := ⟨_, List.getElem?_eq_getElem (by rw [HNE.out]; exact hlt2)⟩
            obtain ⟨b0, off, rfl, hbl, hce⟩ : ∃ b off, Ae = some ⟨b, off, none⟩ ∧ b < wr.heap.size ∧ ∀ j u, (flatE s'.evs)[j]? = some u → wr.cell? ⟨b, off + j, none⟩ = some u := by
              rcases HCE.out with ⟨_, h⟩ | h
              · omega
              · exact h
            obtain ⟨y0, y1, y2, y3, y4, y5, y6, y7⟩ := ev_cells hce hx
            obtain ⟨n4, n5, n10, n8, n9, n13, hmk⟩ := HRUN.out.2 x (List.mem_of_getElem? hx)
            clear hce hx y1 y2 y3 y5 y7
            have q4 : (x.kind == 4) = false := by simpa using n4
            have q5 : (x.kind == 5) = false := by simpa using n5
            have q10 : (x.kind == 10) = false := by simpa using n10
            have q8 : (x.kind == 8) = false := by simpa using n8
            have q9 : (x.kind == 9) = false := by simpa using n9
            have q13 : (x.kind == 13) = false := by simpa using n13
            clear n4 n5 n10 n8 n9 n13
            by_cases k7 : x.kind = 7
            · by_cases hk2 : x.k.tmod 2 = 1
              · have hv0 : x.val = 0 := hmk k7 (by
                  have h := Int.tmod_add_mul_tdiv x.k 2
                  generalize x.k.tdiv 2 = q at h
                  omega)
                rw [hv0] at y4
                have q7 : (x.kind == 7) = true := by simpa using k7
                have k2 : (x.k.tmod 2 == 1) = true := by simpa using hk2
                clear hmk k7 hk2 hv0
                go_wp2_with fail
                go_roundg g'
                case rel => exact ⟨j + 1, by omega, by first | (simp; done) | (simp; exact hwr), rfl⟩
                case measure => omega
              · have q7 : (x.kind == 7) = true := by simpa using k7
                have k2 : (x.k.tmod 2 == 1) = false := by simpa using hk2
                clear hmk k7 hk2
                go_wp2_with fail
                go_roundg g'
                case rel => exact ⟨j + 1, by omega, by first | (simp; done) | (simp; exact hwr), rfl⟩
                case measure => omega
            · have q7 : (x.kind == 7) = false := by simpa using k7
              clear hmk k7
              go_wp2_with fail
              go_roundg g'
              case rel => exact ⟨j + 1, by omega, by first | (simp; done) | (simp; exact hwr), rfl⟩
              case measure => omega
          · have hjl : ¬ ((j : Int) < (NE : Int)) := by omega
            go_wp2_with fail
            go_ret
            exact ⟨rfl, HB7.out⟩
end Go.Proofs.YtipepbfpfmadaaaGreatDoor.As.T
