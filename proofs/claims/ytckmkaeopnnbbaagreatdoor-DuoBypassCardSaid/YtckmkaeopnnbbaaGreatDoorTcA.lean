/- The walk of trace.calls. -/
import Derived.Test.YtckmkaeopnnbbaaGreatDoorTcO
import Derived.Test.YtckmkaeopnnbbaaGreatDoorTcQ
import Derived.Maps.OwnIn
import Derived.Deep.Onto
set_option linter.unusedVariables false
set_option linter.unusedSimpArgs false
namespace Go.Proofs.YtckmkaeopnnbbaaGreatDoor.As
open Go.RowKit Go.Shelf
attribute [local go_sem] Oper.semAt_some

theorem row_own {W W' : World} {B e s n : Nat} {v : Value} {xs : List Value} {row : Option Nat} (h : W.ownsRow B e s v n xs) (hrow : ∀ r, row = some r → ∃ o : Obj, W.heap[r]? = some o ∧ o.isCells = false) : v.ownBlock = none ∨ v.ownBlock ≠ row := by
  rcases h.2 with ⟨rfl, _⟩ | ⟨g, cap, cur, rfl, _, hg, _⟩
  · exact .inl rfl
  · right
    intro e
    obtain ⟨o, ho, hc⟩ := hrow g (by rw [← e]; rfl)
    rw [hg] at ho; cases ho; cases hc
theorem OutC.own {B : Nat} {W W' : World} {v : Value} {l : List Cl} {vs : List Value} {row : Option Nat} (h : OutC B W v l vs) (hg : W.grownBy W' row) (hrow : ∀ r, row = some r → ∃ o : Obj, W.heap[r]? = some o ∧ o.isCells = false) : OutC B W' v l vs :=
  h.kept hg (row_own (W' := W') h.row hrow) (fun i u hu => by
    obtain ⟨c, _, hr⟩ := h.inn_at hu
    exact row_own (W' := W') hr hrow)
theorem OutC.alloc {B : Nat} {W : World} {v : Value} {l : List Cl} {vs : List Value} (h : OutC B W v l vs) (o : Obj) : OutC B (W.alloc o) v l vs := h.own (World.grownBy_alloc W o none) (fun r e => by cases e)
theorem OutC.mono {B B' : Nat} {W : World} {v : Value} {l : List Cl} {vs : List Value} (h : OutC B W v l vs) (hb : B' ≤ B) : OutC B' W v l vs := ⟨h.len, h.row.mono hb, fun i c u h1 h2 => (h.inn i c u h1 h2).mono hb, h.dis⟩
theorem OutC.drew {B : Nat} {W : World} {v : Value} {l : List Cl} {vs : List Value} (h : OutC B W v l vs) : OutC B W.drew v l vs := ⟨h.len, h.row, h.inn, h.dis⟩
theorem box_off {W : World} {B : Nat} {t : TypeId} {v : Value} (h : Boxed W B t v) {a : Addr} (x : Value) (hne : a.block ≠ B) : Boxed (W.setCell a x) B t v := (heap_setCell_other W a B x (fun e => hne e.symm)).trans h
theorem below_grown {n₀ : Nat} {W W' : World} {row : Option Nat} (hg : W.grownBy W' row) (hrow : ∀ k, row = some k → n₀ ≤ k) (hs : n₀ ≤ W.heap.size) : Below n₀ W W' :=
  ⟨hg.os, hg.tape, hg.output, hg.size, fun k hk => hg.block k (by omega) (fun e => by have := hrow k e.symm; omega)⟩
theorem wrap_small {k : Nat} (h : k ≤ 1000000) : wrap64 (k : Int) = (k : Int) ∧ IntKind.i64.wrap (k : Int) = (k : Int) := by
  refine ⟨by unfold wrap64; omega, ?_⟩
  rw [IntKind.wrap_i64]; omega
theorem wrap_site (z : Int) : IntKind.i64.wrap (IntKind.u32.wrap z) = z % 4294967296 := by
  rw [IntKind.wrap_u32, IntKind.wrap_i64]; omega
theorem infoInt : (Tryz.prog.info? 3).map (fun i => (i.zero, i.size, i.bytes)) = some (some (.int .i64 0), 1, 8) := by kernel_rfl
theorem infoCall : (Tryz.prog.info? 63).map (fun i => (i.zero, i.size, i.bytes)) = some (some (.agg #[.int .i64 0, .int .i64 0, .int .i64 0, .int .i64 0, .int .u32 0, .slice none 0 0]), 6, 64) := by kernel_rfl
theorem grown_set (W : World) (a : Addr) (x : Value) : W.grownBy (W.setCell a x) (some a.block) := ⟨rfl, rfl, rfl, by simp, fun k _ hk => heap_setCell_other W a k x (fun e => hk (by rw [e]))⟩
theorem row_cells {W : World} {B e s n j : Nat} {v : Value} {xs : List Value} {o : Obj} (h : W.ownsRow B e s v n xs) (ej : v.ownBlock = some j) (hj : W.heap[j]? = some o) : o.isCells = true := by
  rcases h.2 with ⟨rfl, _⟩ | ⟨g, cap, cur, rfl, _, hg, _⟩
  · simp [Value.ownBlock] at ej
  · obtain rfl : g = j := by simpa [Value.ownBlock] using ej
    rw [hg] at hj; cases hj; rfl
theorem OutC.keepCell {B g n cap i j : Nat} {W w1 : World} {u x : Value} {l : List Cl} {vs : List Value} {tmp : Obj} (h : OutC B W (.slice (some ⟨g, 0, none⟩) n cap) l vs) (hu : vs[i]? = some u) (hlt : g < W.heap.size) (hg : (W.alloc tmp).grownBy w1 u.ownBlock) (hc : W.cell? ⟨g, j, none⟩ = some x) (hf : W.frozen? ⟨g, j, none⟩ = false) : w1.cell? ⟨g, j, none⟩ = some x ∧ w1.frozen? ⟨g, j, none⟩ = false := by
  have hb : w1.heap[g]? = W.heap[g]? := (hg.block g (by simp; omega) (by
    have := h.off hu
    intro e
    rw [← e] at this
    rcases this with h | h
    · cases h
    · exact h rfl)).trans (Below.heap_alloc _ _ _ hlt)
  have e1 : w1.cell? ⟨g, j, none⟩ = W.cell? ⟨g, j, none⟩ := World.cell?_of_block (a := ⟨g, j, none⟩) hb
  have e2 : w1.frozen? ⟨g, j, none⟩ = W.frozen? ⟨g, j, none⟩ := World.frozen?_of_block (a := ⟨g, j, none⟩) hb
  exact ⟨e1.trans hc, e2.trans hf⟩
theorem cells_new (W : World) (cs : Array Value) (e n size : Nat) (hn : n ≤ maxLen) (hs : cs.size = n * size) : ∀ (j : Nat) (u : Value), cs.toList[j]? = some u → (W.alloc (.cells cs e)).cell? ((⟨W.heap.size, 0, none⟩ : Addr).add j) = some u :=
  (World.ownsRow_lit (base := W.heap.size) (e := e) (size := size) W cs n (Nat.le_refl _) hn hs).cells rfl
theorem OutC.box {B : Nat} {W : World} {v : Value} {l : List Cl} {vs : List Value} (h : OutC B W v l vs) (a : Addr) (x : Value) (hb : a.block < B) : OutC B (W.setCell a x) v l vs :=
  h.kept (grown_set W a x) (.inr (fun e => by have := (h.row.lt _ e).1; omega)) (fun i u hu => .inr (fun e => by
    obtain ⟨c, _, hr⟩ := h.inn_at hu
    have := (hr.lt _ e).1
    omega))
/-- What a round keeps: the boxes, the calls. -/
def CI (n₀ : Nat) (t : Int) (W0 : World) (pre : List (Nat × Ev)) (W : World) : Prop :=
  (∃ v vs, Boxed W (n₀ + 1) 58 v ∧ OutC (n₀ + 5) W v (callsF t pre).1 vs ∧ Boxed W (n₀ + 1 + 1) 4 (.bool (callsF t pre).2)) ∧ Boxed W n₀ 3 (.int .i64 t) ∧ Boxed W (n₀ + 1 + 1 + 1 + 1) 3 (.int .i64 t) ∧ Below n₀ W0 W ∧ n₀ + 5 ≤ W.heap.size
theorem CI.own {n₀ : Nat} {t : Int} {W0 : World} (h0 : n₀ ≤ W0.heap.size) (B : Nat) (hB : n₀ ≤ B) : OwnFrom B (CI n₀ t W0) := fun pre X Y row ⟨⟨v, vs, h1, h2, h3⟩, h4, h5, h6, h7⟩ hg hr => by
  have hr2 : ∀ r, row = some r → ∃ o : Obj, X.heap[r]? = some o ∧ o.isCells = false := fun r e => (hr r e).2
  have kb : ∀ {b : Nat} {t : TypeId} {v : Value}, Boxed X b t v → Boxed Y b t v := fun {b t v} hb => hb.kept hg (fun e => by
    obtain ⟨o, ho, hc⟩ := hr2 b e.symm
    rw [show X.heap[b]? = _ from hb] at ho; cases ho; cases hc)
  exact ⟨⟨v, vs, kb h1, h2.own hg hr2, kb h3⟩, kb h4, kb h5, h6.trans (below_grown hg (fun k e => by have := (hr k e).1; omega) (by omega)), Nat.le_trans h7 hg.size⟩
theorem CI.drewN {n₀ : Nat} {t : Int} {W0 W : World} {pre : List (Nat × Ev)} (h : CI n₀ t W0 pre W) (m : Nat) : CI n₀ t W0 pre (W.drewN m) := by
  obtain ⟨⟨v, vs, h1, h2, h3⟩, h4, h5, h6, h7⟩ := h
  exact ⟨⟨v, vs, h1, ⟨h2.len, h2.row, h2.inn, h2.dis⟩, h3⟩, h4, h5, ⟨h6.os, h6.tape, h6.output, h6.size, h6.block⟩, h7⟩
set_option maxRecDepth 100000 in
set_option maxHeartbeats 4000000 in
theorem calls_in (F : Fence) (n : Nat) (h3 : F.fn 53) (h4 : F.fn 88) (h5 : F.fn 136) (hro : F.round = none) (hn : 3 ≤ n) (v : Value) (len : Nat) (evs : List Ev) (t : Int) (hreach : len ≤ 1000000) (hk : ∀ e ∈ evs, 0 ≤ e.k ∧ e.k ≤ 4294967295) (w : World) (hR : Rd w 8 v len (flatE evs)) (hle : evs.length = len) :
    CallsIn F n Tryz.prog 53 #[v, .int .i64 t] w fun e W' => ∃ v' vs, e = .returned v' ∧ OutC w.heap.size W' v' (callsF t (ofI evs t len)).1 vs ∧ Below w.heap.size w W' := by
  have h1 : 1 ≤ n := by omega
  obtain ⟨iI, hiI, hI0, hI1, hI2⟩ := info_parts infoInt
  obtain ⟨iC, hiC, hC0, hC1, hC2⟩ := info_parts infoCall
  obtain ⟨A, cap, rfl⟩ := hR.form
  refine callsIn_of_wp_marks Tryz.func53 rfl h3 ?_ hro
  simp only [Tryz.ntmps53, List.size_toArray, List.length_cons, List.length_nil, Nat.reduceAdd, Nat.reduceSub, Array.replicate_succ, Array.replicate_zero, List.push_toArray, List.append_toArray, List.nil_append, List.cons_append]
  gi_wp2_with (gi_at_call 88; refine (of_in F (n - 1) h4 hro _ _ _ _ _).mono ?_; rintro e w' ⟨rfl, rfl⟩)
  obtain ⟨W0, hW0⟩ : ∃ W0, ((((w.alloc (.cells #[.int .i64 t] 3)).alloc (.cells #[.slice none 0 0] 58)).alloc (.cells #[.bool false] 4)).alloc (.cells #[.slice A len cap] 56)).alloc (.cells #[.int .i64 t] 3) = W0 := ⟨_, rfl⟩
  have hB0 : Below w.heap.size w W0 := by rw [← hW0]; exact (((((Below.refl _ w).alloc (Nat.le_refl _) _).alloc (by simp) _).alloc (by simp; omega) _).alloc (by simp; omega) _).alloc (by simp; omega) _
  have hsz : W0.heap.size = w.heap.size + 5 := by rw [← hW0]; simp
  have bT : Boxed W0 w.heap.size 3 (.int .i64 t) := by rw [← hW0]; exact ((((Boxed.new w _ _).alloc _).alloc _).alloc _).alloc _
  have bO : Boxed W0 (w.heap.size + 1) 58 (.slice none 0 0) := by
    have := Boxed.new (w.alloc (.cells #[.int .i64 t] 3)) 58 (.slice none 0 0)
    rw [World.size_alloc] at this
    rw [← hW0]; exact ((this.alloc _).alloc _).alloc _
  have bP : Boxed W0 (w.heap.size + 1 + 1) 4 (.bool false) := by
    have := Boxed.new ((w.alloc (.cells #[.int .i64 t] 3)).alloc (.cells #[.slice none 0 0] 58)) 4 (.bool false)
    rw [World.size_alloc, World.size_alloc] at this
    rw [← hW0]; exact (this.alloc _).alloc _
  have bN : Boxed W0 (w.heap.size + 1 + 1 + 1) 56 (.slice A len cap) := by
    have := Boxed.new (((w.alloc (.cells #[.int .i64 t] 3)).alloc (.cells #[.slice none 0 0] 58)).alloc (.cells #[.bool false] 4)) 56 (.slice A len cap)
    rw [World.size_alloc, World.size_alloc, World.size_alloc] at this
    rw [← hW0]; exact this.alloc _
  have bU : Boxed W0 (w.heap.size + 1 + 1 + 1 + 1) 3 (.int .i64 t) := by
    have := Boxed.new ((((w.alloc (.cells #[.int .i64 t] 3)).alloc (.cells #[.slice none 0 0] 58)).alloc (.cells #[.bool false] 4)).alloc (.cells #[.slice A len cap] 56)) 3 (.int .i64 t)
    rw [World.size_alloc, World.size_alloc, World.size_alloc, World.size_alloc] at this
    rw [← hW0]; exact this
  rw [hW0]
  have hRW := hR.below hB0 (Nat.le_refl _)
  clear hW0
  have hlt : ∀ b off c, Value.slice A len cap = .slice (some ⟨b, off, none⟩) len c → b < w.heap.size := by
    intro b off c e
    injection e with e1 e2 e3
    subst e1
    exact hR.lt
  refine wpIn_rangeFunc_ownH hro h1 (gf := 136) (lb := #[.pointer (some ⟨w.heap.size + 1 + 1 + 1, 0, none⟩), .pointer (some ⟨w.heap.size + 1 + 1 + 1 + 1, 0, none⟩)]) rfl h5 (enters_of Tryz.func136 (by kernel_rfl) rfl)
    (of_stops F (n - 1) h5 hro (by omega) (w.heap.size + 1 + 1 + 1) (w.heap.size + 1 + 1 + 1 + 1) w.heap.size _ len evs t hreach W0 (by omega) (by omega) (by omega) bN.cell bU.cell hRW hlt hle) KpT.trans (kpT_b (by omega) (by omega)) (Below.refl _ _) (fun _ => rfl)
    (CI w.heap.size t W0)
    (fun _ _ _ => False)
    (CI.own (by omega) _ (by omega))
    (fun _ _ _ _ _ hs _ _ => hs)
    ⟨⟨_, [], bO, OutC.nil _ _, bP⟩, bT, bU, Below.refl _ _, by omega⟩
    (fun x a' W => ∃ Bx, w.heap.size + 5 ≤ Bx ∧ BoxE W Bx x.2 ∧ a' = { tmps := #[.slice A len cap, .int .i64 t, undef, .pointer (some ⟨w.heap.size, 0, none⟩), .slice none 0 0, .pointer (some ⟨w.heap.size + 1, 0, none⟩), .pointer (some ⟨w.heap.size + 1 + 1, 0, none⟩), .int .i64 (x.1 : Int), .pointer (some ⟨Bx, 0, none⟩), undef, undef, .slice A len cap, .int .i64 t, .func (.func 136) #[] #[.pointer (some ⟨w.heap.size + 1 + 1 + 1, 0, none⟩), .pointer (some ⟨w.heap.size + 1 + 1 + 1 + 1, 0, none⟩)], .int .i64 (x.1 : Int), .agg x.2.cells.toArray, undef, undef, undef, undef, undef, undef, undef, undef, undef, undef, undef, undef, undef, undef, undef, undef, undef, undef, undef, undef, undef, undef, undef, undef, undef, undef, undef, undef, undef, undef, undef, undef, undef, undef, undef, undef, undef, undef, undef, undef, undef, undef, undef, undef, undef, undef, undef, undef, undef, undef, undef, undef, undef, undef, undef, undef, undef, undef, undef, undef, undef, undef, undef, undef, undef, undef, undef, undef, undef, undef, undef], defers := [] })
    (fun x a' _ X Y row hs hg hr => by obtain ⟨Bx, h1, h2, h3⟩ := hs; exact ⟨Bx, h1, boxE_own Bx (fun (_ : Unit) => x.2) () X Y row h2 hg (fun r e => (hr r e).2), h3⟩)
    ?assign ?body ?done ?stop
  case assign =>
    rintro l pre ⟨xi, x⟩ W K ⟨⟨v, vs, hv, ho, hp⟩, hT, hU, hB, hs⟩ hK
    dsimp only [Ev.cells] at hK ⊢
    gi_wp2
    exact hK _ _ ((KeepsOthers.alloc _ _).from _) (KpT.alloc (by omega) (by omega) _) ⟨⟨v, vs, hv.alloc _, ho.alloc _, hp.alloc _⟩, hT.alloc _, hU.alloc _, hB.alloc (by omega) _, by simp; omega⟩ ⟨W.heap.size, hs, World.alloc_heap_new W _, rfl⟩
  case body =>
    rintro l pre ⟨xi, x⟩ a' W hl ⟨r, hr⟩ ⟨⟨v, vs, hv, ho, hp⟩, hT, hU, hB, hs⟩ ⟨Bx, hBx, bX, rfl⟩ hlt
    have e0 : W.cell? ⟨Bx, 0, none⟩ = some (.int .i64 x.kind) := cell_of_row W Bx 0 _ _ _ bX
    have e4 : W.cell? ⟨Bx, 4, none⟩ = some (.int .u32 x.val) := cell_of_row W Bx 4 _ _ _ bX
    have e6 : W.cell? ⟨Bx, 6, none⟩ = some (.int .u32 x.k) := cell_of_row W Bx 6 _ _ _ bX
    have cv := hv.cell
    have cp := hp.cell
    have ct := hT.cell
    have hsn := callsF_snoc t pre (xi, x)
    have hopen := callsF_open t pre
    have hlen2 := callsF_len t pre
    obtain ⟨⟨ls, op⟩, hst⟩ : ∃ s, callsF t pre = s := ⟨_, rfl⟩
    rw [hst] at ho hp cp hsn hopen hlen2
    dsimp only at ho hp cp hopen hlen2
    have hres0 : callS t (ls, op) (xi, x) = (ls, op) → callsF t (pre ++ [(xi, x)]) = (ls, op) := fun e => hsn.trans e
    by_cases hk7 : x.kind = 7
    · have hk7b : (x.kind != 7) = false := by simpa using hk7
      have hvo : ∀ b, v.ownBlock = some b → w.heap.size + 5 ≤ b := fun b hb => (ho.row.lt b hb).1
      by_cases hk2 : x.k.tmod 2 = 0
      · have hk2b : (x.k.tmod 2 == 0) = true := by simpa using hk2
        have hres : callsF t (pre ++ [(xi, x)]) = (ls ++ [⟨x.k.tdiv 2 % 4294967296, t, xi, -1, 0, []⟩], true) := by rw [hsn]; unfold callS; simp [hk7, hk2]
        have hor := ho.row
        have HO := Lib.hid ho
        have hvl : ls.length ≤ 1000000 := by omega
        obtain ⟨k, hk0⟩ : ∃ k, ls.length = k := ⟨_, rfl⟩
        rw [hk0] at hor hvl
        have hcn := cells_new W #[.int .i64 (x.k.tdiv 2 % 4294967296), .int .i64 t, .int .i64 (xi : Int), .int .i64 (-1), .int .u32 0, .slice none 0 0] 63 1 6 (by unfold maxLen; omega) rfl
        clear ho hsn hres0 hopen hlen2
        gi_wp2_with (gi_at_builtin; refine wpListIn_append_own_at _ rfl _ _ 58 rfl (w.heap.size + 5) 63 iC (.agg #[.int .i64 0, .int .i64 0, .int .i64 0, .int .i64 0, .int .u32 0, .slice none 0 0]) 6 64 Tryz.underlying58 hiC hC0 hC1 hC2 rfl (by decide) v k _ rfl (hor.alloc _) ⟨W.heap.size, 0, none⟩ 1 1 [.int .i64 (x.k.tdiv 2 % 4294967296), .int .i64 t, .int .i64 (xi : Int), .int .i64 (-1), .int .u32 0, .slice none 0 0] rfl rfl hcn (by simp [Value.oneCell']) (by unfold maxLen; omega) (by omega) (by simp; omega) ?_; intro v' w1 hown' hgrow _ hwhere; obtain ⟨g', cap', rfl⟩ := ownsRow_succ hown'; have hv1 := (hv.alloc _).kept hgrow (fun e => by have := hvo _ e.symm; omega); have hp1 := (hp.alloc _).kept hgrow (fun e => by have := hvo _ e.symm; omega); have cv1 := hv1.cell; have fv1 := hv1.frozen; have cp1 := hp1.cell; have fp1 := hp1.frozen)
        subst hk0
        have hmore := (HO.out.alloc (.cells #[.int .i64 (x.k.tdiv 2 % 4294967296), .int .i64 t, .int .i64 (xi : Int), .int .i64 (-1), .int .u32 0, .slice none 0 0] 63)).snoc (c := ⟨x.k.tdiv 2 % 4294967296, t, xi, -1, 0, []⟩) rfl hown' hgrow
        have hs1 := hgrow.size
        simp only [World.size_alloc] at hs1
        have bk : ∀ {b : Nat} {t : TypeId} {z : Value} (y y' : Value), b < w.heap.size + 5 → b ≠ w.heap.size + 1 → b ≠ w.heap.size + 1 + 1 → Boxed W b t z → Boxed ((w1.setCell ⟨w.heap.size + 1, 0, none⟩ y).setCell ⟨w.heap.size + 1 + 1, 0, none⟩ y') b t z := fun {b t z} y y' hb h1 h2 h => box_off (box_off ((h.alloc _).kept hgrow (fun e => by have := hvo b e.symm; omega)) _ (show w.heap.size + 1 ≠ b by omega)) _ (show w.heap.size + 1 + 1 ≠ b by omega)
        have hbel : ∀ y y', Below w.heap.size W ((w1.setCell ⟨w.heap.size + 1, 0, none⟩ y).setCell ⟨w.heap.size + 1 + 1, 0, none⟩ y') := fun y y' => ((Below.refl w.heap.size W).alloc (by omega) _).trans ((below_grown hgrow (fun b hb => by have := hvo b hb; omega) (by simp; omega)).trans ((below_grown (grown_set _ _ _) (fun b hb => by injection hb with hb; subst hb; show w.heap.size ≤ w.heap.size + 1; omega) (by omega)).trans (below_grown (grown_set _ _ _) (fun b hb => by injection hb with hb; subst hb; show w.heap.size ≤ w.heap.size + 1 + 1; omega) (by simp; omega))))
        exact ⟨((((KeepsOthers.alloc W _).trans (KeepsOthers.of_grownBy hgrow (fun j o ej hj => row_cells (hor.alloc _) ej hj))).trans (KeepsOthers.setCell _ _ _)).trans (KeepsOthers.setCell _ _ _)).from _, ⟨hbel _ _, (bk _ _ (by omega) (by omega) (by omega) hU).trans hU.symm⟩, ⟨_, _, box_off (hv1.set _) _ (show w.heap.size + 1 + 1 ≠ w.heap.size + 1 by omega), by rw [hres]; exact (hmore.box _ _ (show w.heap.size + 1 < w.heap.size + 5 by omega)).box _ _ (show w.heap.size + 1 + 1 < w.heap.size + 5 by omega), by rw [hres]; exact (box_off hp1 _ (show w.heap.size + 1 ≠ w.heap.size + 1 + 1 by omega)).set _⟩, bk _ _ (by omega) (by omega) (by omega) hT, bk _ _ (by omega) (by omega) (by omega) hU, hB.trans (hbel _ _), by simp; omega⟩
      · have hk2b : (x.k.tmod 2 == 0) = false := by simpa using hk2
        by_cases hop : op = true
        · subst hop
          obtain ⟨l0, c, rfl⟩ := last_form (hopen rfl)
          obtain ⟨vs0, u, g, cp', rfl, hl0, rfl, hcells, hfro, hinn, hg5⟩ := ho.last
          obtain ⟨k, hk0⟩ : ∃ k, l0.length = k := ⟨_, rfl⟩
          rw [hk0] at hcells
          have c0 : W.cell? ⟨g, k * 6, none⟩ = some (.int .i64 c.site) := hcells 0 _ rfl
          have c3 : W.cell? ⟨g, k * 6 + 3, none⟩ = some (.int .i64 c.ended) := hcells 3 _ rfl
          have c4 : W.cell? ⟨g, k * 6 + 4, none⟩ = some (.int .u32 c.res) := hcells 4 _ rfl
          have f3 := hfro (k * 6 + 3)
          have f4 := hfro (k * 6 + 4)
          have fp := hp.frozen
          have hk6 : k ≤ 1000000 := by simp at hlen2; omega
          obtain ⟨hwk, hwk2⟩ := wrap_small hk6
          have hklt : ((k : Int) < (k : Int) + 1) := Int.lt_succ _
          by_cases hsi : c.site = x.k.tdiv 2 % 4294967296
          · have hsb : (c.site == IntKind.i64.wrap (IntKind.u32.wrap (x.k.tdiv 2))) = true := by rw [wrap_site]; simpa using hsi
            have hres : callsF t (pre ++ [(xi, x)]) = (l0 ++ [{ c with ended := (xi : Int), res := x.val }], false) := by rw [hsn]; unfold callS; simp [hk7, hk2, hsi]
            have HRES := Lib.hid hres
            clear hres
            have HO := Lib.hid ho
            have hBg : Bx ≠ g := fun e => by
              rcases ho.row.2 with ⟨h, _⟩ | ⟨g', cap', cur, h, _, hg, _⟩
              · cases h
              · injection h with h; injection h with h; injection h with h
                subst h e
                rw [show W.heap[Bx]? = _ from bX] at hg
                injection hg with hg
                injection hg with _ q _
                exact absurd q (by decide)
            have HBG := Lib.hid hBg
            clear hBg
            clear ho hsn hres0 hopen hlen2 hcells hfro
            gi_wp2
            refine wpIn_region_quietR (by kernel_rfl) (by kernel_rfl) (by kernel_rfl) ?_
            repeat (quiet_step_in (fail))
            refine wpQuietIn_nil ?_
            rintro _ ⟨nq, rfl⟩
            gi_wp2
            refine wpIn_region_r (fun V => V.cell? ⟨Bx, 4, none⟩ = some (.int .u32 x.val)) (by kernel_rfl) ?_
            obtain ⟨wd, hwd⟩ : ∃ wd, ({ W.drewN nq with drawn := (W.drewN nq).drawn + 1 } : World) = wd := ⟨_, rfl⟩
            have hwe : wd.heap = W.heap := by rw [← hwd]; rfl
            have cw : ∀ a, wd.cell? a = W.cell? a := fun a => World.cell?_of_block (by rw [hwe])
            have fw : ∀ a, wd.frozen? a = W.frozen? a := fun a => World.frozen?_of_block (by rw [hwe])
            have q4 : wd.cell? ⟨Bx, 4, none⟩ = some (.int .u32 x.val) := (cw _).trans e4
            have d3 : wd.cell? ⟨g, k * 6 + 3, none⟩ = some (.int .i64 c.ended) := (cw _).trans c3
            have g3 : wd.frozen? ⟨g, k * 6 + 3, none⟩ = false := (fw _).trans f3
            rw [hwd]
            refine AnyR_take (i := 0) (oi := _) (v := ?_) (by kernel_rfl) rfl (by kernel_rfl) (fun _ _ _ h => h) ⟨Or.inl ⟨by rfl, ?_⟩, fun _ => by first | rfl | (go_simp; done) | (simp [Oper.about]; done)⟩ q4 ?_
            rotate_left
            · intro V hSw; (try dsimp only at hSw); go_simp; first | done | with_reducible rfl
            simp only [Act.put, List.getElem_toArray, List.getElem_cons_zero, List.getElem_cons_succ, List.setIfInBounds_toArray, List.set_cons_zero, List.set_cons_succ]
            refine AnyR_take (i := 1) (oi := _) (v := ?_) (by kernel_rfl) rfl (by kernel_rfl) (fun _ _ _ h => h) ⟨Or.inl ⟨by rfl, ?_⟩, fun _ => by first | rfl | (go_simp; done) | (simp [Oper.about]; done)⟩ q4 ?_
            rotate_left
            · intro V hSw; (try dsimp only at hSw); go_simp; first | done | with_reducible rfl
            simp only [Act.put, List.getElem_toArray, List.getElem_cons_zero, List.getElem_cons_succ, List.setIfInBounds_toArray, List.set_cons_zero, List.set_cons_succ]
            refine AnyR_take (i := 2) (oi := _) (v := ?_) (by kernel_rfl) rfl (by kernel_rfl) (fun _ _ _ h => h) ⟨Or.inl ⟨by rfl, ?_⟩, fun _ => by first | rfl | (go_simp; done) | (simp [Oper.about]; done)⟩ q4 ?_
            rotate_left
            · intro V hSw; (try dsimp only at hSw); go_simp; first | done | with_reducible rfl
            simp only [Act.put, List.getElem_toArray, List.getElem_cons_zero, List.getElem_cons_succ, List.setIfInBounds_toArray, List.set_cons_zero, List.set_cons_succ]
            refine AnyR_take (i := 3) (oi := _) (v := ?_) (by kernel_rfl) rfl (by kernel_rfl) (fun _ _ _ h => h) ⟨Or.inl ⟨by rfl, ?_⟩, fun _ => by first | rfl | (go_simp; done) | (simp [Oper.about]; done)⟩ q4 ?_
            rotate_left
            · intro V hSw; (try dsimp only at hSw); go_simp; first | done | with_reducible rfl
            simp only [Act.put, List.getElem_toArray, List.getElem_cons_zero, List.getElem_cons_succ, List.setIfInBounds_toArray, List.set_cons_zero, List.set_cons_succ]
            refine AnyR_take (i := 4) (oi := _) (v := ?_) (by kernel_rfl) rfl (by kernel_rfl) (fun _ _ _ h => h) ⟨Or.inl ⟨by rfl, ?_⟩, fun _ => by first | rfl | (go_simp; done) | (simp [Oper.about]; done)⟩ q4 ?_
            rotate_left
            · intro V hSw; (try dsimp only at hSw); go_simp; first | done | with_reducible rfl
            simp only [Act.put, List.getElem_toArray, List.getElem_cons_zero, List.getElem_cons_succ, List.setIfInBounds_toArray, List.set_cons_zero, List.set_cons_succ]
            refine AnyR_take (i := 5) (oi := _) (v := ?_) (by kernel_rfl) rfl (by kernel_rfl) (fun _ _ _ h => h) ⟨Or.inl ⟨by rfl, ?_⟩, fun _ => by first | rfl | (go_simp; done) | (simp [Oper.about]; done)⟩ q4 ?_
            rotate_left
            · intro V hSw; (try dsimp only at hSw); go_simp; first | done | with_reducible rfl
            simp only [Act.put, List.getElem_toArray, List.getElem_cons_zero, List.getElem_cons_succ, List.setIfInBounds_toArray, List.set_cons_zero, List.set_cons_succ]
            refine AnyR_take (i := 6) (oi := _) (v := ?_) (by kernel_rfl) rfl (by kernel_rfl) (fun _ _ _ h => h) ⟨Or.inl ⟨by rfl, ?_⟩, fun _ => by first | rfl | (go_simp; done) | (simp [Oper.about]; done)⟩ q4 ?_
            rotate_left
            · intro V hSw; (try dsimp only at hSw); go_simp; first | done | with_reducible rfl
            simp only [Act.put, List.getElem_toArray, List.getElem_cons_zero, List.getElem_cons_succ, List.setIfInBounds_toArray, List.set_cons_zero, List.set_cons_succ]
            refine AnyR_one (i := 7) rfl (by kernel_rfl) ?_
            refine wpOpIn_of rfl rfl ?_
            try simp only [Act.put, List.getElem_toArray, List.getElem_cons_zero, List.getElem_cons_succ, List.setIfInBounds_toArray, List.set_cons_zero, List.set_cons_succ]
            go_simp
            refine ⟨(World.cell?_of_block (a := ⟨Bx, 4, none⟩) (heap_setCell_other _ _ _ _ HBG.out)).trans q4, ?_⟩
            obtain ⟨w2, hw2⟩ : ∃ w2, wd.setCell ⟨g, k * 6 + 3, none⟩ (.int .i64 (xi : Int)) = w2 := ⟨_, rfl⟩
            have r4 : w2.cell? ⟨Bx, 4, none⟩ = some (.int .u32 x.val) := by rw [← hw2]; exact (World.cell?_of_block (a := ⟨Bx, 4, none⟩) (heap_setCell_other _ _ _ _ HBG.out)).trans q4
            have hg0 : W.grownBy wd none := by rw [← hwd]; exact ⟨rfl, rfl, rfl, Nat.le_refl _, fun _ _ _ => rfl⟩
            have ho1 := (HO.out.own hg0 (fun r e => by cases e)).set hl0 3 (.int .i64 (xi : Int)) (c' := { c with ended := (xi : Int) }) rfl rfl
            rw [hk0, hw2] at ho1
            obtain ⟨vs1, u1, g1, cp1, ev1, el1, es1, hcells1, hfro1, _, _⟩ := ho1.last
            injection es1 with es1
            injection es1 with es1
            injection es1 with es1
            subst es1
            rw [hk0] at hcells1
            have d4 : w2.cell? ⟨g, k * 6 + 4, none⟩ = some (.int .u32 c.res) := hcells1 4 _ rfl
            have g4 : w2.frozen? ⟨g, k * 6 + 4, none⟩ = false := hfro1 _
            have hwd2 : w2.heap.size = W.heap.size := by rw [← hw2, ← hwe]; simp
            have HO1 := Lib.hid ho1
            have hKO : KeepsOthers W w2 := by rw [← hw2]; exact (KeepsOthers.of_grownBy hg0 (fun j o e => by cases e)).trans (KeepsOthers.setCell _ _ _)
            have hBW : Below w.heap.size W w2 := by rw [← hw2]; exact (below_grown hg0 (fun b e => by cases e) (by omega)).trans (below_grown (grown_set _ _ _) (fun b hb => by injection hb with hb; subst hb; show w.heap.size ≤ g; omega) (by rw [hwe]; omega))
            have bk : ∀ {b : Nat} {t : TypeId} {z : Value}, b < w.heap.size + 5 → Boxed W b t z → Boxed w2 b t z := fun {b t z} hb h => by rw [← hw2]; exact box_off (h.kept hg0 (by simp)) _ (show g ≠ b by omega)
            have bO2 := bk (by omega) hv
            have bP2 := bk (by omega) hp
            have bT2 := bk (by omega) hT
            have bU2 := bk (by omega) hU
            clear ho1 hcells1 hfro1
            rw [hw2]
            clear hw2 hwd
            try simp only [Act.put, List.getElem_toArray, List.getElem_cons_zero, List.getElem_cons_succ, List.setIfInBounds_toArray, List.set_cons_zero, List.set_cons_succ]
            refine AnyR_take (i := 8) (oi := _) (v := ?_) (by kernel_rfl) rfl (by kernel_rfl) (fun _ _ _ h => h) ⟨Or.inl ⟨by rfl, ?_⟩, fun _ => by first | rfl | (go_simp; done) | (simp [Oper.about]; done)⟩ r4 ?_
            rotate_left
            · intro V hSw; (try dsimp only at hSw); go_simp; first | done | with_reducible rfl
            simp only [Act.put, List.getElem_toArray, List.getElem_cons_zero, List.getElem_cons_succ, List.setIfInBounds_toArray, List.set_cons_zero, List.set_cons_succ]
            refine AnyR_take (i := 9) (oi := _) (v := ?_) (by kernel_rfl) rfl (by kernel_rfl) (fun _ _ _ h => h) ⟨Or.inl ⟨by rfl, ?_⟩, fun _ => by first | rfl | (go_simp; done) | (simp [Oper.about]; done)⟩ r4 ?_
            rotate_left
            · intro V hSw; (try dsimp only at hSw); go_simp; first | done | with_reducible rfl
            simp only [Act.put, List.getElem_toArray, List.getElem_cons_zero, List.getElem_cons_succ, List.setIfInBounds_toArray, List.set_cons_zero, List.set_cons_succ]
            refine AnyR_one (i := 10) rfl (by kernel_rfl) ?_
            refine wpOpIn_of rfl rfl ?_
            try simp only [Act.put, List.getElem_toArray, List.getElem_cons_zero, List.getElem_cons_succ, List.setIfInBounds_toArray, List.set_cons_zero, List.set_cons_succ]
            go_simp
            refine ⟨(World.cell?_of_block (a := ⟨Bx, 4, none⟩) (heap_setCell_other _ _ _ _ HBG.out)).trans r4, ?_⟩
            refine AnyR_done (by kernel_rfl) ?_ _
            have bP3 := box_off bP2 (a := ⟨g, k * 6 + 4, none⟩) (.int .u32 x.val) (show g ≠ _ by omega)
            have cp3 := bP3.cell
            have fp3 := bP3.frozen
            gi_wp2
            have ho1 := HO1.out
            rw [ev1] at ho1
            subst hk0
            have ho2 := (ho1.set el1 4 (.int .u32 x.val) (c' := { c with ended := (xi : Int), res := x.val }) rfl rfl).box ⟨w.heap.size + 1 + 1, 0, none⟩ (.bool false) (show w.heap.size + 1 + 1 < w.heap.size + 5 by omega)
            have b2 : ∀ {b : Nat} {t : TypeId} {z : Value}, b < w.heap.size + 5 → b ≠ w.heap.size + 1 + 1 → Boxed w2 b t z → Boxed ((w2.setCell ⟨g, l0.length * 6 + 4, none⟩ (.int .u32 x.val)).setCell ⟨w.heap.size + 1 + 1, 0, none⟩ (.bool false)) b t z := fun {b t z} hb hne h => box_off (box_off h _ (show g ≠ b by omega)) _ (show w.heap.size + 1 + 1 ≠ b by omega)
            have hb3 : Below w.heap.size W ((w2.setCell ⟨g, l0.length * 6 + 4, none⟩ (.int .u32 x.val)).setCell ⟨w.heap.size + 1 + 1, 0, none⟩ (.bool false)) := (hBW.trans (below_grown (grown_set _ _ _) (fun b hb => by injection hb with hb; subst hb; show w.heap.size ≤ g; omega) (by omega))).trans (below_grown (grown_set _ _ _) (fun b hb => by injection hb with hb; subst hb; show w.heap.size ≤ w.heap.size + 1 + 1; omega) (by simp; omega))
            exact ⟨((hKO.trans (KeepsOthers.setCell _ _ _)).trans (KeepsOthers.setCell _ _ _)).from _, ⟨hb3, (b2 (by omega) (by omega) bU2).trans hU.symm⟩, ⟨_, _, b2 (by omega) (by omega) bO2, by rw [HRES.out]; exact ho2, by rw [HRES.out]; exact bP3.set _⟩, b2 (by omega) (by omega) bT2, b2 (by omega) (by omega) bU2, hB.trans hb3, by simp; omega⟩
          · have hsb : (c.site == IntKind.i64.wrap (IntKind.u32.wrap (x.k.tdiv 2))) = false := by rw [wrap_site]; simpa using hsi
            have hres := hres0 (by unfold callS; simp [hk7, hk2, hsi])
            clear hsn hres0 hcells hfro hopen hlen2
            gi_wp2
            refine wpIn_region_quietR (by kernel_rfl) (by kernel_rfl) (by kernel_rfl) ?_
            repeat (quiet_step_in (fail))
            refine wpQuietIn_nil ?_
            rintro _ ⟨nq, rfl⟩
            gi_wp2
            have hC : CI w.heap.size t W0 (pre ++ [(xi, x)]) W := ⟨⟨_, _, hv, by rw [hres]; exact ho, by rw [hres]; exact hp⟩, hT, hU, hB, hs⟩
            exact ⟨⟨Nat.le_refl _, fun _ _ _ h _ => h⟩, ⟨⟨rfl, rfl, rfl, Nat.le_refl _, fun _ _ => rfl⟩, rfl⟩, hC.drewN nq⟩
        · have hopf : op = false := by simpa using hop
          subst hopf
          have hres := hres0 (by unfold callS; simp [hk7, hk2])
          clear hsn hres0
          gi_wp2
          refine wpIn_region_quietR (by kernel_rfl) (by kernel_rfl) (by kernel_rfl) ?_
          repeat (quiet_step_in (fail))
          refine wpQuietIn_nil ?_
          rintro _ ⟨nq, rfl⟩
          gi_wp2
          have hC : CI w.heap.size t W0 (pre ++ [(xi, x)]) W := ⟨⟨v, vs, hv, by rw [hres]; exact ho, by rw [hres]; exact hp⟩, hT, hU, hB, hs⟩
          exact ⟨⟨Nat.le_refl _, fun _ _ _ h _ => h⟩, ⟨⟨rfl, rfl, rfl, Nat.le_refl _, fun _ _ => rfl⟩, rfl⟩, hC.drewN nq⟩
    · have hk7b : (x.kind != 7) = true := by simpa using hk7
      by_cases hop : op = true
      · subst hop
        by_cases hk3 : x.kind = 3
        · have hres := hres0 (by unfold callS; simp [hk7, hk3])
          have hk3b : (x.kind != 3) = false := by simpa using hk3
          clear hsn hres0
          gi_wp2
          exact ⟨KeepsFrom.refl _ _, ⟨Below.refl _ _, rfl⟩, ⟨v, vs, hv, by rw [hres]; exact ho, by rw [hres]; exact hp⟩, hT, hU, hB, hs⟩
        · have hk3b : (x.kind != 3) = true := by simpa using hk3
          obtain ⟨l0, c, rfl⟩ := last_form (hopen rfl)
          have hres : callsF t (pre ++ [(xi, x)]) = (l0 ++ [{ c with inner := c.inner ++ [(xi : Int)] }], true) := by rw [hsn]; unfold callS; simp [hk7, hk3]
          obtain ⟨vs0, u, g, cp', rfl, hl0, rfl, hcells, hfro, hinn, hg5⟩ := ho.last
          obtain ⟨k, hk0⟩ : ∃ k, l0.length = k := ⟨_, rfl⟩
          rw [hk0] at hcells
          have c5 : W.cell? ⟨g, k * 6 + 5, none⟩ = some u := hcells 5 u rfl
          have f5 := hfro (k * 6 + 5)
          have hk6 : k ≤ 1000000 := by simp at hlen2; omega
          obtain ⟨hwk, hwk2⟩ := wrap_small hk6
          have hklt : ((k : Int) < (k : Int) + 1) := Int.lt_succ _
          have hci : c.inner.length ≤ pre.length := by have := callsF_inner t pre c (by rw [hst]; simp); exact this
          obtain ⟨m, hm⟩ : ∃ m, c.inner.length = m := ⟨_, rfl⟩
          rw [hm] at hinn hci
          have hul : (vs0 ++ [u])[l0.length]? = some u := by rw [← hl0]; simp
          have hgl : g < W.heap.size := by have := block_lt_of_cell c5; exact this
          have hub : ∀ b, u.ownBlock = some b → w.heap.size + 5 ≤ b := fun b hb => (hinn.lt b hb).1
          have HO := Lib.hid ho
          clear hsn hres0 hcells hk6 ho hfro hlen2 hopen
          gi_wp2_with (gi_at_builtin; refine wpListIn_append_own_at _ rfl _ _ 61 rfl (w.heap.size + 5) 3 iI (.int .i64 0) 1 8 Tryz.underlying61 hiI hI0 hI1 hI2 rfl (by decide) _ _ _ rfl (hinn.alloc _) ⟨W.heap.size, 0, none⟩ 1 1 [.int .i64 (xi : Int)] rfl rfl (cell_one_new _ _ _) (by simp [Value.oneCell']) (by unfold maxLen; omega) (by omega) (by simp; omega) ?_; intro u' w1 hown' hgrow _ hwhere; obtain ⟨g', cap', rfl⟩ := ownsRow_succ hown'; have hkc := HO.out.keepCell hul hgl hgrow c5 f5; have c5' := hkc.1; have f5' := hkc.2; clear hkc c5 f5)
          subst hk0
          subst hm
          have hmore := (HO.out.alloc (.cells #[.int .i64 (xi : Int)] 3)).more hl0 hown' hgrow (hwhere.imp id (fun e => ⟨_, Nat.le_refl _, e⟩))
          have hs1 := hgrow.size
          simp only [World.size_alloc] at hs1
          have bk : ∀ {b : Nat} {t : TypeId} {v : Value} (y : Value), b < w.heap.size + 5 → Boxed W b t v → Boxed (w1.setCell ⟨g, l0.length * 6 + 5, none⟩ y) b t v := fun {b t v} y hb h => box_off ((h.alloc _).kept hgrow (fun e => by have := hub b e.symm; omega)) _ (show g ≠ b by omega)
          have hbel : ∀ y, Below w.heap.size W (w1.setCell ⟨g, l0.length * 6 + 5, none⟩ y) := fun y => ((Below.refl w.heap.size W).alloc (by omega) _).trans ((below_grown hgrow (fun b hb => by have := hub b hb; omega) (by simp; omega)).trans (below_grown (grown_set _ _ _) (fun b hb => by injection hb with hb; subst hb; show w.heap.size ≤ g; omega) (by omega)))
          exact ⟨(((KeepsOthers.alloc W _).trans (KeepsOthers.of_grownBy hgrow (fun j o ej hj => row_cells (hinn.alloc _) ej hj))).trans (KeepsOthers.setCell _ _ _)).from _, ⟨hbel _, (bk _ (by omega) hU).trans hU.symm⟩, ⟨_, _, bk _ (by omega) hv, by rw [hres]; exact hmore, by rw [hres]; exact bk _ (by omega) hp⟩, bk _ (by omega) hT, bk _ (by omega) hU, hB.trans (hbel _), by simp; omega⟩
      · have hopf : op = false := by simpa using hop
        subst hopf
        have hres := hres0 (by unfold callS; simp [hk7])
        clear hsn hres0
        gi_wp2
        exact ⟨KeepsFrom.refl _ _, ⟨Below.refl _ _, rfl⟩, ⟨v, vs, hv, by rw [hres]; exact ho, by rw [hres]; exact hp⟩, hT, hU, hB, hs⟩
  case done =>
    rintro D ys W hD rfl ⟨⟨v, vs, hv, ho, hp⟩, hT, hU, hB, hs⟩ hK
    have hc := hv.cell
    gi_wp2
    refine ⟨by simp, .inl ⟨_, _, rfl, run_takeDeferred hK, ?_⟩⟩
    exact ⟨_, results_tmp rfl _ _ _, v, vs, rfl, (ho.own (grownBy_putObj' W D _) (fun r e => by cases e; exact ⟨_, hK, rfl⟩)).mono (by omega), (hB0.trans hB).trans (belowK_b (w := w) (Nat.le_refl _) W D _ _ (by omega) hK rfl rfl)⟩
  case stop =>
    rintro D c pre W _ _ h _
    exact h.elim
end Go.Proofs.YtckmkaeopnnbbaaGreatDoor.As
