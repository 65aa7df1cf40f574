/- The walks of trace.Of and trace.Outs: a thread's events handed out one by one, gathered. A thread alone: its picks, and what it has put out. The walk of deadlatchlaw15.alone. -/
import Derived.RangeFuncNested
import Derived.RangeFuncBound
import Derived.RangeFuncCalls
import Derived.RangeFuncLeaves
import Derived.RangeFuncBox
import Derived.Shelf.Abstract
import Derived.Shelf.RegionOpen
import Derived.WalkKit
import Derived.OwnWalkIn
import Derived.TacticsInMore
import Derived.LoopNIn
import Derived.LoopIn
import Derived.Maps.AppendAt
import Derived.Test.YtackbadmcgjncaaGreatDoorAlC
import Derived.Test.YtackbadmcgjncaaGreatDoorAlS
import Derived.Test.YtackbadmcgjncaaGreatDoorCoJ
import Derived.Test.YtackbadmcgjncaaGreatDoorAlF
import Derived.Test.YtackbadmcgjncaaGreatDoorAlD
import Derived.Test.YtackbadmcgjncaaGreatDoorAlM
import Derived.Test.YtackbadmcgjncaaGreatDoorBld
import Derived.Deep.Cut
set_option linter.unusedVariables false
set_option linter.unusedSimpArgs false
set_option maxRecDepth 20000
namespace Go.Proofs.YtackbadmcgjncaaGreatDoor.As
open Go.RowKit Go.Shelf
attribute [local go_sem] Oper.semAt_some

/-- The thread's events among the first k, each with its place. -/
def ofI (l : List Ev) (t : Int) (k : Nat) : List (Nat × Ev) := (List.range k).filterMap fun j => match l[j]? with | none => none | some e => if e.who = t then some (j, e) else none
theorem ofI_succ (l : List Ev) (t : Int) (k : Nat) (e : Ev) (h : l[k]? = some e) : ofI l t (k + 1) = ofI l t k ++ (if e.who = t then [(k, e)] else []) := by
  unfold ofI
  rw [List.range_succ, List.filterMap_append]
  congr 1
  by_cases c : e.who = t <;> simp [h, c]
theorem ofI_len (l : List Ev) (t : Int) (k : Nat) : (ofI l t k).length ≤ k := by
  unfold ofI
  exact Nat.le_trans (List.length_filterMap_le _ _) (by simp)
theorem flatE_at {l : List Ev} {k : Nat} {e : Ev} (h : l[k]? = some e) (j : Nat) (u : Value) (hu : e.cells[j]? = some u) : (flatE l)[k * 8 + j]? = some u := by
  induction l generalizing k with
  | nil => cases h
  | cons x l ih =>
    have hx : x.cells.length = 8 := rfl
    have hj : j < 8 := by have := (List.getElem?_eq_some_iff.1 hu).1; exact this
    rw [show flatE (x :: l) = x.cells ++ flatE l from rfl]
    cases k with
    | zero =>
      injection h with h; subst h
      rw [Nat.zero_mul, Nat.zero_add, List.getElem?_append_left (by omega)]; exact hu
    | succ k =>
      rw [List.getElem?_append_right (by omega), show (k + 1) * 8 + j - x.cells.length = k * 8 + j by omega]
      exact ih h
/-- What a round keeps. -/
def KpT (n₀ Bt : Nat) (W W' : World) : Prop := Below n₀ W W' ∧ W'.heap[Bt]? = W.heap[Bt]?
theorem KpT.trans {n₀ Bt : Nat} {A B C : World} (h : KpT n₀ Bt A B) (g : KpT n₀ Bt B C) : KpT n₀ Bt A C := ⟨h.1.trans g.1, g.2.trans h.2⟩
theorem KpT.cell {n₀ Bt : Nat} {W W' : World} (h : KpT n₀ Bt W W') {v : Value} (hc : W.cell? ⟨Bt, 0, none⟩ = some v) : W'.cell? ⟨Bt, 0, none⟩ = some v := (World.cell?_of_block (w := W) (a := ⟨Bt, 0, none⟩) h.2).trans hc
theorem KpT.alloc {n₀ Bt : Nat} {W : World} (h : n₀ ≤ W.heap.size) (hb : Bt < W.heap.size) (X : Obj) : KpT n₀ Bt W (W.alloc X) := ⟨(Below.refl n₀ W).alloc h X, Below.heap_alloc _ _ _ hb⟩
theorem kpT_b {n₀ Bt : Nat} {w : World} (hn : n₀ ≤ w.heap.size) (hb : Bt < w.heap.size) : ∀ (W : World) (l : Nat) (o o' : Obj), w.heap.size ≤ l → W.heap[l]? = some o → o.isCells = false → o.isWalk = false → KpT n₀ Bt W (W.putObj l o') := fun W l o o' h1 h2 h3 h4 =>
  ⟨belowK_b hn W l o o' h1 h2 h3 h4, by
    have := belowK_b (n₀ := Bt + 1) (w := w) (by omega) W l o o' h1 h2 h3 h4
    exact this.block Bt (by omega)⟩
/-- A readable event. -/
theorem rdE_at {w : World} {n cap b off : Nat} {l : List Ev} (h : Rd w 8 (.slice (some ⟨b, off, none⟩) n cap) n (flatE l)) {k : Nat} {e : Ev} (he : l[k]? = some e) (j : Nat) (u : Value) (hu : e.cells[j]? = some u) : w.cell? ⟨b, off + k * 8 + j, none⟩ = some u := by
  rw [Nat.add_assoc]
  obtain ⟨A, cap', q, hc, hl, h⟩ := h
  injection q with q1 q2 q3
  subst q1
  rcases h with ⟨h, _⟩ | ⟨b', off', h, hb, h2⟩
  · cases h
  · injection h with h; injection h with h1 h2'; subst h1; subst h2'
    exact h2 _ _ (flatE_at he j u hu)
set_option maxRecDepth 100000 in
set_option maxHeartbeats 4000000 in
theorem of1_in (F : Fence) (n : Nat) (h7 : F.fn 135) (hro : F.round = none) (hn : 1 ≤ n) (l Bs Bt n₀ b off len cap : Nat) (evs : List Ev) (t : Int) (hlen : evs.length = len) (hreach : len ≤ 1000000) (hb : b < n₀) (J Jx : List (Nat × Ev) → World → Prop)
    (hJd : ∀ pre W X, J pre W → J pre (W.alloc (.cells X 59 (0, 0)))) 
    (hY : ∀ pre x W, J pre W → pre.length < len → YieldAt F (n - 1) Tryz.prog l #[.int .i64 (x.1 : Int), .agg x.2.cells.toArray] W fun e W' =>
      (e = .returned (.bool true) ∧ J (pre ++ [x]) W' ∧ KpT n₀ Bt W W') ∨ (e = .returned (.bool false) ∧ Jx (pre ++ [x]) W'))
    (W : World) (hBs : W.cell? ⟨Bs, 0, none⟩ = some (.slice (some ⟨b, off, none⟩) len cap)) (hBt : W.cell? ⟨Bt, 0, none⟩ = some (.int .i64 t)) (hBt0 : Bt < W.heap.size) (hR : Rd W 8 (.slice (some ⟨b, off, none⟩) len cap) len (flatE evs)) (h0 : J [] W) (hn0 : n₀ ≤ W.heap.size) :
    CallsIn F n Tryz.prog 135 #[.func (.yield l) #[] #[], .pointer (some ⟨Bs, 0, none⟩), .pointer (some ⟨Bt, 0, none⟩)] W fun e W' => (∃ v, e = .returned v) ∧
      ((∃ ys, ys = ofI evs t len ∧ J ys W') ∨ (∃ pre, True ∧ Jx pre W')) := by
  refine callsIn_of_wp Tryz.func135 rfl h7 ?_ hro
  simp only [Tryz.ntmps135, List.size_toArray, List.length_cons, List.length_nil, Nat.reduceAdd, Nat.reduceSub, Array.replicate_succ, Array.replicate_zero, List.push_toArray, List.append_toArray, List.nil_append, List.cons_append]
  gi_wp2
  gi_loopw [8] (fun i wr => ∃ k : Nat, k ≤ len ∧ i = .int .i64 k ∧ J (ofI evs t k) wr ∧ KpT n₀ Bt W wr)
    (fun i _ => len - (intOf i).toNat)
  case atStart => exact ⟨0, Nat.zero_le _, rfl, h0, Below.refl _ _, rfl⟩
  case round =>
    obtain ⟨k, hk, rfl, hJs, hKx⟩ := hrel
    have hnx := hKx.1
    by_cases hlt : k < len
    · obtain ⟨e, he⟩ : ∃ e, evs[k]? = some e := ⟨_, List.getElem?_eq_getElem (by omega)⟩
      have c0 := (hnx.cell (p := ⟨b, off + k * 8, none⟩) hb).trans (rdE_at hR he 0 _ rfl)
      have c1 := (hnx.cell (p := ⟨b, off + k * 8 + 1, none⟩) hb).trans (rdE_at hR he 1 _ rfl)
      have c2 := (hnx.cell (p := ⟨b, off + k * 8 + 2, none⟩) hb).trans (rdE_at hR he 2 _ rfl)
      have c3 := (hnx.cell (p := ⟨b, off + k * 8 + 3, none⟩) hb).trans (rdE_at hR he 3 _ rfl)
      have c4 := (hnx.cell (p := ⟨b, off + k * 8 + 4, none⟩) hb).trans (rdE_at hR he 4 _ rfl)
      have c5 := (hnx.cell (p := ⟨b, off + k * 8 + 5, none⟩) hb).trans (rdE_at hR he 5 _ rfl)
      have c6 := (hnx.cell (p := ⟨b, off + k * 8 + 6, none⟩) hb).trans (rdE_at hR he 6 _ rfl)
      have c7 := (hnx.cell (p := ⟨b, off + k * 8 + 7, none⟩) hb).trans (rdE_at hR he 7 _ rfl)
      have hsz := hnx.size
      have hnA : KpT n₀ Bt wr (wr.alloc (.cells #[.int .i64 e.kind, .int .i64 e.who, .int .i64 e.pc, .int .i64 e.addr, .int .u32 e.val, .int .u32 e.old, .int .u32 e.k, .bool e.ok] 59)) := KpT.alloc (by omega) (by omega) _
      have ct := hnA.cell (hKx.cell hBt)
      have hJA := hJd _ _ #[.int .i64 e.kind, .int .i64 e.who, .int .i64 e.pc, .int .i64 e.addr, .int .u32 e.val, .int .u32 e.old, .int .u32 e.k, .bool e.ok] hJs
      have hs := ofI_succ evs t k e he
      have hlJ := ofI_len evs t k
      by_cases hw : e.who = t
      · rw [if_pos hw] at hs
        subst hw
        obtain ⟨fn, tmps, assign, body, hy, hR2⟩ := hY _ (k, e) _ hJA (by omega)
        dsimp only [Ev.cells] at hy
        clear hJA hJd hJs
        gi_wp2
        refine hR2.mono ?_
        rintro r W3 (⟨rfl, hJ3, hk3⟩ | ⟨rfl, hJx3⟩)
        · gi_wp2
          go_roundw
          case rel => exact ⟨k + 1, by omega, by simp, by rw [hs]; exact hJ3, (hKx.trans hnA).trans hk3⟩
          case measure => simp [intOf]; omega
        · gi_wp2
          refine bodyPost_ret (results_none rfl _ _ _) rfl ?_
          exact ⟨⟨_, rfl⟩, .inr ⟨_, trivial, hJx3⟩⟩
      · rw [if_neg hw, List.append_nil] at hs
        have hwb : (e.who == t) = false := by simpa using hw
        clear hw
        gi_wp2
        refine ⟨fun _ h => (by cases h), ?_⟩
        gi_wp2
        go_roundw
        case rel => exact ⟨k + 1, by omega, by simp, by rw [hs]; exact hJA, hKx.trans hnA⟩
        case measure => simp [intOf]; omega
    · obtain rfl : k = len := by omega
      gi_wp2
      go_end0
      exact ⟨⟨_, rfl⟩, .inl ⟨_, rfl, hJs⟩⟩
set_option maxRecDepth 100000 in
set_option maxHeartbeats 1000000 in
theorem of1_nil (F : Fence) (n : Nat) (h7 : F.fn 135) (hro : F.round = none) (l Bs Bt cap : Nat) (J : List (Nat × Ev) → World → Prop) (W : World) (hBs : W.cell? ⟨Bs, 0, none⟩ = some (.slice none 0 cap)) (h0 : J [] W) :
    CallsIn F n Tryz.prog 135 #[.func (.yield l) #[] #[], .pointer (some ⟨Bs, 0, none⟩), .pointer (some ⟨Bt, 0, none⟩)] W fun e W' => (∃ v, e = .returned v) ∧ J [] W' := by
  refine callsIn_of_wp Tryz.func135 rfl h7 ?_ hro
  simp only [Tryz.ntmps135, List.size_toArray, List.length_cons, List.length_nil, Nat.reduceAdd, Nat.reduceSub, Array.replicate_succ, Array.replicate_zero, List.push_toArray, List.append_toArray, List.nil_append, List.cons_append]
  gi_wp2
  gi_loopw [8] (fun i wr => i = .int .i64 0 ∧ J [] wr) (fun _ _ => 0)
  case atStart => exact ⟨rfl, h0⟩
  case round =>
    obtain ⟨rfl, hJs⟩ := hrel
    gi_wp2
    go_end0
    exact ⟨⟨_, rfl⟩, hJs⟩
/-- trace.Of's iterator, of whatever events. -/
theorem of_stops (F : Fence) (n : Nat) (h7 : F.fn 135) (hro : F.round = none) (hn : 1 ≤ n) (Bs Bt n₀ : Nat) (v : Value) (len : Nat) (evs : List Ev) (t : Int) (hreach : len ≤ 1000000) (w : World) (hBs : Bs < w.heap.size) (hBt : Bt < w.heap.size) (hn₀ : n₀ ≤ w.heap.size)
    (hc : w.cell? ⟨Bs, 0, none⟩ = some v) (hct : w.cell? ⟨Bt, 0, none⟩ = some (.int .i64 t)) (hR : Rd w 8 v len (flatE evs)) (hlt : ∀ b off cap, v = .slice (some ⟨b, off, none⟩) len cap → b < n₀) (hle : evs.length = len) :
    SeqStopsK F n Tryz.prog 135 #[.pointer (some ⟨Bs, 0, none⟩), .pointer (some ⟨Bt, 0, none⟩)] (fun x : Nat × Ev => #[Value.int .i64 (x.1 : Int), .agg x.2.cells.toArray]) (KpT n₀ Bt) (fun ys => ys = ofI evs t len) (fun _ => True) len w := fun l J Jx W hW hJ _ hY h0 => by
  have hc' := (hW.cell (p := ⟨Bs, 0, none⟩) hBs).trans hc
  have hct' := (hW.cell (p := ⟨Bt, 0, none⟩) hBt).trans hct
  have hR' := hR.below hW (Nat.le_refl _)
  obtain ⟨A, cap, rfl, hcap, hl, hx⟩ := hR
  rcases hx with ⟨rfl, rfl⟩ | ⟨b, off, rfl, hb, hx⟩
  · have he : evs = [] := List.eq_nil_of_length_eq_zero hle
    subst he
    exact (of1_nil F n h7 hro l Bs Bt cap J W hc' h0).mono fun e W' ⟨he, hj⟩ => ⟨he, .inl ⟨_, rfl, hj⟩⟩
  · exact of1_in F n h7 hro hn l Bs Bt n₀ b off len cap evs t hle hreach (hlt b off cap rfl) J Jx (fun pre W X h => hJ pre W _ none h (World.grownBy_alloc _ _ _) (fun _ e => by cases e)) hY W hc' hct' (Nat.lt_of_lt_of_le hBt hW.size) hR' h0 (Nat.le_trans hn₀ hW.size)
set_option maxHeartbeats 1000000 in
theorem of_in (F : Fence) (n : Nat) (h5 : F.fn 96) (hro : F.round = none) (A : Option Addr) (len cap : Nat) (t : Int) (w : World) :
    CallsIn F n Tryz.prog 96 #[.slice A len cap, .int .i64 t] w fun e w' => e = .returned (.func (.func 135) #[] #[.pointer (some ⟨w.heap.size, 0, none⟩), .pointer (some ⟨w.heap.size + 1, 0, none⟩)]) ∧ w' = (w.alloc (.cells #[.slice A len cap] 56)).alloc (.cells #[.int .i64 t] 3) := by
  refine callsIn_of_wp Tryz.func96 rfl h5 ?_ hro
  simp only [Tryz.ntmps96, List.size_toArray, List.length_cons, List.length_nil, Nat.reduceAdd, Nat.reduceSub, Array.replicate_succ, Array.replicate_zero, List.push_toArray, List.append_toArray, List.nil_append, List.cons_append]
  gi_wp2
  go_ret
  exact ⟨rfl, rfl⟩
/-- The words put out. -/
def outsN (l : List (Nat × Ev)) : List Int := (l.filter fun x => x.2.kind == 6).map fun x => x.2.val
theorem outsN_snoc (l : List (Nat × Ev)) (x : Nat × Ev) : outsN (l ++ [x]) = outsN l ++ (if x.2.kind = 6 then [x.2.val] else []) := by
  unfold outsN
  by_cases h : x.2.kind = 6 <;> simp [h]
theorem outsN_len (l : List (Nat × Ev)) : (outsN l).length ≤ l.length := by
  unfold outsN
  rw [List.length_map]
  exact List.length_filter_le _ _
/-- A loop's variable that is an event. -/
def BoxE (W : World) (B : Nat) (e : Ev) : Prop := W.heap[B]? = some (.cells e.cells.toArray 59 (0, 0))
theorem BoxE.kept {W W' : World} {row : Option Nat} {B : Nat} {e : Ev} (h : BoxE W B e) (hg : W.grownBy W' row) (hne : some B ≠ row) : BoxE W' B e := (hg.block B (Array.getElem?_eq_some_iff.1 h).1 hne).trans h
theorem boxE_own {β : Type} (B : Nat) (f : β → Ev) : Own (fun s W => BoxE W B (f s)) := fun s X Y row hs hg hrow =>
  hs.kept hg (fun e' => by obtain ⟨o, ho, hc⟩ := hrow B e'.symm; rw [show X.heap[B]? = _ from hs] at ho; cases ho; cases hc)
set_option maxRecDepth 100000 in
set_option maxHeartbeats 4000000 in
theorem outs_in (F : Fence) (n : Nat) (h3 : F.fn 52) (h4 : F.fn 96) (h5 : F.fn 135) (hro : F.round = none) (hn : 3 ≤ n) (v : Value) (len : Nat) (evs : List Ev) (t : Int) (hreach : len ≤ 1000000) (w : World) (hR : Rd w 8 v len (flatE evs)) (hle : evs.length = len) :
    CallsIn F n Tryz.prog 52 #[v, .int .i64 t] w fun e W' => ∃ v', e = .returned v' ∧ W'.ownsRow w.heap.size 41 1 v' (outsN (ofI evs t len)).length (w32 (outsN (ofI evs t len))) ∧ Below w.heap.size w W' := by
  have h1 : 1 ≤ n := by omega
  obtain ⟨i0, hi, hz0, hz1, hz2⟩ := info_parts infoW
  obtain ⟨A, cap, rfl⟩ := hR.form
  refine callsIn_of_wp_marks Tryz.func52 rfl h3 ?_ hro
  simp only [Tryz.ntmps52, List.size_toArray, List.length_cons, List.length_nil, Nat.reduceAdd, Nat.reduceSub, Array.replicate_succ, Array.replicate_zero, List.push_toArray, List.append_toArray, List.nil_append, List.cons_append]
  gi_wp2_with (gi_at_call 96; refine (of_in F (n - 1) h4 hro _ _ _ _ _).mono ?_; rintro e w' ⟨rfl, rfl⟩)
  have bO := Boxed.new w 44 (.slice none 0 0)
  have bN := Boxed.new (w.alloc (.cells #[.slice none 0 0] 44)) 56 (.slice A len cap)
  have bT := Boxed.new ((w.alloc (.cells #[.slice none 0 0] 44)).alloc (.cells #[.slice A len cap] 56)) 3 (.int .i64 t)
  rw [World.size_alloc] at bN
  rw [World.size_alloc, World.size_alloc] at bT
  have hB0 : Below w.heap.size w (((w.alloc (.cells #[.slice none 0 0] 44)).alloc (.cells #[.slice A len cap] 56)).alloc (.cells #[.int .i64 t] 3)) := (((Below.refl _ w).alloc (Nat.le_refl _) _).alloc (by simp) _).alloc (by simp; omega) _
  have hsz : (((w.alloc (.cells #[.slice none 0 0] 44)).alloc (.cells #[.slice A len cap] 56)).alloc (.cells #[.int .i64 t] 3)).heap.size = w.heap.size + 3 := by simp
  have hRW := hR.below hB0 (Nat.le_refl _)
  have bO2 := (bO.alloc (.cells #[.slice A len cap] 56)).alloc (.cells #[.int .i64 t] 3)
  have bN2 := bN.alloc (.cells #[.int .i64 t] 3)
  obtain ⟨W0, hW0⟩ : ∃ W0, ((w.alloc (.cells #[.slice none 0 0] 44)).alloc (.cells #[.slice A len cap] 56)).alloc (.cells #[.int .i64 t] 3) = W0 := ⟨_, rfl⟩
  rw [hW0] at hB0 hsz hRW bO2 bN2 bT ⊢
  clear bO bN hW0
  have hlt : ∀ b off c, Value.slice A len cap = .slice (some ⟨b, off, none⟩) len c → b < w.heap.size := by
    intro b off c e
    injection e with e1 e2 e3
    subst e1
    exact hR.lt
  refine wpIn_rangeFunc_ownH hro h1 (gf := 135) (lb := #[.pointer (some ⟨w.heap.size + 1, 0, none⟩), .pointer (some ⟨w.heap.size + 1 + 1, 0, none⟩)]) rfl h5 (enters_of Tryz.func135 (by kernel_rfl) rfl)
    (of_stops F (n - 1) h5 hro (by omega) (w.heap.size + 1) (w.heap.size + 1 + 1) w.heap.size _ len evs t hreach W0 (by omega) (by omega) (by omega) bN2.cell bT.cell hRW hlt hle) KpT.trans (kpT_b (by omega) (by omega)) (Below.refl _ _) (fun _ => rfl)
    (fun pre W => (∃ v, Boxed W w.heap.size 44 v ∧ W.ownsRow w.heap.size 41 1 v (outsN pre).length (w32 (outsN pre)) ∧ True) ∧ (Boxed W (w.heap.size + 1 + 1) 3 (.int .i64 t) ∧ Below w.heap.size W0 W))
    (fun _ _ _ => False)
    (OwnFrom.and (Own.from (holdsRow_own w.heap.size w.heap.size 44 41 1 (fun pre => (outsN pre).length) (fun pre => w32 (outsN pre)) (fun pre v => True)) _) (OwnFrom.and (Own.from (boxed_own (w.heap.size + 1 + 1) 3 (fun _ => .int .i64 t)) _) (ownFrom_below (by omega) (by omega))))
    (fun _ _ _ _ _ hs _ _ => hs)
    ⟨⟨_, bO2, World.ownsRow_nil _ _ _ _, trivial⟩, bT, Below.refl _ _⟩
    (fun x a' W => ∃ Bx, w.heap.size + 3 ≤ Bx ∧ BoxE W Bx x.2 ∧ a' = { tmps := #[.slice A len cap, .int .i64 t, undef, undef, .slice none 0 0, .pointer (some ⟨w.heap.size, 0, none⟩), undef, .pointer (some ⟨Bx, 0, none⟩), .slice A len cap, .int .i64 t, .func (.func 135) #[] #[.pointer (some ⟨w.heap.size + 1, 0, none⟩), .pointer (some ⟨w.heap.size + 1 + 1, 0, none⟩)], .int .i64 (x.1 : Int), .agg x.2.cells.toArray, undef, undef, undef, undef, undef, undef, undef, undef, undef], defers := [] })
    (fun x a' _ X Y row hs hg hr => by obtain ⟨Bx, h1, h2, h3⟩ := hs; exact ⟨Bx, h1, boxE_own Bx (fun (_ : Unit) => x.2) () X Y row h2 hg (fun r e => (hr r e).2), h3⟩)
    ?assign ?body ?done ?stop
  case assign =>
    rintro l pre ⟨xi, x⟩ W K ⟨hv, hT1, hB1⟩ hK
    dsimp only [Ev.cells] at hK ⊢
    gi_wp2
    obtain ⟨v, hv1, hv2, _⟩ := hv
    have hs1 := hB1.size
    exact hK _ _ ((KeepsOthers.alloc _ _).from _) (KpT.alloc (by omega) (by omega) _) ⟨⟨v, hv1.alloc _, hv2.alloc _, trivial⟩, hT1.alloc _, hB1.alloc (by omega) _⟩ ⟨W.heap.size, by omega, World.alloc_heap_new W _, rfl⟩
  case body =>
    rintro l pre ⟨xi, x⟩ a' W hl ⟨r, hr⟩ ⟨⟨v, hv, hrow, _⟩, hT1, hB⟩ ⟨Bx, hBx, bX, rfl⟩ hlt
    have hc := hv.cell
    have hs1 := hB.size
    have hpl := outsN_len pre
    have e0 : W.cell? ⟨Bx, 0, none⟩ = some (.int .i64 x.kind) := cell_of_row W Bx 0 _ _ _ bX
    have e4 : W.cell? ⟨Bx, 4, none⟩ = some (.int .u32 x.val) := cell_of_row W Bx 4 _ _ _ bX
    have hsn := outsN_snoc pre (xi, x)
    dsimp only at hsn
    by_cases hx : x.kind = 6
    · rw [if_pos hx] at hsn
      rw [hx] at e0
      gi_wp2_with (gi_at_builtin; refine wpListIn_append_own _ rfl _ _ 44 rfl w.heap.size 41 i0 (.int .u32 0) 1 4 Tryz.underlying44 hi hz0 hz1 hz2 rfl (by decide) _ _ _ rfl (hrow.alloc _) ⟨W.heap.size, 0, none⟩ 1 1 [.int .u32 x.val] rfl rfl (cell_one_new _ _ _) (by simp [Value.oneCell']) (by unfold maxLen; omega) (by omega) (by simp; omega) ?_; intro v' w1 hown' hgrow _; obtain ⟨g', cap', rfl⟩ := ownsRow_succ hown'; obtain ⟨hv1, hv2, hr2, hk2, hb2⟩ := hv.appended (by decide) hrow (by omega) (by omega) hown' hgrow; have hc1 := hv1.cell; have hf1 := hv1.frozen)
      have hT2 : Boxed (w1.setCell ⟨w.heap.size, 0, none⟩ (.slice (some ⟨g', 0, none⟩) ((outsN pre).length + 1) cap')) (w.heap.size + 1 + 1) 3 (.int .i64 t) := ((hT1.alloc _).kept hgrow (hT1.not_row (by decide) hrow)).other (by omega) _
      exact ⟨hk2.from _, ⟨hb2, hT2.trans hT1.symm⟩, ⟨_, hv2, by rw [hsn]; simp [w32]; simpa [w32] using hr2⟩, hT2, hB.trans hb2⟩
    · rw [if_neg hx, List.append_nil] at hsn
      have hxb : (x.kind == 6) = false := by simpa using hx
      gi_wp2
      exact ⟨KeepsFrom.refl _ _, ⟨Below.refl _ _, rfl⟩, ⟨v, hv, by rw [hsn]; exact hrow⟩, hT1, hB⟩
  case done =>
    rintro D ys W hD rfl ⟨⟨v, hv, hrow, _⟩, hT1, hB⟩ hK
    have hc := hv.cell
    gi_wp2
    refine ⟨by simp, .inl ⟨_, _, rfl, run_takeDeferred hK, ?_⟩⟩
    exact ⟨_, results_tmp rfl _ _ _, v, rfl, ownsRow_putObj hrow _ hK rfl, (hB0.trans hB).trans (belowK_b (w := w) (Nat.le_refl _) W D _ _ (by omega) hK rfl rfl)⟩
  case stop =>
    rintro D c pre W _ _ h _
    exact h.elim
theorem outs_any (v : Value) (len : Nat) (evs : List Ev) (t : Int) (hreach : len ≤ 1000000) (w : World) (hR : Rd w 8 v len (flatE evs)) (hle : evs.length = len) :
    Calls Tryz.prog 52 #[v, .int .i64 t] w fun e W' => ∃ v', e = .returned v' ∧ W'.ownsRow w.heap.size 41 1 v' (outsN (ofI evs t len)).length (w32 (outsN (ofI evs t len))) ∧ Below w.heap.size w W' :=
  (callsIn_wide (n := 3)).1 (outs_in Fence.wide 3 trivial trivial trivial rfl (Nat.le_refl _) v len evs t hreach w hR hle)
end Go.Proofs.YtackbadmcgjncaaGreatDoor.As

namespace Go.Proofs.YtackbadmcgjncaaGreatDoor.As
open Go.RowKit

theorem ofI_snd (l : List Ev) (t : Int) : ∀ k, k ≤ l.length → (ofI l t k).map Prod.snd = (l.take k).filter (fun e => e.who == t)
  | 0, _ => rfl
  | k + 1, h => by
    obtain ⟨e, he⟩ : ∃ e, l[k]? = some e := ⟨_, List.getElem?_eq_getElem h⟩
    rw [ofI_succ l t k e he, List.map_append, ofI_snd l t k (by omega), List.take_add_one, he, List.filter_append]
    congr 1
    by_cases c : e.who = t <;> simp [c]
theorem outs_eq (l : List Ev) : outsN (ofI l 0 l.length) = outsI l := by
  have h := ofI_snd l 0 l.length (Nat.le_refl _)
  rw [List.take_length] at h
  have e : outsN (ofI l 0 l.length) = (((ofI l 0 l.length).map Prod.snd).filter (fun e => e.kind == 6)).map Ev.val := by
    unfold outsN
    rw [List.filter_map, List.map_map]
    rfl
  rw [e, h, List.filter_filter]
  unfold outsI
  congr 1
  congr 1
  funext e
  exact Bool.and_comm _ _
theorem goodFrom_end {code : List Ins} {t own f : Nat} {th : Th} {s : Sc} {outs : Nat} (h : goodFrom code t own f th s outs = true) (hst : th.st ≠ 0) : th.st = 2 ∧ outsI s.evs = [0, 1, 0, 2] := by
  cases f with
  | zero => cases h
  | succ f =>
    unfold goodFrom at h
    rw [if_pos hst] at h
    simpa using h
theorem goodFrom_step {code : List Ins} {t own f : Nat} {th : Th} {s : Sc} {outs : Nat} (h : goodFrom code t own f th s outs = true) (hst : th.st = 0) :
    ∃ f' q, f = f' + 1 ∧ okT code.length th = true ∧ okS s = true ∧ stepI scP code th s = some q ∧ ((outs < (outsI q.2.evs).length ∧ (q.2.mem.getD (16 + own) 0 = (t : Int) + 1 ↔ (outsI q.2.evs).length ≤ 2) ∧ goodFrom code t own f' q.1 q.2 (outsI q.2.evs).length = true) ∨ (¬ outs < (outsI q.2.evs).length ∧ goodFrom code t own f' q.1 q.2 outs = true)) := by
  cases f with
  | zero => cases h
  | succ f =>
    unfold goodFrom at h
    rw [if_neg (fun e => e hst)] at h
    simp only [Bool.and_eq_true] at h
    obtain ⟨⟨h1, h2⟩, h3⟩ := h
    cases e : stepI scP code th s with
    | none => rw [e] at h3; cases h3
    | some q =>
      rw [e] at h3
      refine ⟨f, q, rfl, h1, h2, rfl, ?_⟩
      by_cases c : outs < (outsI q.2.evs).length
      · simp only [c, if_true, Bool.and_eq_true, decide_eq_true_eq] at h3
        exact .inl ⟨c, h3.1, h3.2⟩
      · simp only [c, if_false] at h3
        exact .inr ⟨c, h3⟩
theorem asks_mem {i : Ins} {ad : Nat} {t : Th} {s : Sc} {q : Th × Sc} (h : asks scP i ad t s = some q) : q.2.mem.length = s.mem.length := by
  unfold asks at h
  have es : ∀ (a : Nat) v (e : Ev), ((s.store a v).note e).mem.length = s.mem.length := fun a v e => by simp [Sc.store, Sc.note]
  split at h
  · obtain rfl := (Option.some.inj h).symm; rfl
  · split at h
    · obtain rfl := (Option.some.inj h).symm; exact es _ _ _
    · split at h
      · obtain rfl := (Option.some.inj h).symm; exact es _ _ _
      · split at h
        · obtain rfl := (Option.some.inj h).symm; exact es _ _ _
        · split at h
          · dsimp only at h
            split at h
            · obtain rfl := (Option.some.inj h).symm; exact es _ _ _
            · obtain rfl := (Option.some.inj h).symm; rfl
          · cases h
theorem plain_mem {i : Ins} {t : Th} {s : Sc} {q : Th × Sc} (h : plainI scP i t s = some q) : q.2.mem.length = s.mem.length := by
  unfold plainI at h
  repeat' split at h
  all_goals first
    | (obtain rfl := (Option.some.inj h).symm; rfl)
    | (obtain ⟨v, _, hv⟩ := Option.map_eq_some_iff.1 h; obtain rfl := hv.symm; rfl)
theorem step_mem {L : List Ins} {th : Th} {s : Sc} {q : Th × Sc} (h0 : th.st = 0) (hp : 0 ≤ th.pc) (h : stepI scP L th s = some q) : q.2.mem.length = s.mem.length := by
  by_cases hend : (L.length : Int) ≤ th.pc
  · rw [stepI_end h0 hend] at h
    obtain rfl := (Option.some.inj h).symm
    rfl
  · obtain ⟨i, hi⟩ : ∃ i, L[th.pc.toNat]? = some i := ⟨_, List.getElem?_eq_getElem (by omega)⟩
    rw [stepI_at h0 hp hi] at h
    split at h
    · split at h
      · cases h
      · obtain ⟨v, hv, e⟩ := Option.map_eq_some_iff.1 h
        obtain rfl := e.symm
        have := asks_mem hv
        exact this
    · split at h
      · obtain rfl := (Option.some.inj h).symm; rfl
      · split at h
        · obtain rfl := (Option.some.inj h).symm; rfl
        · obtain ⟨v, hv, e⟩ := Option.map_eq_some_iff.1 h
          obtain rfl := e.symm
          have := plain_mem hv
          exact this
theorem asks_len {i : Ins} {ad : Nat} {t : Th} {s : Sc} {q : Th × Sc} (h : asks scP i ad t s = some q) : q.1.regs.length = t.regs.length := by
  unfold asks at h
  split at h
  · obtain rfl := (Option.some.inj h).symm; exact put_len _ _ _
  · split at h
    · obtain rfl := (Option.some.inj h).symm; rfl
    · split at h
      · obtain rfl := (Option.some.inj h).symm; exact put_len _ _ _
      · split at h
        · obtain rfl := (Option.some.inj h).symm; exact put_len _ _ _
        · split at h
          · dsimp only at h
            split at h
            · obtain rfl := (Option.some.inj h).symm; exact put_len _ _ _
            · obtain rfl := (Option.some.inj h).symm; exact put_len _ _ _
          · cases h
theorem plain_len {i : Ins} {t : Th} {s : Sc} {q : Th × Sc} (h : plainI scP i t s = some q) : q.1.regs.length = t.regs.length := by
  unfold plainI at h
  repeat' split at h
  all_goals first
    | (obtain rfl := (Option.some.inj h).symm; exact put_len _ _ _)
    | (obtain rfl := (Option.some.inj h).symm; rfl)
    | (obtain ⟨v, _, hv⟩ := Option.map_eq_some_iff.1 h; obtain rfl := hv.symm; exact put_len _ _ _)
theorem step_len {L : List Ins} {th : Th} {s : Sc} {q : Th × Sc} (h0 : th.st = 0) (hp : 0 ≤ th.pc) (h : stepI scP L th s = some q) : q.1.regs.length = th.regs.length := by
  by_cases hend : (L.length : Int) ≤ th.pc
  · rw [stepI_end h0 hend] at h
    obtain rfl := (Option.some.inj h).symm
    rfl
  · obtain ⟨i, hi⟩ : ∃ i, L[th.pc.toNat]? = some i := ⟨_, List.getElem?_eq_getElem (by omega)⟩
    rw [stepI_at h0 hp hi] at h
    split at h
    · split at h
      · cases h
      · obtain ⟨v, hv, e⟩ := Option.map_eq_some_iff.1 h
        obtain rfl := e.symm
        have := asks_len hv
        exact this
    · split at h
      · obtain rfl := (Option.some.inj h).symm; rfl
      · split at h
        · obtain rfl := (Option.some.inj h).symm; dsimp only; split <;> rfl
        · obtain ⟨v, hv, e⟩ := Option.map_eq_some_iff.1 h
          obtain rfl := e.symm
          have := plain_len hv
          exact this
theorem asks_evs {i : Ins} {ad : Nat} {t : Th} {s : Sc} {q : Th × Sc} (h : asks scP i ad t s = some q) : q.2.evs.length ≤ s.evs.length + 1 := by
  unfold asks at h
  have e1 : ∀ (a : Nat) v (e : Ev), ((s.store a v).note e).evs.length ≤ s.evs.length + 1 := fun a v e => by simp [Sc.store, Sc.note]
  have e2 : ∀ (e : Ev), (s.note e).evs.length ≤ s.evs.length + 1 := fun e => by simp [Sc.note]
  split at h
  · obtain rfl := (Option.some.inj h).symm; exact e2 _
  · split at h
    · obtain rfl := (Option.some.inj h).symm; exact e1 _ _ _
    · split at h
      · obtain rfl := (Option.some.inj h).symm; exact e1 _ _ _
      · split at h
        · obtain rfl := (Option.some.inj h).symm; exact e1 _ _ _
        · split at h
          · dsimp only at h
            split at h
            · obtain rfl := (Option.some.inj h).symm; exact e1 _ _ _
            · obtain rfl := (Option.some.inj h).symm; exact e2 _
          · cases h
theorem plain_evs {i : Ins} {t : Th} {s : Sc} {q : Th × Sc} (h : plainI scP i t s = some q) : q.2.evs.length ≤ s.evs.length + 1 := by
  have e2 : ∀ (e : Ev), (s.note e).evs.length ≤ s.evs.length + 1 := fun e => by simp [Sc.note]
  unfold plainI at h
  repeat' split at h
  all_goals first
    | (obtain rfl := (Option.some.inj h).symm; exact e2 _)
    | (obtain rfl := (Option.some.inj h).symm; exact Nat.le_succ _)
    | (obtain ⟨v, _, hv⟩ := Option.map_eq_some_iff.1 h; obtain rfl := hv.symm; exact Nat.le_succ _)
theorem step_evs {L : List Ins} {th : Th} {s : Sc} {q : Th × Sc} (h0 : th.st = 0) (hp : 0 ≤ th.pc) (h : stepI scP L th s = some q) : q.2.evs.length ≤ s.evs.length + 1 := by
  have e2 : ∀ (e : Ev), (s.note e).evs.length ≤ s.evs.length + 1 := fun e => by simp [Sc.note]
  by_cases hend : (L.length : Int) ≤ th.pc
  · rw [stepI_end h0 hend] at h
    obtain rfl := (Option.some.inj h).symm
    exact e2 _
  · obtain ⟨i, hi⟩ : ∃ i, L[th.pc.toNat]? = some i := ⟨_, List.getElem?_eq_getElem (by omega)⟩
    rw [stepI_at h0 hp hi] at h
    split at h
    · split at h
      · cases h
      · obtain ⟨v, hv, e⟩ := Option.map_eq_some_iff.1 h
        obtain rfl := e.symm
        have := asks_evs hv
        exact this
    · split at h
      · obtain rfl := (Option.some.inj h).symm; exact e2 _
      · split at h
        · obtain rfl := (Option.some.inj h).symm; exact Nat.le_succ _
        · obtain ⟨v, hv, e⟩ := Option.map_eq_some_iff.1 h
          obtain rfl := e.symm
          have := plain_evs hv
          exact this
theorem InS.only {w w' : World} {F : Nat → Prop} {g n cap : Nat} {l : List Ins} (h : InS w (.slice (some ⟨g, 0, none⟩) n cap) n l) (ho : Only F w w') (hg : ¬ F g) (hn : 0 < n) : InS w' (.slice (some ⟨g, 0, none⟩) n cap) n l := by
  obtain ⟨h1, A, c, e, h2⟩ := h
  injection e with e1 e2 e3
  subst e1
  refine ⟨h1, _, _, rfl, fun hn => ?_⟩
  obtain ⟨b, off, hb, hlt, hc⟩ := h2 hn
  injection hb with hb
  injection hb with hb1 hb2
  subst hb1; subst hb2
  exact ⟨g, 0, rfl, Nat.lt_of_lt_of_le hlt ho.size, fun j u hu => (World.cell?_of_block (w := w) (a := ⟨g, 0 + j, none⟩) (ho.block g hlt hg)).trans (hc j u hu)⟩
set_option maxHeartbeats 1000000 in
/-- A pick of the thread, whatever its next instruction. -/
theorem pick_any (Z : Nat → Prop) (w : World) (mb mm mc b0 tb tcap cb ccap g cap : Nat) (kv : Value) (s : Sc) (th : Th) (q : Th × Sc) (L : List Ins)
    (hM : ScM Z w mb mm mc b0 (.slice (some ⟨cb, 0, none⟩) 1 ccap) (.slice (some ⟨tb, 0, none⟩) 1 tcap) kv s) (hT : ThB w tb th) (hZt : Z tb) (hZc : Z cb) (hZg : Z g) (hZI : ∀ k, ¬ Z k → NoI k) (T : TabI w) (hcb : w.cell? ⟨cb, 0, none⟩ = some (.slice (some ⟨g, 0, none⟩) L.length cap)) (hL : InS w (.slice (some ⟨g, 0, none⟩) L.length cap) L.length L) (hl0 : 0 < L.length) (hlen : L.length ≤ 4000)
    (hok : ∀ x ∈ L, okI L.length x = true) (ht : okT L.length th = true) (hs : okS s = true) (hml : s.mem.length ≤ 2000) (h0 : th.st = 0) (hstep : stepI scP L th s = some q) (hq8 : q.1.regs.length = 8) :
    Calls Tryz.prog 51 #[.pointer (some ⟨mb, 0, none⟩), .agg #[.int .i64 0, .int .i64 0]] w (PickPost Z w mb mm mc b0 tb (.slice (some ⟨cb, 0, none⟩) 1 ccap) (.slice (some ⟨tb, 0, none⟩) 1 tcap) kv q.1 q.2) := by
  have hwho : s.who = 0 := by simp only [okS, Bool.and_eq_true, decide_eq_true_eq] at hs; exact hs.2
  obtain ⟨q1, q2⟩ := q
  have h8 := hT.1
  obtain ⟨pc, regs, st⟩ := th
  dsimp only at h0 h8
  subst h0
  obtain ⟨r0, r1, r2, r3, r4, r5, r6, r7, rfl⟩ := list8 h8
  obtain ⟨pc2, regs2, st2⟩ := q1
  dsimp only at hq8
  obtain ⟨q0, q1', q2', q3, q4, q5, q6, q7, rfl⟩ := list8 hq8
  exact pick_walk Z w mb mm mc b0 tb tcap cb ccap g L.length cap kv s q2 pc pc2 st2 r0 r1 r2 r3 r4 r5 r6 r7 q0 q1' q2' q3 q4 q5 q6 q7 hM hwho hT hZt hZc hcb
    (fun Z' W hz ho hMW => step_any hMW (T.only ho hZI) (hL.only ho (fun e => e hZg) hl0) hlen hok ht hs hml rfl hstep)
end Go.Proofs.YtackbadmcgjncaaGreatDoor.As

namespace Go.Proofs.YtackbadmcgjncaaGreatDoor.As
open Go.RowKit

def CodeIs (w : World) (c : List Ins) (e : Ending) (w' : World) : Prop := (∃ v, e = .returned (.tuple #[v, .bool true]) ∧ w'.ownsRow w.heap.size 63 5 v c.length (flat c)) ∧ Below w.heap.size w w'
/-- The code of the first j calls. -/
def codeJ (a b : List Ins) (j : Nat) : List Ins := if j = 0 then [] else if j = 1 then joinI [] a else if j = 2 then joinI (joinI [] a) a else if j = 3 then joinI (joinI (joinI [] a) a) b else aloneCode a b
theorem codeJ_succ (a b : List Ins) (j : Nat) (h : j < 4) : codeJ a b (j + 1) = joinI (codeJ a b j) (if j < 2 then a else b) := by
  have h4 : j = 0 ∨ j = 1 ∨ j = 2 ∨ j = 3 := by omega
  rcases h4 with rfl | rfl | rfl | rfl <;> rfl
theorem moved_len (l : List Ins) (n : Nat) : (movedI l n).length = l.length := by simp [movedI]
theorem joinI_len (l c : List Ins) : (joinI l c).length = l.length + c.length + 1 := by simp [joinI, moved_len]; omega
theorem at_new {W : World} {g : Nat} {o : Obj} (h : g = W.heap.size) : (W.alloc o).heap[g]? = some o := by subst h; exact heap_alloc_new _ _
theorem below_at {A B : World} (h : Below A.heap.size A B) (g : Nat) (o : Obj) (hg : A.heap[g]? = some o) : B.heap[g]? = some o := (h.block g (Array.getElem?_eq_some_iff.1 hg).1).trans hg
theorem grown_at {A B : World} {row : Option Nat} (h : A.grownBy B row) {M n c : Nat} (hr : row = (Value.slice (some ⟨M, 0, none⟩) n c).ownBlock) (g : Nat) (o : Obj) (hne : M ≠ g) (hg : A.heap[g]? = some o) : B.heap[g]? = some o := (h.block g (Array.getElem?_eq_some_iff.1 hg).1 (by subst hr; simp [Value.ownBlock]; exact fun e => hne e.symm)).trans hg
theorem cutP {P : Prop} {Q : Prop} (h : P) (k : P → Q) : Q := k h
theorem up_alloc {A B : World} (h : Below A.heap.size A B) (X : Obj) : Below A.heap.size A (B.alloc X) := h.alloc h.size X
theorem up_grown {A B C : World} {row : Option Nat} (h : Below A.heap.size A B) (hg : B.grownBy C row) {g n c : Nat} (hr : row = (Value.slice (some ⟨g, 0, none⟩) n c).ownBlock) (hb : A.heap.size ≤ g) : Below A.heap.size A C := h.grown hg h.size (fun k e => by subst hr; exact (show g = k by simpa [Value.ownBlock] using e) ▸ hb)
theorem at_alloc {W : World} {g : Nat} {o X : Obj} (h : W.heap[g]? = some o) : (W.alloc X).heap[g]? = some o := (Below.heap_alloc _ _ _ (Array.getElem?_eq_some_iff.1 h).1).trans h
theorem at_drew {W : World} {g : Nat} {o : Obj} (h : W.heap[g]? = some o) : W.drew.heap[g]? = some o := h
theorem own_made {W : World} {base g n : Nat} {e : TypeId} {arr : Array Value} (hb : base ≤ g) (h : W.heap[g]? = some (.cells arr e (0, 0))) (hn : arr.size = n) (hm : n ≤ maxLen) : W.ownsRow base e 1 (.slice (some ⟨g, 0, none⟩) n n) n arr.toList :=
  ⟨by rw [Array.length_toList, hn, Nat.mul_one], .inr ⟨g, n, arr, rfl, hb, h, Nat.le_refl _, hm, by omega, by rw [Nat.mul_one]; exact List.take_of_length_le (by rw [Array.length_toList]; omega)⟩⟩
theorem flat_joinI (l c : List Ins) : flat (joinI l c) = flat l ++ flat (movedI c l.length) ++ [.int .i64 22, .int .i64 7, .int .i64 0, .int .i64 0, .int .u32 0] := by
  simp [joinI, flat, outIns, Ins.cells]
theorem good_parts {a b : List Ins} {mem : List Int} {t own : Nat} (h : aloneGood a b mem t own = true) : (∀ x ∈ aloneCode a b, okI (aloneCode a b).length x = true) ∧ (aloneCode a b).length ≤ 4000 ∧ 16 + own < 16 + mem.length ∧ mem.length ≤ 1000 ∧ goodFrom (aloneCode a b) t own 1001 th0 (sc0 mem) 0 = true := by
  simp only [aloneGood, Bool.and_eq_true, decide_eq_true_eq] at h
  exact ⟨fun x hx => List.all_eq_true.1 h.1.1.1.1 x hx, h.1.1.1.2, h.1.1.2, h.1.2, h.2⟩
theorem ScM.below {Z : Nat → Prop} {w w' : World} {mb mm mc b0 : Nat} {cv tv kv : Value} {s : Sc} (h : ScM Z w mb mm mc b0 cv tv kv s) (hb : Below w.heap.size w w') : ScM Z w' mb mm mc b0 cv tv kv s := h.keep (Only.of_below (F := fun _ => False) hb (Nat.le_refl _)) (fun _ e => e.elim)
theorem cells_4 {W : World} {base g c : Nat} {e : TypeId} {a b x y : Int} (h : W.ownsRow base e 1 (.slice (some ⟨g, 0, none⟩) [a, b, x, y].length c) [a, b, x, y].length (w32 [a, b, x, y])) : W.cell? ⟨g, 0, none⟩ = some (.int .u32 a) ∧ W.cell? ⟨g, 1, none⟩ = some (.int .u32 b) ∧ W.cell? ⟨g, 2, none⟩ = some (.int .u32 x) ∧ W.cell? ⟨g, 3, none⟩ = some (.int .u32 y) := by
  have k := fun j u hu => h.cells (g := g) rfl j u hu
  simp only [add_at, Nat.zero_add] at k
  exact ⟨k 0 _ rfl, k 1 _ rfl, k 2 _ rfl, k 3 _ rfl⟩
theorem okT_parts {n : Nat} {t : Th} (h : okT n t = true) : 0 ≤ t.pc ∧ t.pc ≤ n := by
  simp only [okT, Bool.and_eq_true, decide_eq_true_eq] at h
  exact ⟨h.1.1.1, h.1.1.2⟩
theorem okI_right {n : Nat} {i : Ins} (h : okI n i = true) : rightI i n = true := by
  simp only [okI, Bool.and_eq_true] at h
  exact h.1.1
theorem ScM.base {Z : Nat → Prop} {w : World} {mb mm mc b0 b1 : Nat} {cv tv kv : Value} {s : Sc} (h : ScM Z w mb mm mc b0 cv tv kv s) (hb : b1 ≤ b0) : ScM Z w mb mm mc b1 cv tv kv s := by
  obtain ⟨h1, h2, h3, h4, h5, h6, ev, arr, hb', hm, hc, hs, ho2, e1, e2, e3⟩ := h
  exact ⟨h1, h2, h3, h4, Nat.le_trans hb h5, h6, ev, arr, hb', hm, hc, hs, own_mono ho2 hb, e1, e2, e3⟩
set_option maxHeartbeats 4000000 in
theorem alone_any (w : World) (TI : TabI w) (k n a b th : Int) (t : Nat) (ht : t ≤ 7) (N : Nat) (caps : Array Value) (ca cb : List Ins) (mem : List Int) (own : Nat)
    (hA : ∀ W, Below w.heap.size w W → Calls Tryz.prog N (#[.int .i64 1, .int .i64 (t : Int)] ++ caps) W (CodeIs W ca))
    (hB : ∀ W, Below w.heap.size w W → Calls Tryz.prog N (#[.int .i64 2, .int .i64 (t : Int)] ++ caps) W (CodeIs W cb))
    (hF : ∀ W, Below w.heap.size w W → Calls Tryz.prog 31 #[.agg #[.int .i64 k, .int .i64 n, .int .i64 a, .int .i64 b], .int .i64 th] W (FirstOk W mem))
    (eN : ∀ args w, (callFunc N args).run Tryz.prog w = .ok (.enter N args) w) (hO : ownerI k = own) (hG : aloneGood ca cb mem t own = true) (hla : ca.length ≤ 100) (hlb : cb.length ≤ 100) (hla0 : 0 < ca.length) (hlb0 : 0 < cb.length) (hka : ∀ x ∈ ca, 0 ≤ x.k ∧ x.k ≤ 4294967295) (hkb : ∀ x ∈ cb, 0 ≤ x.k ∧ x.k ≤ 4294967295) :
    Calls Tryz.prog 21 #[.agg #[.int .i64 k, .int .i64 n, .int .i64 a, .int .i64 b], .int .i64 th, .int .i64 (t : Int), .func (.func N) #[] caps] w fun e w' => e = .returned (.bool true) ∧ Below w.heap.size w w' := by
  have HO0 : Below w.heap.size w (w.alloc (.cells #[.int .i64 k, .int .i64 n, .int .i64 a, .int .i64 b] 26)) := (Below.refl _ w).alloc (Nat.le_refl _) _
  have hA0 := hA _ HO0
  have HG := Lib.hid hG
  have HF := Lib.hid hF
  have HTI := Lib.hid TI
  go_enter Tryz.func21, Tryz.ntmps21
  go_wp2_with fail
  with_reducible refine hA0.mono ?_
  rintro r w1 ⟨⟨va, rfl, hva⟩, hb1⟩
  have HB1 := HO0.trans (hb1.mono (by simp))
  have hB0 := hB _ HB1
  go_wp2_with fail
  with_reducible refine hB0.mono ?_
  rintro r w2 ⟨⟨vb, rfl, hvb⟩, hb2⟩
  have HB2 := HB1.trans (hb2.mono HB1.size)
  have HVA : Hid (w2.ownsRow w.heap.size 63 5 va ca.length (flat ca)) := own_mono (own_only hva (Only.of_below (F := fun _ => False) hb2 (Nat.le_refl _)) (fun _ _ e => e)) (by simp)
  have HVB : Hid (w2.ownsRow w.heap.size 63 5 vb cb.length (flat cb)) := own_mono hvb HB1.size
  obtain ⟨ga, pa, rfl⟩ := own_form HVA.out hla0
  obtain ⟨gb, pb, rfl⟩ := own_form HVB.out hlb0
  obtain ⟨i0, hi, hz0, hz1, hz2⟩ := info_parts infoI
  have HBB := Lib.hid HB2
  have HLEN : ∀ j, j ≤ 4 → (codeJ ca cb j).length ≤ j * 101 := by
    intro j
    induction j with
    | zero => intro _; exact Nat.le_refl _
    | succ j ih =>
      intro hj
      have := ih (by omega)
      rw [codeJ_succ ca cb j (by omega), joinI_len]
      split <;> omega
  have HXB : Hid (w.heap.size < w2.heap.size ∧ w2.heap[w.heap.size]? = some (.cells #[.int .i64 k, .int .i64 n, .int .i64 a, .int .i64 b] 26 (0, 0))) := by
    have e1 := (hb1.block w.heap.size (by simp)).trans (heap_alloc_new w _)
    have e2 := (hb2.block w.heap.size (Array.getElem?_eq_some_iff.1 e1).1).trans e1
    exact ⟨(Array.getElem?_eq_some_iff.1 e2).1, e2⟩
  clear hva hvb hb1 hb2 HB1 HB2 hA hB hA0 hB0
  go_wp2_with fail
  go_loopw [14, 13] (fun iv lv wr => ∃ j : Nat, j ≤ 4 ∧ iv = .int .i64 j ∧ Hid (wr.ownsRow w2.heap.size 63 5 lv (codeJ ca cb j).length (flat (codeJ ca cb j)) ∧ Below w2.heap.size w2 wr)) (fun i _ _ => 4 - (intOf i).toNat)
  case atStart => exact ⟨0, by decide, rfl, ⟨World.ownsRow_nil _ _ _ _, Below.refl _ _⟩⟩
  case round =>
    obtain ⟨j, hj, rfl, HJ⟩ := hrel
    by_cases h4 : j < 4
    · have hj4 : (j : Int) < 4 := by omega
      have hlen := HLEN j hj
      obtain ⟨A, lc, hlv⟩ := (Rd.of_own HJ.out.1).form
      subst hlv
      have hs := codeJ_succ ca cb j h4
      by_cases h2 : j < 2
      · rw [if_pos h2] at hs
        have hj2 : ¬ (2 : Int) ≤ (j : Int) := by omega
        have HC : Hid (wr.ownsRow w.heap.size 63 5 (.slice (some ⟨ga, 0, none⟩) ca.length pa) ca.length (flat ca)) := own_only HVA.out (Only.of_below (F := fun _ => False) HJ.out.2 (Nat.le_refl _)) (fun _ _ e => e)
        have hmv := moved_any wr (HTI.out.below (HBB.out.trans (HJ.out.2.mono HBB.out.size)) (Nat.le_refl _)) (codeJ ca cb j).length (by omega) _ _ _ (insof (Rd.of_own HC.out) rfl) (by omega) hka
        have hz := HJ.out.2.size
        go_wp2_with (first
          | (go_at_call 33; with_reducible refine hmv.mono ?_; rintro r w3 ⟨u3, rfl, ho3, hb3⟩; obtain ⟨g3, p3, rfl⟩ := own_form ho3 (by omega); have H3 := Lib.hid ho3; have B3 := Lib.hid hb3; have hz3 := hb3.size; have HL3 := Lib.hid (own_only HJ.out.1 (Only.of_below (F := fun _ => False) hb3 (Nat.le_refl _)) (fun _ _ e => e)); clear ho3 hb3)
          | (at_builtin; refine wpList_append_own _ rfl (.tmp 43) (.tmp 47) 38 rfl w2.heap.size 63 i0 _ 5 40 Tryz.underlying38 hi hz0 hz1 hz2 rfl (by decide) _ (codeJ ca cb j).length (flat (codeJ ca cb j)) rfl HL3.out ⟨g3, 0, none⟩ ca.length p3 (flat (movedI ca (codeJ ca cb j).length)) rfl (by rw [flat_len, moved_len]) (fun q u hu => H3.out.cells (g := g3) rfl q u hu) (one_flat _) (by unfold maxLen; omega) (by omega) (by omega) ?_; intro v4 w4 ho4 hgr4 hat4; obtain ⟨g4, p4, rfl⟩ := own_form ho4 (by omega); have HL4 := Lib.hid ho4; have hgr4' : w3.grownBy w4 (Value.slice A (codeJ ca cb j).length lc).ownBlock := hgr4; have HG4 := Lib.hid hgr4'; have hz4 := hgr4'.size; clear ho4 hgr4 hgr4' hat4)
          | (at_builtin; refine wpList_append_own _ rfl (.tmp 49) (.tmp 51) 38 rfl w2.heap.size 63 i0 _ 5 40 Tryz.underlying38 hi hz0 hz1 hz2 rfl (by decide) _ _ _ rfl (HL4.out.alloc _) ⟨w4.heap.size, 0, none⟩ 1 1 [.int .i64 22, .int .i64 7, .int .i64 0, .int .i64 0, .int .u32 0] rfl rfl (World.news_of_block (heap_alloc_new _ _)) (by simp [Value.oneCell']) (by unfold maxLen; omega) (by omega) (by simp; omega) ?_; intro v5 w5 ho5 hgr5 hat5; obtain ⟨g5, p5, rfl⟩ := own_form ho5 (by omega); have HL5 := Lib.hid ho5; have hgr5' : (w4.alloc (.cells #[.int .i64 22, .int .i64 7, .int .i64 0, .int .i64 0, .int .u32 0] 63)).grownBy w5 (Value.slice (some ⟨g4, 0, none⟩) ((codeJ ca cb j).length + ca.length) p4).ownBlock := hgr5; have HG5 := Lib.hid hgr5'; clear ho5 hgr5 hgr5' hat5))
        refine ⟨⟨j + 1, by omega, by simp, ⟨?_, ?_⟩⟩, by simp [intOf]; omega⟩
        · rw [hs, joinI_len, flat_joinI]; exact HL5.out
        · exact (((HJ.out.2.trans (B3.out.mono hz)).grown HG4.out (by omega) (fun k e => (HL3.out.lt k e).1)).alloc (by omega) _).grown HG5.out (by simp; omega) (fun k e => (HL4.out.lt k e).1)
      · rw [if_neg h2] at hs
        have hj2 : (2 : Int) ≤ (j : Int) := by omega
        have HC : Hid (wr.ownsRow w.heap.size 63 5 (.slice (some ⟨gb, 0, none⟩) cb.length pb) cb.length (flat cb)) := own_only HVB.out (Only.of_below (F := fun _ => False) HJ.out.2 (Nat.le_refl _)) (fun _ _ e => e)
        have hmv := moved_any wr (HTI.out.below (HBB.out.trans (HJ.out.2.mono HBB.out.size)) (Nat.le_refl _)) (codeJ ca cb j).length (by omega) _ _ _ (insof (Rd.of_own HC.out) rfl) (by omega) hkb
        have hz := HJ.out.2.size
        go_wp2_with (first
          | (go_at_call 33; with_reducible refine hmv.mono ?_; rintro r w3 ⟨u3, rfl, ho3, hb3⟩; obtain ⟨g3, p3, rfl⟩ := own_form ho3 (by omega); have H3 := Lib.hid ho3; have B3 := Lib.hid hb3; have hz3 := hb3.size; have HL3 := Lib.hid (own_only HJ.out.1 (Only.of_below (F := fun _ => False) hb3 (Nat.le_refl _)) (fun _ _ e => e)); clear ho3 hb3)
          | (at_builtin; refine wpList_append_own _ rfl (.tmp 43) (.tmp 47) 38 rfl w2.heap.size 63 i0 _ 5 40 Tryz.underlying38 hi hz0 hz1 hz2 rfl (by decide) _ (codeJ ca cb j).length (flat (codeJ ca cb j)) rfl HL3.out ⟨g3, 0, none⟩ cb.length p3 (flat (movedI cb (codeJ ca cb j).length)) rfl (by rw [flat_len, moved_len]) (fun q u hu => H3.out.cells (g := g3) rfl q u hu) (one_flat _) (by unfold maxLen; omega) (by omega) (by omega) ?_; intro v4 w4 ho4 hgr4 hat4; obtain ⟨g4, p4, rfl⟩ := own_form ho4 (by omega); have HL4 := Lib.hid ho4; have hgr4' : w3.grownBy w4 (Value.slice A (codeJ ca cb j).length lc).ownBlock := hgr4; have HG4 := Lib.hid hgr4'; have hz4 := hgr4'.size; clear ho4 hgr4 hgr4' hat4)
          | (at_builtin; refine wpList_append_own _ rfl (.tmp 49) (.tmp 51) 38 rfl w2.heap.size 63 i0 _ 5 40 Tryz.underlying38 hi hz0 hz1 hz2 rfl (by decide) _ _ _ rfl (HL4.out.alloc _) ⟨w4.heap.size, 0, none⟩ 1 1 [.int .i64 22, .int .i64 7, .int .i64 0, .int .i64 0, .int .u32 0] rfl rfl (World.news_of_block (heap_alloc_new _ _)) (by simp [Value.oneCell']) (by unfold maxLen; omega) (by omega) (by simp; omega) ?_; intro v5 w5 ho5 hgr5 hat5; obtain ⟨g5, p5, rfl⟩ := own_form ho5 (by omega); have HL5 := Lib.hid ho5; have hgr5' : (w4.alloc (.cells #[.int .i64 22, .int .i64 7, .int .i64 0, .int .i64 0, .int .u32 0] 63)).grownBy w5 (Value.slice (some ⟨g4, 0, none⟩) ((codeJ ca cb j).length + cb.length) p4).ownBlock := hgr5; have HG5 := Lib.hid hgr5'; clear ho5 hgr5 hgr5' hat5))
        refine ⟨⟨j + 1, by omega, by simp, ⟨?_, ?_⟩⟩, by simp [intOf]; omega⟩
        · rw [hs, joinI_len, flat_joinI]; exact HL5.out
        · exact (((HJ.out.2.trans (B3.out.mono hz)).grown HG4.out (by omega) (fun k e => (HL3.out.lt k e).1)).alloc (by omega) _).grown HG5.out (by simp; omega) (fun k e => (HL4.out.lt k e).1)
    · have hj4 : ¬ (j : Int) < 4 := by omega
      obtain rfl : j = 4 := by omega
      obtain ⟨wl, hwl⟩ : ∃ x, x = wr := ⟨_, rfl⟩
      subst hwl
      have HC4 : Hid (wl.ownsRow w2.heap.size 63 5 u13 (aloneCode ca cb).length (flat (aloneCode ca cb))) := HJ.out.1
      have hcl0 : 0 < (aloneCode ca cb).length := by unfold aloneCode; rw [joinI_len]; omega
      obtain ⟨gl, pl, rfl⟩ := own_form HC4.out hcl0
      have HWR := Lib.hid (HBB.out.trans (HJ.out.2.mono HBB.out.size))
      have HXO : Hid (w.heap.size < wl.heap.size ∧ wl.heap[w.heap.size]? = some (.cells #[.int .i64 k, .int .i64 n, .int .i64 a, .int .i64 b] 26 (0, 0))) := by
        have e2 := (HJ.out.2.block w.heap.size HXB.out.1).trans HXB.out.2
        exact ⟨(Array.getElem?_eq_some_iff.1 e2).1, e2⟩
      clear hj HLEN hj4
      go_wp2_with fail
      go_cut [16, 17] from 53 (fun mv ev wx => ∃ mb mm mc tb tcap cb2 ccap2 g2 cap2, mv = .pointer (some ⟨mb, 0, none⟩) ∧ ev = .int .i64 0 ∧ Hid (ScM (fun k => k < wl.heap.size ∨ k = tb ∨ k = cb2 ∨ k = g2) wx mb mm mc wl.heap.size (.slice (some ⟨cb2, 0, none⟩) 1 ccap2) (.slice (some ⟨tb, 0, none⟩) 1 tcap) (.slice none 0 0) (sc0 mem) ∧ ThB wx tb th0 ∧ wx.cell? ⟨cb2, 0, none⟩ = some (.slice (some ⟨g2, 0, none⟩) (aloneCode ca cb).length cap2) ∧ InS wx (.slice (some ⟨g2, 0, none⟩) (aloneCode ca cb).length cap2) (aloneCode ca cb).length (aloneCode ca cb) ∧ Below wl.heap.size wl wx ∧ (sc0 mem).mem.length ≤ mc ∧ wl.heap.size ≤ tb ∧ cb2 ≠ tb ∧ g2 ≠ tb))
      case first =>
        obtain ⟨hG1, hGl, hGo, hml1, hGf⟩ := good_parts HG.out
        have hml0 : 0 < mem.length := by omega
        obtain ⟨i1, hi', hy0, hy1, hy2⟩ := info_parts infoW
        have hmk : ∀ W, (Instr.makeSlice 44 (.int .i64 16) (.int .i64 16)).run Tryz.prog W = .ok (.slice (some ⟨W.heap.size, 0, none⟩) 16 16) (W.alloc (.cells #[.int .u32 0, .int .u32 0, .int .u32 0, .int .u32 0, .int .u32 0, .int .u32 0, .int .u32 0, .int .u32 0, .int .u32 0, .int .u32 0, .int .u32 0, .int .u32 0, .int .u32 0, .int .u32 0, .int .u32 0, .int .u32 0] 41)) := fun _ => by kernel_rfl
        have U0 : Below wl.heap.size wl wl.drew := bl_drew (Below.refl _ _)
        have hFF : ∀ W, Below wl.heap.size wl W → Calls Tryz.prog 31 #[.agg #[.int .i64 k, .int .i64 n, .int .i64 a, .int .i64 b], .int .i64 th] W (fun e w' => FirstOk W mem e w' ∧ Below wl.heap.size wl w') := fun W h => (HF.out W (HWR.out.trans (h.mono HWR.out.size))).mono (fun e w' q => ⟨q, by obtain ⟨v, _, _, hb⟩ := q; exact h.trans (hb.mono h.size)⟩)
        have hNEW : ∀ (W : World) (B cc : Nat) (mv : Value), Below wl.heap.size wl W → W.heap[B]? = some (.cells #[.slice (some ⟨gl, 0, none⟩) (aloneCode ca cb).length pl] 38 (0, 0)) → W.ownsRow wl.heap.size 41 1 mv (16 + mem.length) (w32 (sc0 mem).mem) → Calls Tryz.prog 49 #[.agg #[.slice (some ⟨B, 0, none⟩) 1 cc, mv, .int .i64 1]] W fun e w' => ∃ mb mm mc tb tcap cb2 ccap2 g2 cap2, e = .returned (.tuple #[.pointer (some ⟨mb, 0, none⟩), .int .i64 0]) ∧ Hid (ScM (fun k => k < wl.heap.size ∨ k = tb ∨ k = cb2 ∨ k = g2) w' mb mm mc wl.heap.size (.slice (some ⟨cb2, 0, none⟩) 1 ccap2) (.slice (some ⟨tb, 0, none⟩) 1 tcap) (.slice none 0 0) (sc0 mem) ∧ ThB w' tb th0 ∧ w'.cell? ⟨cb2, 0, none⟩ = some (.slice (some ⟨g2, 0, none⟩) (aloneCode ca cb).length cap2) ∧ InS w' (.slice (some ⟨g2, 0, none⟩) (aloneCode ca cb).length cap2) (aloneCode ca cb).length (aloneCode ca cb) ∧ Below wl.heap.size wl w' ∧ (sc0 mem).mem.length ≤ mc ∧ wl.heap.size ≤ tb ∧ cb2 ≠ tb ∧ g2 ≠ tb) := by
          intro W B cc mv hW hB hv
          have hl16 : (sc0 mem).mem.length = 16 + mem.length := by unfold sc0; rw [List.length_append, List.length_replicate]
          have hTl := (HTI.out.below HWR.out (Nat.le_refl _)).below hW (Nat.le_refl _)
          rw [← hl16] at hv
          refine (new_sc W hTl B cc gl (aloneCode ca cb).length pl (aloneCode ca cb) mv (sc0 mem).mem (cell_of_row W B 0 _ _ _ hB) ((Rd.of_own HC4.out).below hW (Nat.le_refl _)) rfl (fun x hx => okI_right (hG1 x hx)) hGl hcl0 (by omega) (by omega) (Rd.of_own hv)).mono ?_
          rintro e w' ⟨mb, mm, mc, tb, tcap, cb2, ccap2, g2, cap2, he, h1, h2, h3, h4, h5, h6, h7, h8, h9⟩
          exact ⟨mb, mm, mc, tb, tcap, cb2, ccap2, g2, cap2, he, ((h1.base hW.size).less (fun k hk => by have := hW.size; omega)), h2, h3, h4, hW.trans (h5.mono hW.size), h6, Nat.le_trans hW.size h7, h8, h9⟩
        have x0 : wl.cell? ⟨w.heap.size, 0, none⟩ = some (.int .i64 k) := cell_of_row wl _ 0 _ _ _ HXO.out.2
        have x1 : wl.cell? ⟨w.heap.size, 1, none⟩ = some (.int .i64 n) := cell_of_row wl _ 1 _ _ _ HXO.out.2
        have x2 : wl.cell? ⟨w.heap.size, 2, none⟩ = some (.int .i64 a) := cell_of_row wl _ 2 _ _ _ HXO.out.2
        have x3 : wl.cell? ⟨w.heap.size, 3, none⟩ = some (.int .i64 b) := cell_of_row wl _ 3 _ _ _ HXO.out.2
        have h32 : (w32 mem).length = mem.length * 1 := by simp [w32]
        have hmm : 16 + mem.length ≤ maxLen := by unfold maxLen; omega
        have ha4 : (16 + mem.length) * 4 ≤ 140737488355328 := by omega
        have h16 : 16 ≤ maxLen := by decide
        have hszw : w.heap.size < wl.heap.size := block_lt_of_cell x0
        have hS : ∀ w' : World, Below wl.heap.size wl w' → (w'.cell? ⟨w.heap.size, 0, none⟩ = some (.int .i64 k) ∧ w'.cell? ⟨w.heap.size, 1, none⟩ = some (.int .i64 n) ∧ w'.cell? ⟨w.heap.size, 2, none⟩ = some (.int .i64 a) ∧ w'.cell? ⟨w.heap.size, 3, none⟩ = some (.int .i64 b)) ∧ Below wl.heap.size wl w' := fun w' h => ⟨⟨(h.cell (p := ⟨w.heap.size, 0, none⟩) hszw).trans x0, (h.cell (p := ⟨w.heap.size, 1, none⟩) hszw).trans x1, (h.cell (p := ⟨w.heap.size, 2, none⟩) hszw).trans x2, (h.cell (p := ⟨w.heap.size, 3, none⟩) hszw).trans x3⟩, h⟩
        go_region_held_law (fun w' => (w'.cell? ⟨w.heap.size, 0, none⟩ = some (.int .i64 k) ∧ w'.cell? ⟨w.heap.size, 1, none⟩ = some (.int .i64 n) ∧ w'.cell? ⟨w.heap.size, 2, none⟩ = some (.int .i64 a) ∧ w'.cell? ⟨w.heap.size, 3, none⟩ = some (.int .i64 b)) ∧ Below wl.heap.size wl w') (first | (refine hS _ ?_; with_reducible assumption) | (refine hS _ ?_; with_reducible refine up_alloc ?_ _; with_reducible assumption) | (refine hS _ ?_; with_reducible refine up_alloc (up_alloc ?_ _) _; with_reducible assumption) | (refine hS _ ?_; exact bl_drew (up_alloc (Below.refl _ _) _)) | (refine hS _ ?_; exact bl_drew (up_alloc (up_alloc (Below.refl _ _) _) _))) (first
          | (go_simp; go_at_call 49; refine (hNEW _ _ _ _ (by first | exact U7 | exact up_alloc U7 _) (by (repeat (first | (refine at_new ?_; focus (simp; done)) | with_reducible refine at_alloc ?_ | with_reducible refine at_drew ?_ | with_reducible refine K6 _ _ ?_ | (with_reducible refine K7 _ _ ?_ ?_; focus omega)))) (by first | exact HO7.out | exact HO7.out.alloc _)).mono ?_; rintro r w8 ⟨mb, mm, mc, tb, tcap, cb2, ccap2, g2, cap2, rfl, hFACT⟩; have U8 := hFACT.out.2.2.2.2.1)
          | (go_simp; go_at_call 31; refine (hFF _ ?_).mono ?_; (first | with_reducible assumption | exact U0 | exact bl_drew ((Below.refl _ wl).alloc (Nat.le_refl _) _) | exact bl_drew (((Below.refl _ wl).alloc (Nat.le_refl _) _).alloc (by simp) _)); rintro r w6 ⟨⟨v6, rfl, ho6, hb6⟩, U6⟩; obtain ⟨g6, p6, rfl⟩ := own_form ho6 hml0; have H6 := Lib.hid ho6; have hz6 := hb6.size; simp only [World.size_drew, World.size_alloc] at hz6; have K6 := below_at hb6; clear ho6)
          | (refine step_append_lies _ rfl (.tmp 56) (.tmp 59) 44 rfl wl.heap.size 41 i1 _ 1 4 Tryz.underlying44 hi' hy0 hy1 hy2 rfl (by decide) _ 16 [.int .u32 0, .int .u32 0, .int .u32 0, .int .u32 0, .int .u32 0, .int .u32 0, .int .u32 0, .int .u32 0, .int .u32 0, .int .u32 0, .int .u32 0, .int .u32 0, .int .u32 0, .int .u32 0, .int .u32 0, .int .u32 0] rfl (by (refine own_made (arr := #[.int .u32 0, .int .u32 0, .int .u32 0, .int .u32 0, .int .u32 0, .int .u32 0, .int .u32 0, .int .u32 0, .int .u32 0, .int .u32 0, .int .u32 0, .int .u32 0, .int .u32 0, .int .u32 0, .int .u32 0, .int .u32 0]) ?_ ?_ rfl h16); (first | omega | (simp; omega)); (repeat (first | (refine at_new ?_; focus (simp; done)) | with_reducible refine at_alloc ?_ | with_reducible refine at_drew ?_ | with_reducible refine K6 _ _ ?_))) ⟨g6, 0, none⟩ mem.length p6 (w32 mem) rfl h32 (by (intro q u hu); first | exact H6.out.cells (g := g6) rfl q u hu | exact (H6.out.alloc _).cells (g := g6) rfl q u hu | exact ((H6.out.alloc _).alloc _).cells (g := g6) rfl q u hu) (one_w32 _) hml0 hmm ha4 (by first | omega | (simp; omega)) _ rfl ?_; intro g7 c7 w7 ho7 hgr7 hat7 hlt7; have U7 : Below wl.heap.size wl w7 := (by first | (refine up_grown U6 hgr7 rfl ?_; omega) | (refine up_grown (up_alloc U6 _) hgr7 rfl ?_; omega) | (refine up_grown (up_alloc (up_alloc U6 _) _) hgr7 rfl ?_; omega)); have K7 := grown_at hgr7 rfl; have HO7 : Hid (w7.ownsRow wl.heap.size 41 1 (.slice (some ⟨g7, 0, none⟩) (16 + mem.length) c7) (16 + mem.length) (w32 (sc0 mem).mem)) := ho7; clear ho7 hgr7 hat7))
        all_goals go_wp2_with fail
        all_goals go_meet
        all_goals exact ⟨mb, mm, mc, tb, tcap, cb2, ccap2, g2, cap2, rfl, rfl, hFACT⟩
      case rest =>
        obtain ⟨mb, mm, mc, tb, tcap, cb2, ccap2, g2, cap2, rfl, rfl, HR⟩ := hcut
        obtain ⟨hG1, hGl, hGo, hGm, hGf⟩ := good_parts HG.out
        have HZ := Lib.hid (rfl : (fun k => k < wl.heap.size ∨ k = tb ∨ k = cb2 ∨ k = g2) = (fun k => k < wl.heap.size ∨ k = tb ∨ k = cb2 ∨ k = g2))
        have hTIl := HTI.out.below HWR.out (Nat.le_refl _)
        have HTIc := Lib.hid (hTIl.below HR.out.2.2.2.2.1 (Nat.le_refl _))
        have HNOI : Hid (∀ k, ¬ (k < wl.heap.size ∨ k = tb ∨ k = cb2 ∨ k = g2) ∨ k = tb → NoI k) := fun k hk => hTIl.new (by have := HR.out.2.2.2.2.2.2.1; omega)
        clear hTIl
        have HNE : Hid (cb2 ≠ tb ∧ g2 ≠ tb) := HR.out.2.2.2.2.2.2.2
        go_wp2_with fail
        go_loopw [19, 18] (fun iv ov wx => ∃ (i : Nat) (thr : Th) (s : Sc) (outs : Nat), iv = .int .i64 i ∧ ov = .int .i64 outs ∧ i ≤ 1000 ∧ Hid (ScM (fun k => k < wl.heap.size ∨ k = tb ∨ k = cb2 ∨ k = g2) wx mb mm mc wl.heap.size (.slice (some ⟨cb2, 0, none⟩) 1 ccap2) (.slice (some ⟨tb, 0, none⟩) 1 tcap) (.slice none 0 0) s ∧ ThB wx tb thr ∧ goodFrom (aloneCode ca cb) t own (1001 - i) thr s outs = true ∧ s.mem.length = 16 + mem.length ∧ s.evs.length ≤ 100001 ∧ Only (fun k => ¬ (k < wl.heap.size ∨ k = tb ∨ k = cb2 ∨ k = g2) ∨ k = tb) wc wx)) (fun i _ _ => 1001 - (intOf i).toNat)
        case atStart => exact ⟨0, th0, sc0 mem, 0, rfl, rfl, by decide, ⟨HR.out.1, HR.out.2.1, hGf, by unfold sc0; rw [List.length_append, List.length_replicate], Nat.zero_le _, Only.refl _ _⟩⟩
        case round =>
          obtain ⟨i, thr, s, outs, rfl, rfl, hi1000, HL⟩ := hrel
          have HLs := HL.out
          obtain ⟨hM, hT, hgf, hml, hevl, hO⟩ := HLs
          have HBR : Hid (Below w.heap.size w wr) := by
            have h1 := HWR.out.trans (HR.out.2.2.2.2.1.mono HWR.out.size)
            have h2 := HR.out.2.2.2.2.2.2.1
            have h3 := HWR.out.size
            exact ⟨hO.os.trans h1.os, hO.tape.trans h1.tape, hO.output.trans h1.output, Nat.le_trans h1.size hO.size, fun k hk => (hO.block k (Nat.lt_of_lt_of_le hk h1.size) (by omega)).trans (h1.block k hk)⟩
          have hDN := done_sc _ wr mb mm mc _ _ _ _ s hM tb tcap rfl thr hT
          by_cases h0 : thr.st = 0
          · obtain ⟨f', q, hf, hokT, hokS, hstep, hnext⟩ := goodFrom_step hgf h0
            have hi1 : i < 1000 := by
              rcases Nat.lt_or_ge i 1000 with h | h
              · exact h
              · have : f' = 0 := by omega
                subst this
                rcases hnext with ⟨_, _, h⟩ | ⟨_, h⟩ <;> cases h
            have hi2 : (i : Int) < 1000 := by omega
            have hpc := (okT_parts hokT).1
            have hml2 := step_mem h0 hpc hstep
            have hev2 := step_evs h0 hpc hstep
            have hq8 := (step_len h0 hpc hstep).trans hT.1
            have hokE : s.evs.length ≤ 100000 := by simp only [okS, Bool.and_eq_true, decide_eq_true_eq] at hokS; exact hokS.1.1
            have B0 := Below.refl wr.heap.size wr
            have HTr := Lib.hid (HTIc.out.only hO HNOI.out)
            have HCb : Hid (wr.cell? ⟨cb2, 0, none⟩ = some (.slice (some ⟨g2, 0, none⟩) (aloneCode ca cb).length cap2)) := (World.cell?_of_block (w := wc) (a := ⟨cb2, 0, none⟩) (hO.block cb2 (block_lt_of_cell HR.out.2.2.1) (by have := HNE.out; omega))).trans HR.out.2.2.1
            have HIn := Lib.hid (HR.out.2.2.2.1.only hO (by have := HNE.out; omega) hcl0)
            have hDNf : Calls Tryz.prog 50 #[.pointer (some ⟨mb, 0, none⟩)] wr fun e w' => e = .returned (.bool false) ∧ Below wr.heap.size wr w' := (done_sc _ wr mb mm mc _ _ _ _ s hM tb tcap rfl thr hT).mono (fun e w' h => ⟨by rw [h.1, h0]; rfl, h.2⟩)
            have hPKf : ∀ W, Below wr.heap.size wr W → Calls Tryz.prog 51 #[.pointer (some ⟨mb, 0, none⟩), .agg #[.int .i64 0, .int .i64 0]] W fun e w' => e = .returned (.tuple #[]) ∧ Hid (ScM (fun k => k < wl.heap.size ∨ k = tb ∨ k = cb2 ∨ k = g2) w' mb mm mc wl.heap.size (.slice (some ⟨cb2, 0, none⟩) 1 ccap2) (.slice (some ⟨tb, 0, none⟩) 1 tcap) (.slice none 0 0) q.2 ∧ ThB w' tb q.1 ∧ Only (fun k => ¬ (k < wl.heap.size ∨ k = tb ∨ k = cb2 ∨ k = g2) ∨ k = tb) wc w') := fun W hW =>
              (pick_any _ W mb mm mc _ tb tcap cb2 ccap2 g2 cap2 _ s thr q (aloneCode ca cb) (hM.below hW) (hT.only (Only.of_below (F := fun _ => False) hW (Nat.le_refl _)) (fun e => e)) (.inr (.inl rfl)) (.inr (.inr (.inl rfl))) (.inr (.inr (.inr rfl))) (fun k hk => HNOI.out k (.inl hk)) (HTr.out.below hW (Nat.le_refl _)) ((hW.cell (p := ⟨cb2, 0, none⟩) (block_lt_of_cell HCb.out)).trans HCb.out) (HIn.out.below hW (Nat.le_refl _)) hcl0 hGl hG1 hokT hokS (by omega) h0 hstep hq8).mono (fun e w' h => ⟨h.1, h.2.1, h.2.2.1, hO.trans ((Only.of_below (F := fun k => ¬ (k < wl.heap.size ∨ k = tb ∨ k = cb2 ∨ k = g2) ∨ k = tb) hW (Nat.le_refl _)).trans h.2.2.2 (fun _ e => .inl e)) (fun _ e => .inl e)⟩)
            clear hDN hM hT hO hgf
            have hf2 : 1001 - (i + 1) = f' := by omega
            rcases hnext with ⟨hn, hiff, hg2⟩ | ⟨hn, hg2⟩
            · generalize hN : (outsI q.2.evs).length = N2 at hn hiff hg2
              go_wp2_with (first
                | (go_at_call 50; refine hDNf.mono ?_; rintro r w1 ⟨rfl, hb1⟩)
                | (go_at_call 51; refine (hPKf _ ?_).mono ?_; (with_reducible exact hb1); rintro r w2 ⟨rfl, HP⟩; have hEVf := events_sc _ w2 mb mm mc _ _ _ _ q.2 HP.out.1 (by omega))
                | (go_at_call 53; refine hEVf.mono ?_; rintro r w3 ⟨ve, rfl, hoe, B3⟩)
                | (go_at_call 52; refine (outs_any ve q.2.evs.length q.2.evs 0 (by omega) _ (Rd.of_own hoe) rfl).mono ?_; rintro r w4 ⟨vo, rfl, hoo, hbo⟩; rw [outs_eq] at hoo; simp only [hN] at hoo; obtain ⟨Ao, co, rfl⟩ := (Rd.of_own hoo).form; have B4 := B3.trans (hbo.mono B3.size); clear hoo hoe hEVf))
              have hwc : w.heap.size < wc.heap.size := Nat.lt_of_lt_of_le HXO.out.1 HR.out.2.2.2.2.1.size
              have hSw : w.heap.size < w2.heap.size := Nat.lt_of_lt_of_le hwc HP.out.2.2.size
              have hblk : w2.heap[w.heap.size]? = wl.heap[w.heap.size]? := (HP.out.2.2.block w.heap.size hwc (by have := HXO.out.1; have := HR.out.2.2.2.2.2.2.1; omega)).trans (HR.out.2.2.2.2.1.block w.heap.size HXO.out.1)
              have hS : ∀ w' : World, Below w2.heap.size w2 w' → (w'.cell? ⟨w.heap.size, 0, none⟩ = some (.int .i64 k) ∧ w'.cell? ⟨w.heap.size, 1, none⟩ = some (.int .i64 n) ∧ w'.cell? ⟨w.heap.size, 2, none⟩ = some (.int .i64 a) ∧ w'.cell? ⟨w.heap.size, 3, none⟩ = some (.int .i64 b)) ∧ Below w2.heap.size w2 w' := fun w' h => by
                have hb := (h.block w.heap.size hSw).trans (hblk.trans HXO.out.2)
                exact ⟨⟨cell_of_row w' _ 0 _ _ _ hb, cell_of_row w' _ 1 _ _ _ hb, cell_of_row w' _ 2 _ _ _ hb, cell_of_row w' _ 3 _ _ _ hb⟩, h⟩
              have B4d := bl_drew B4
              have hMEf := mem_sc _ w4.drew mb mm mc _ _ _ _ q.2 (HP.out.1.below B4d) (by have := HR.out.2.2.2.2.2.1; simp [sc0] at this; omega) (by omega)
              have hOWf := fun W => owner_any W k n a b own hO
              have hv : q.2.mem[16 + own]? = some (q.2.mem.getD (16 + own) 0) := by
                rw [List.getD_eq_getElem?_getD, List.getElem?_eq_getElem (by omega)]; rfl
              have kw16 : IntKind.i64.wrap (16 + (own : Int)) = 16 + own := by rw [IntKind.wrap_i64]; omega
              have ho1 : own < mem.length := by omega
              have ho2 : (own : Int) < (mem.length : Int) := by omega
              have ho3 : (16 : Int) + (own : Int) < 16 + (mem.length : Int) := by omega
              have ho4 : (0 : Int) ≤ 16 + (own : Int) := by omega
              have ho5 : (16 + (own : Int)).toNat = 16 + own := by omega
              have hq2l : q.2.mem.length = 16 + mem.length := by omega
              rw [hq2l] at hMEf
              obtain ⟨vo16, hvo⟩ : ∃ v, v = q.2.mem.getD (16 + own) 0 := ⟨_, rfl⟩
              rw [← hvo] at hv hiff
              have HV := Lib.hid hv
              have hcond : (!(vo16 == (t : Int) + 1) == decide ((N2 : Int) ≤ 2)) = false := by
                by_cases c : N2 ≤ 2
                · rw [hiff.2 c, decide_eq_true (by omega : (N2 : Int) ≤ 2)]; simp
                · have c2 : ¬ vo16 = (t : Int) + 1 := fun e => c (hiff.1 e)
                  rw [decide_eq_false (by omega : ¬ (N2 : Int) ≤ 2)]; simp [c2]
              clear hv hvo
              obtain ⟨⟨o0, o1, o2, o3⟩, _⟩ := hS _ B4d
              go_region_with (first
                | (go_at_call 54; refine hMEf.mono ?_; rintro r w5 ⟨v5, rfl, ho5, hb5⟩; obtain ⟨g5, c5, rfl⟩ := own_form ho5 (by omega); have B5 := B4d.trans (hb5.mono B4d.size); have cM : w5.cell? ⟨g5, 16 + own, none⟩ = some (.int .u32 vo16) := (congrArg w5.cell? (by rw [add_at, Nat.zero_add])).trans (ho5.cells (g := g5) rfl (16 + own) (.int .u32 vo16) (by simp [w32, HV.out])); have hg5 := (ho5.lt g5 rfl).2; obtain ⟨⟨p0, p1, p2, p3⟩, _⟩ := hS _ B5)
                | (go_at_call 48; refine (hOWf _).mono ?_; rintro r w6 ⟨rfl, hb6⟩; have B6 := B5.trans (hb6.mono B5.size); have cO := (hb6.cell (p := ⟨g5, 16 + own, none⟩) hg5).trans cM))
              all_goals go_wp2_with fail
              all_goals rw [← hf2] at hg2
              all_goals exact ⟨⟨i + 1, q.1, q.2, N2, by simp, rfl, by omega, ⟨HP.out.1.below B6, HP.out.2.1.only (Only.of_below (F := fun _ => False) B6 (Nat.le_refl _)) (fun e => e), hg2, by omega, by omega, HP.out.2.2.trans (Only.of_below (F := fun k => ¬ (k < wl.heap.size ∨ k = tb ∨ k = cb2 ∨ k = g2) ∨ k = tb) B6 (Nat.le_refl _)) (fun _ e => .inl e)⟩⟩, by simp [intOf]; omega⟩
            · have hn' : (outsI q.2.evs).length ≤ outs := by omega
              go_wp2_with (first
                | (go_at_call 50; refine hDNf.mono ?_; rintro r w1 ⟨rfl, hb1⟩)
                | (go_at_call 51; refine (hPKf _ ?_).mono ?_; (with_reducible exact hb1); rintro r w2 ⟨rfl, HP⟩; have hEVf := events_sc _ w2 mb mm mc _ _ _ _ q.2 HP.out.1 (by omega))
                | (go_at_call 53; refine hEVf.mono ?_; rintro r w3 ⟨ve, rfl, hoe, B3⟩)
                | (go_at_call 52; refine (outs_any ve q.2.evs.length q.2.evs 0 (by omega) _ (Rd.of_own hoe) rfl).mono ?_; rintro r w4 ⟨vo, rfl, hoo, hbo⟩; rw [outs_eq] at hoo; obtain ⟨Ao, co, rfl⟩ := (Rd.of_own hoo).form; have B4 := B3.trans (hbo.mono B3.size); clear hoo hoe hEVf))
              rw [← hf2] at hg2
              exact ⟨⟨i + 1, q.1, q.2, outs, by simp, rfl, by omega, ⟨HP.out.1.below B4, HP.out.2.1.only (Only.of_below (F := fun _ => False) B4 (Nat.le_refl _)) (fun e => e), hg2, by omega, by omega, HP.out.2.2.trans (Only.of_below (F := fun k => ¬ (k < wl.heap.size ∨ k = tb ∨ k = cb2 ∨ k = g2) ∨ k = tb) B4 (Nat.le_refl _)) (fun _ e => .inl e)⟩⟩, by simp [intOf]; omega⟩
          · obtain ⟨h2, hou⟩ := goodFrom_end hgf h0
            have B0 := Below.refl wr.heap.size wr
            have hDNf : ∀ W, Below wr.heap.size wr W → Calls Tryz.prog 50 #[.pointer (some ⟨mb, 0, none⟩)] W fun e w' => e = .returned (.bool true) ∧ Below W.heap.size W w' := fun W hW => (done_sc _ W mb mm mc _ _ _ _ s (hM.below hW) tb tcap rfl thr (hT.only (Only.of_below (F := fun _ => False) hW (Nat.le_refl _)) (fun e => e))).mono (fun e w' h => ⟨by rw [h.1, h2]; rfl, h.2⟩)
            have hev : s.evs.length ≤ 1000000 := by omega
            have hEVf : ∀ W, Below wr.heap.size wr W → Calls Tryz.prog 53 #[.pointer (some ⟨mb, 0, none⟩)] W fun e w' => ∃ v, e = .returned v ∧ w'.ownsRow W.heap.size 59 8 v s.evs.length (flatE s.evs) ∧ Below wr.heap.size wr w' := fun W hW => (events_sc _ W mb mm mc _ _ _ _ s (hM.below hW) hev).mono (fun e w' ⟨v, a, b, c⟩ => ⟨v, a, b, hW.trans (c.mono hW.size)⟩)
            clear hDN
            by_cases hi : i < 1000
            · have hi2 : (i : Int) < 1000 := by omega
              go_wp2_with (first
                | (go_at_call 50; refine (hDNf _ ?_).mono ?_; (with_reducible exact B3); rintro r w5 ⟨rfl, hb5⟩; have d0 := (hb5.cell (p := ⟨g3, 0, none⟩) hg3).trans c0; have d1 := (hb5.cell (p := ⟨g3, 1, none⟩) hg3).trans c1; have d2 := (hb5.cell (p := ⟨g3, 2, none⟩) hg3).trans c2; have d3 := (hb5.cell (p := ⟨g3, 3, none⟩) hg3).trans c3; have B5 := B3.trans (hb5.mono B3.size))
                | (go_at_call 50; refine (hDNf _ ?_).mono ?_; (with_reducible exact B0); rintro r w1 ⟨rfl, hb1⟩; have B1 := hb1)
                | (go_at_call 53; refine (hEVf _ ?_).mono ?_; (first | with_reducible exact B1 | with_reducible exact B0); rintro r w2 ⟨ve, rfl, hoe, B2⟩)
                | (go_at_call 52; refine (outs_any ve s.evs.length s.evs 0 hev _ (Rd.of_own hoe) rfl).mono ?_; rintro r w3 ⟨vo, rfl, hoo, hbo⟩; rw [outs_eq, hou] at hoo; obtain ⟨g3, c3', rfl⟩ := own_form hoo (by decide); have B3 := B2.trans (hbo.mono B2.size); have hg3 := (hoo.lt g3 rfl).2; obtain ⟨c0, c1, c2, c3⟩ := cells_4 hoo))
              go_ret
              exact ⟨rfl, HBR.out.trans (B5.mono HBR.out.size)⟩
            · have hi2 : ¬ (i : Int) < 1000 := by omega
              go_wp2_with (first
                | (go_at_call 50; refine (hDNf _ ?_).mono ?_; (with_reducible exact B3); rintro r w5 ⟨rfl, hb5⟩; have d0 := (hb5.cell (p := ⟨g3, 0, none⟩) hg3).trans c0; have d1 := (hb5.cell (p := ⟨g3, 1, none⟩) hg3).trans c1; have d2 := (hb5.cell (p := ⟨g3, 2, none⟩) hg3).trans c2; have d3 := (hb5.cell (p := ⟨g3, 3, none⟩) hg3).trans c3; have B5 := B3.trans (hb5.mono B3.size))
                | (go_at_call 50; refine (hDNf _ ?_).mono ?_; (with_reducible exact B0); rintro r w1 ⟨rfl, hb1⟩; have B1 := hb1)
                | (go_at_call 53; refine (hEVf _ ?_).mono ?_; (first | with_reducible exact B1 | with_reducible exact B0); rintro r w2 ⟨ve, rfl, hoe, B2⟩)
                | (go_at_call 52; refine (outs_any ve s.evs.length s.evs 0 hev _ (Rd.of_own hoe) rfl).mono ?_; rintro r w3 ⟨vo, rfl, hoo, hbo⟩; rw [outs_eq, hou] at hoo; obtain ⟨g3, c3', rfl⟩ := own_form hoo (by decide); have B3 := B2.trans (hbo.mono B2.size); have hg3 := (hoo.lt g3 rfl).2; obtain ⟨c0, c1, c2, c3⟩ := cells_4 hoo))
              go_ret
              exact ⟨rfl, HBR.out.trans (B5.mono HBR.out.size)⟩
end Go.Proofs.YtackbadmcgjncaaGreatDoor.As
