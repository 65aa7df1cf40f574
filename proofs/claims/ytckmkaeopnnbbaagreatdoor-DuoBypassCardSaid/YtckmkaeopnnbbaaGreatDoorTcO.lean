/- The walk of trace.Of: a thread's events handed out one by one. -/
import Derived.RangeFuncNested
import Derived.RangeFuncBound
import Derived.RangeFuncCalls
import Derived.RangeFuncLeaves
import Derived.RangeFuncBox
import Derived.Shelf.Abstract
import Derived.Shelf.RegionOpen
import Derived.WalkKit
import Derived.OwnWalkIn
import Derived.TacticsInMore
import Derived.LoopNIn
import Derived.LoopIn
import Derived.Maps.AppendAt
import Derived.Test.YtckmkaeopnnbbaaGreatDoorTcP
set_option linter.unusedVariables false
set_option linter.unusedSimpArgs false
namespace Go.Proofs.YtckmkaeopnnbbaaGreatDoor.As
open Go.RowKit Go.Shelf
attribute [local go_sem] Oper.semAt_some

/-- The thread's events among the first k, each with its place. -/
def ofI (l : List Ev) (t : Int) (k : Nat) : List (Nat × Ev) := (List.range k).filterMap fun j => match l[j]? with | none => none | some e => if e.who = t then some (j, e) else none
theorem ofI_succ (l : List Ev) (t : Int) (k : Nat) (e : Ev) (h : l[k]? = some e) : ofI l t (k + 1) = ofI l t k ++ (if e.who = t then [(k, e)] else []) := by
  unfold ofI
  rw [List.range_succ, List.filterMap_append]
  congr 1
  by_cases c : e.who = t <;> simp [h, c]
theorem ofI_len (l : List Ev) (t : Int) (k : Nat) : (ofI l t k).length ≤ k := by
  unfold ofI
  exact Nat.le_trans (List.length_filterMap_le _ _) (by simp)
theorem flatE_at {l : List Ev} {k : Nat} {e : Ev} (h : l[k]? = some e) (j : Nat) (u : Value) (hu : e.cells[j]? = some u) : (flatE l)[k * 8 + j]? = some u := by
  induction l generalizing k with
  | nil => cases h
  | cons x l ih =>
    have hx : x.cells.length = 8 := rfl
    have hj : j < 8 := by have := (List.getElem?_eq_some_iff.1 hu).1; exact this
    rw [show flatE (x :: l) = x.cells ++ flatE l from rfl]
    cases k with
    | zero =>
      injection h with h; subst h
      rw [Nat.zero_mul, Nat.zero_add, List.getElem?_append_left (by omega)]; exact hu
    | succ k =>
      rw [List.getElem?_append_right (by omega), show (k + 1) * 8 + j - x.cells.length = k * 8 + j by omega]
      exact ih h
/-- What a round keeps. -/
def KpT (n₀ Bt : Nat) (W W' : World) : Prop := Below n₀ W W' ∧ W'.heap[Bt]? = W.heap[Bt]?
theorem KpT.trans {n₀ Bt : Nat} {A B C : World} (h : KpT n₀ Bt A B) (g : KpT n₀ Bt B C) : KpT n₀ Bt A C := ⟨h.1.trans g.1, g.2.trans h.2⟩
theorem KpT.cell {n₀ Bt : Nat} {W W' : World} (h : KpT n₀ Bt W W') {v : Value} (hc : W.cell? ⟨Bt, 0, none⟩ = some v) : W'.cell? ⟨Bt, 0, none⟩ = some v := (World.cell?_of_block (w := W) (a := ⟨Bt, 0, none⟩) h.2).trans hc
theorem KpT.alloc {n₀ Bt : Nat} {W : World} (h : n₀ ≤ W.heap.size) (hb : Bt < W.heap.size) (X : Obj) : KpT n₀ Bt W (W.alloc X) := ⟨(Below.refl n₀ W).alloc h X, Below.heap_alloc _ _ _ hb⟩
theorem kpT_b {n₀ Bt : Nat} {w : World} (hn : n₀ ≤ w.heap.size) (hb : Bt < w.heap.size) : ∀ (W : World) (l : Nat) (o o' : Obj), w.heap.size ≤ l → W.heap[l]? = some o → o.isCells = false → o.isWalk = false → KpT n₀ Bt W (W.putObj l o') := fun W l o o' h1 h2 h3 h4 =>
  ⟨belowK_b hn W l o o' h1 h2 h3 h4, by
    have := belowK_b (n₀ := Bt + 1) (w := w) (by omega) W l o o' h1 h2 h3 h4
    exact this.block Bt (by omega)⟩
/-- A readable event. -/
theorem rdE_at {w : World} {n cap b off : Nat} {l : List Ev} (h : Rd w 8 (.slice (some ⟨b, off, none⟩) n cap) n (flatE l)) {k : Nat} {e : Ev} (he : l[k]? = some e) (j : Nat) (u : Value) (hu : e.cells[j]? = some u) : w.cell? ⟨b, off + k * 8 + j, none⟩ = some u := by
  rw [Nat.add_assoc]
  obtain ⟨A, cap', q, hc, hl, h⟩ := h
  injection q with q1 q2 q3
  subst q1
  rcases h with ⟨h, _⟩ | ⟨b', off', h, hb, h2⟩
  · cases h
  · injection h with h; injection h with h1 h2'; subst h1; subst h2'
    exact h2 _ _ (flatE_at he j u hu)
set_option maxRecDepth 100000 in
set_option maxHeartbeats 4000000 in
theorem of1_in (F : Fence) (n : Nat) (h7 : F.fn 136) (hro : F.round = none) (hn : 1 ≤ n) (l Bs Bt n₀ b off len cap : Nat) (evs : List Ev) (t : Int) (hlen : evs.length = len) (hreach : len ≤ 1000000) (hb : b < n₀) (J Jx : List (Nat × Ev) → World → Prop)
    (hJd : ∀ pre W X, J pre W → J pre (W.alloc (.cells X 65 (0, 0)))) 
    (hY : ∀ pre x W, J pre W → pre.length < len → YieldAt F (n - 1) Tryz.prog l #[.int .i64 (x.1 : Int), .agg x.2.cells.toArray] W fun e W' =>
      (e = .returned (.bool true) ∧ J (pre ++ [x]) W' ∧ KpT n₀ Bt W W') ∨ (e = .returned (.bool false) ∧ Jx (pre ++ [x]) W'))
    (W : World) (hBs : W.cell? ⟨Bs, 0, none⟩ = some (.slice (some ⟨b, off, none⟩) len cap)) (hBt : W.cell? ⟨Bt, 0, none⟩ = some (.int .i64 t)) (hBt0 : Bt < W.heap.size) (hR : Rd W 8 (.slice (some ⟨b, off, none⟩) len cap) len (flatE evs)) (h0 : J [] W) (hn0 : n₀ ≤ W.heap.size) :
    CallsIn F n Tryz.prog 136 #[.func (.yield l) #[] #[], .pointer (some ⟨Bs, 0, none⟩), .pointer (some ⟨Bt, 0, none⟩)] W fun e W' => (∃ v, e = .returned v) ∧
      ((∃ ys, ys = ofI evs t len ∧ J ys W') ∨ (∃ pre, True ∧ Jx pre W')) := by
  refine callsIn_of_wp Tryz.func136 rfl h7 ?_ hro
  simp only [Tryz.ntmps136, List.size_toArray, List.length_cons, List.length_nil, Nat.reduceAdd, Nat.reduceSub, Array.replicate_succ, Array.replicate_zero, List.push_toArray, List.append_toArray, List.nil_append, List.cons_append]
  gi_wp2
  gi_loopw [8] (fun i wr => ∃ k : Nat, k ≤ len ∧ i = .int .i64 k ∧ J (ofI evs t k) wr ∧ KpT n₀ Bt W wr)
    (fun i _ => len - (intOf i).toNat)
  case atStart => exact ⟨0, Nat.zero_le _, rfl, h0, Below.refl _ _, rfl⟩
  case round =>
    obtain ⟨k, hk, rfl, hJs, hKx⟩ := hrel
    have hnx := hKx.1
    by_cases hlt : k < len
    · obtain ⟨e, he⟩ : ∃ e, evs[k]? = some e := ⟨_, List.getElem?_eq_getElem (by omega)⟩
      have c0 := (hnx.cell (p := ⟨b, off + k * 8, none⟩) hb).trans (rdE_at hR he 0 _ rfl)
      have c1 := (hnx.cell (p := ⟨b, off + k * 8 + 1, none⟩) hb).trans (rdE_at hR he 1 _ rfl)
      have c2 := (hnx.cell (p := ⟨b, off + k * 8 + 2, none⟩) hb).trans (rdE_at hR he 2 _ rfl)
      have c3 := (hnx.cell (p := ⟨b, off + k * 8 + 3, none⟩) hb).trans (rdE_at hR he 3 _ rfl)
      have c4 := (hnx.cell (p := ⟨b, off + k * 8 + 4, none⟩) hb).trans (rdE_at hR he 4 _ rfl)
      have c5 := (hnx.cell (p := ⟨b, off + k * 8 + 5, none⟩) hb).trans (rdE_at hR he 5 _ rfl)
      have c6 := (hnx.cell (p := ⟨b, off + k * 8 + 6, none⟩) hb).trans (rdE_at hR he 6 _ rfl)
      have c7 := (hnx.cell (p := ⟨b, off + k * 8 + 7, none⟩) hb).trans (rdE_at hR he 7 _ rfl)
      have hsz := hnx.size
      have hnA : KpT n₀ Bt wr (wr.alloc (.cells #[.int .i64 e.kind, .int .i64 e.who, .int .i64 e.pc, .int .i64 e.addr, .int .u32 e.val, .int .u32 e.old, .int .u32 e.k, .bool e.ok] 65)) := KpT.alloc (by omega) (by omega) _
      have ct := hnA.cell (hKx.cell hBt)
      have hJA := hJd _ _ #[.int .i64 e.kind, .int .i64 e.who, .int .i64 e.pc, .int .i64 e.addr, .int .u32 e.val, .int .u32 e.old, .int .u32 e.k, .bool e.ok] hJs
      have hs := ofI_succ evs t k e he
      have hlJ := ofI_len evs t k
      by_cases hw : e.who = t
      · rw [if_pos hw] at hs
        subst hw
        obtain ⟨fn, tmps, assign, body, hy, hR2⟩ := hY _ (k, e) _ hJA (by omega)
        dsimp only [Ev.cells] at hy
        clear hJA hJd hJs
        gi_wp2
        refine hR2.mono ?_
        rintro r W3 (⟨rfl, hJ3, hk3⟩ | ⟨rfl, hJx3⟩)
        · gi_wp2
          go_roundw
          case rel => exact ⟨k + 1, by omega, by simp, by rw [hs]; exact hJ3, (hKx.trans hnA).trans hk3⟩
          case measure => simp [intOf]; omega
        · gi_wp2
          refine bodyPost_ret (results_none rfl _ _ _) rfl ?_
          exact ⟨⟨_, rfl⟩, .inr ⟨_, trivial, hJx3⟩⟩
      · rw [if_neg hw, List.append_nil] at hs
        have hwb : (e.who == t) = false := by simpa using hw
        clear hw
        gi_wp2
        refine ⟨fun _ h => (by cases h), ?_⟩
        gi_wp2
        go_roundw
        case rel => exact ⟨k + 1, by omega, by simp, by rw [hs]; exact hJA, hKx.trans hnA⟩
        case measure => simp [intOf]; omega
    · obtain rfl : k = len := by omega
      gi_wp2
      go_end0
      exact ⟨⟨_, rfl⟩, .inl ⟨_, rfl, hJs⟩⟩
set_option maxRecDepth 100000 in
set_option maxHeartbeats 1000000 in
theorem of1_nil (F : Fence) (n : Nat) (h7 : F.fn 136) (hro : F.round = none) (l Bs Bt cap : Nat) (J : List (Nat × Ev) → World → Prop) (W : World) (hBs : W.cell? ⟨Bs, 0, none⟩ = some (.slice none 0 cap)) (h0 : J [] W) :
    CallsIn F n Tryz.prog 136 #[.func (.yield l) #[] #[], .pointer (some ⟨Bs, 0, none⟩), .pointer (some ⟨Bt, 0, none⟩)] W fun e W' => (∃ v, e = .returned v) ∧ J [] W' := by
  refine callsIn_of_wp Tryz.func136 rfl h7 ?_ hro
  simp only [Tryz.ntmps136, List.size_toArray, List.length_cons, List.length_nil, Nat.reduceAdd, Nat.reduceSub, Array.replicate_succ, Array.replicate_zero, List.push_toArray, List.append_toArray, List.nil_append, List.cons_append]
  gi_wp2
  gi_loopw [8] (fun i wr => i = .int .i64 0 ∧ J [] wr) (fun _ _ => 0)
  case atStart => exact ⟨rfl, h0⟩
  case round =>
    obtain ⟨rfl, hJs⟩ := hrel
    gi_wp2
    go_end0
    exact ⟨⟨_, rfl⟩, hJs⟩
/-- trace.Of's iterator, of whatever events. -/
theorem of_stops (F : Fence) (n : Nat) (h7 : F.fn 136) (hro : F.round = none) (hn : 1 ≤ n) (Bs Bt n₀ : Nat) (v : Value) (len : Nat) (evs : List Ev) (t : Int) (hreach : len ≤ 1000000) (w : World) (hBs : Bs < w.heap.size) (hBt : Bt < w.heap.size) (hn₀ : n₀ ≤ w.heap.size)
    (hc : w.cell? ⟨Bs, 0, none⟩ = some v) (hct : w.cell? ⟨Bt, 0, none⟩ = some (.int .i64 t)) (hR : Rd w 8 v len (flatE evs)) (hlt : ∀ b off cap, v = .slice (some ⟨b, off, none⟩) len cap → b < n₀) (hle : evs.length = len) :
    SeqStopsK F n Tryz.prog 136 #[.pointer (some ⟨Bs, 0, none⟩), .pointer (some ⟨Bt, 0, none⟩)] (fun x : Nat × Ev => #[Value.int .i64 (x.1 : Int), .agg x.2.cells.toArray]) (KpT n₀ Bt) (fun ys => ys = ofI evs t len) (fun _ => True) len w := fun l J Jx W hW hJ _ hY h0 => by
  have hc' := (hW.cell (p := ⟨Bs, 0, none⟩) hBs).trans hc
  have hct' := (hW.cell (p := ⟨Bt, 0, none⟩) hBt).trans hct
  have hR' := hR.below hW (Nat.le_refl _)
  obtain ⟨A, cap, rfl, hcap, hl, hx⟩ := hR
  rcases hx with ⟨rfl, rfl⟩ | ⟨b, off, rfl, hb, hx⟩
  · have he : evs = [] := List.eq_nil_of_length_eq_zero hle
    subst he
    exact (of1_nil F n h7 hro l Bs Bt cap J W hc' h0).mono fun e W' ⟨he, hj⟩ => ⟨he, .inl ⟨_, rfl, hj⟩⟩
  · exact of1_in F n h7 hro hn l Bs Bt n₀ b off len cap evs t hle hreach (hlt b off cap rfl) J Jx (fun pre W X h => hJ pre W _ none h (World.grownBy_alloc _ _ _) (fun _ e => by cases e)) hY W hc' hct' (Nat.lt_of_lt_of_le hBt hW.size) hR' h0 (Nat.le_trans hn₀ hW.size)
set_option maxHeartbeats 1000000 in
theorem of_in (F : Fence) (n : Nat) (h5 : F.fn 88) (hro : F.round = none) (A : Option Addr) (len cap : Nat) (t : Int) (w : World) :
    CallsIn F n Tryz.prog 88 #[.slice A len cap, .int .i64 t] w fun e w' => e = .returned (.func (.func 136) #[] #[.pointer (some ⟨w.heap.size, 0, none⟩), .pointer (some ⟨w.heap.size + 1, 0, none⟩)]) ∧ w' = (w.alloc (.cells #[.slice A len cap] 56)).alloc (.cells #[.int .i64 t] 3) := by
  refine callsIn_of_wp Tryz.func88 rfl h5 ?_ hro
  simp only [Tryz.ntmps88, List.size_toArray, List.length_cons, List.length_nil, Nat.reduceAdd, Nat.reduceSub, Array.replicate_succ, Array.replicate_zero, List.push_toArray, List.append_toArray, List.nil_append, List.cons_append]
  gi_wp2
  go_ret
  exact ⟨rfl, rfl⟩
/-- A loop's variable that is an event. -/
def BoxE (W : World) (B : Nat) (e : Ev) : Prop := W.heap[B]? = some (.cells e.cells.toArray 65 (0, 0))
theorem BoxE.kept {W W' : World} {row : Option Nat} {B : Nat} {e : Ev} (h : BoxE W B e) (hg : W.grownBy W' row) (hne : some B ≠ row) : BoxE W' B e := (hg.block B (Array.getElem?_eq_some_iff.1 h).1 hne).trans h
theorem boxE_own {β : Type} (B : Nat) (f : β → Ev) : Own (fun s W => BoxE W B (f s)) := fun s X Y row hs hg hrow =>
  hs.kept hg (fun e' => by obtain ⟨o, ho, hc⟩ := hrow B e'.symm; rw [show X.heap[B]? = _ from hs] at ho; cases ho; cases hc)
end Go.Proofs.YtckmkaeopnnbbaaGreatDoor.As
