/- The walk of sc.Machine.Pick: the thread's next instruction. -/
import Derived.Deep.RegionHeld3
import Derived.Test.YtackbadmcgjncaaGreatDoorCoE
import Derived.Test.YtackbadmcgjncaaGreatDoorAlD
set_option linter.unusedVariables false
set_option linter.unusedSimpArgs false
set_option maxRecDepth 20000
namespace Go.Proofs.YtackbadmcgjncaaGreatDoor.As
open Go.RowKit

theorem ScM.whos {Z : Nat → Prop} {w : World} {mb mm mc b0 : Nat} {cv tv kv : Value} {s : Sc} (h : ScM Z w mb mm mc b0 cv tv kv s) (hw : s.who = 0) : ScM Z (w.setCell ⟨mb, 5, none⟩ (.int .i64 0)) mb mm mc b0 cv tv kv s ∧ Only (fun k => k = mb) w (w.setCell ⟨mb, 5, none⟩ (.int .i64 0)) := by
  have hO : Only (fun k => k = mb) w (w.setCell ⟨mb, 5, none⟩ (.int .i64 0)) := Only.set1 (F := fun k => k = mb) (p := ⟨mb, 5, none⟩) (Only.refl _ w) rfl _
  obtain ⟨h1, h2, h3, h4, h5, h6, ev, arr, hb, hm, hc, hs, ho2, e1, e2, e3⟩ := h
  refine ⟨⟨h1, h2, h3, fun k hk => Nat.lt_of_lt_of_le (h4 k hk) hO.size, Nat.le_trans h5 hO.size, Nat.lt_of_lt_of_le h6 hO.size, ev, arr, ?_, (hO.block _ h6 h1).trans hm, hc, hs, own_only ho2 hO (fun k e f => by subst f; exact e1 e), e1, e2, e3⟩, hO⟩
  refine (heap_setCell_same _ mb 5 _ _ _ hb).trans ?_
  rw [hw]
  rfl
theorem alloc_cell1 {w : World} {a : Addr} {v : Value} {X : Obj} (h : w.cell? a = some v) : (w.alloc X).cell? a = some v :=
  (Below.cell ((Below.refl w.heap.size w).alloc (Nat.le_refl _) X) (block_lt_of_cell h)).trans h
theorem set10_cell {w : World} {R : Nat} {a : Addr} {v v0 v1 v2 v3 v4 v5 v6 v7 v8 v9 : Value} (h : w.cell? a = some v) (hne : a.block ≠ R) :
    ((((((((((w.setCell ⟨R, 0, none⟩ v0).setCell ⟨R, 1, none⟩ v1).setCell ⟨R, 2, none⟩ v2).setCell ⟨R, 3, none⟩ v3).setCell ⟨R, 4, none⟩ v4).setCell ⟨R, 5, none⟩ v5).setCell ⟨R, 6, none⟩ v6).setCell ⟨R, 7, none⟩ v7).setCell ⟨R, 8, none⟩ v8).setCell ⟨R, 9, none⟩ v9).cell? a = some v := by
  have e : ∀ (W : World) (j : Nat) (v : Value), (W.setCell ⟨R, j, none⟩ v).heap[a.block]? = W.heap[a.block]? := fun W j v => heap_setCell_other W ⟨R, j, none⟩ a.block v hne
  refine (World.cell?_of_block (w := w) (a := a) ?_).trans h
  rw [e, e, e, e, e, e, e, e, e, e]
/-- What a pick leaves. -/
def PickPost (Z : Nat → Prop) (w : World) (mb mm mc b0 tb : Nat) (cv tv kv : Value) (t : Th) (s : Sc) (e : Ending) (w' : World) : Prop :=
  e = .returned (.tuple #[]) ∧ ScM Z w' mb mm mc b0 cv tv kv s ∧ ThB w' tb t ∧ Only (fun k => ¬ Z k ∨ k = tb) w w'
theorem PickPost.drew {Z : Nat → Prop} {w : World} {mb mm mc b0 tb : Nat} {cv tv kv : Value} {t : Th} {s : Sc} {e : Ending} {w' : World} (h : PickPost Z w mb mm mc b0 tb cv tv kv t s e w') : PickPost Z w mb mm mc b0 tb cv tv kv t s e w'.drew := ⟨h.1, h.2.1.drew, ⟨h.2.2.1.1, h.2.2.1.2⟩, on_drew h.2.2.2⟩
/-- What a pick keeps: what it had, and its own two blocks. -/
def Zp (Z : Nat → Prop) (h : Nat) : Nat → Prop := fun k => Z k ∨ k = h ∨ k = h + 1
/-- The world within a pick. -/
def PkW (Z : Nat → Prop) (w W : World) (mb mm mc b0 : Nat) (cv tv kv : Value) (n : Int) (s : Sc) : Prop :=
  ScM (Zp Z w.heap.size) W mb mm mc b0 cv tv kv s ∧ Only (fun k => ¬ Z k) w W ∧ W.heap[w.heap.size]? = some (.cells #[.int .i64 0, .int .i64 0] 55 (0, 0)) ∧ W.heap[w.heap.size + 1]? = some (.cells #[.int .i64 n, .func (.func 88) #[.pointer (some ⟨mb, 0, none⟩)] #[], .func (.func 89) #[] #[], .func (.func 90) #[.pointer (some ⟨mb, 0, none⟩)] #[], .func (.func 89) #[] #[], .func (.func 91) #[] #[], .func (.func 92) #[.pointer (some ⟨mb, 0, none⟩)] #[], .func (.func 93) #[.pointer (some ⟨mb, 0, none⟩)] #[], .func (.func 94) #[.pointer (some ⟨mb, 0, none⟩)] #[], .func (.func 91) #[] #[], .func (.func 95) #[.pointer (some ⟨mb, 0, none⟩)] #[]] 138 (0, 0)) ∧ ∃ mv ev wv, W.heap[mb]? = some (.cells #[cv, tv, mv, kv, ev, wv] 153 (0, 0))
theorem PkW.keep {Z F : Nat → Prop} {w W W' : World} {mb mm mc b0 : Nat} {cv tv kv : Value} {n : Int} {s : Sc} (h : PkW Z w W mb mm mc b0 cv tv kv n s) (ho : Only F W W') (hF : ∀ k, F k → W.heap.size ≤ k) : PkW Z w W' mb mm mc b0 cv tv kv n s := by
  obtain ⟨a, b, c, d, mv, ev, wv, e⟩ := h
  have lt : ∀ {k : Nat} {o : Obj}, W.heap[k]? = some o → W'.heap[k]? = some o := fun hk => by
    have hl := (Array.getElem?_eq_some_iff.1 hk).1
    exact (ho.block _ hl (fun hf => by have := hF _ hf; omega)).trans hk
  exact ⟨a.keep ho (fun k hf hl => by have := hF k hf; omega), ⟨ho.os.trans b.os, ho.tape.trans b.tape, ho.output.trans b.output, Nat.le_trans b.size ho.size, fun k hk hn => (ho.block k (Nat.lt_of_lt_of_le hk b.size) (fun hf => by have := hF k hf; have := b.size; omega)).trans (b.block k hk hn)⟩, lt c, lt d, mv, ev, wv, lt e⟩
theorem PkW.alloc {Z : Nat → Prop} {w W : World} {mb mm mc b0 : Nat} {cv tv kv : Value} {n : Int} {s : Sc} (h : PkW Z w W mb mm mc b0 cv tv kv n s) (X : Obj) : PkW Z w (W.alloc X) mb mm mc b0 cv tv kv n s := h.keep (F := fun _ => False) (on_alloc (Only.refl _ W) X) (fun _ e => e.elim)
theorem PkW.drew {Z : Nat → Prop} {w W : World} {mb mm mc b0 : Nat} {cv tv kv : Value} {n : Int} {s : Sc} (h : PkW Z w W mb mm mc b0 cv tv kv n s) : PkW Z w W.drew mb mm mc b0 cv tv kv n s := ⟨h.1.drew, on_drew h.2.1, h.2.2⟩
/-- The world in which a pick's step is asked. -/
theorem pkw0 {Z : Nat → Prop} {w : World} {mb mm mc b0 : Nat} {cv tv kv : Value} {s : Sc} (hM : ScM Z w mb mm mc b0 cv tv kv s) (hwho : s.who = 0) (n : Int) (nq : Nat) :
    PkW Z w ((((w.alloc (.cells #[.int .i64 0, .int .i64 0] 55 (0, 0))).drewN nq).setCell ⟨mb, 5, none⟩ (.int .i64 0)).alloc (.cells #[.int .i64 n, .func (.func 88) #[.pointer (some ⟨mb, 0, none⟩)] #[], .func (.func 89) #[] #[], .func (.func 90) #[.pointer (some ⟨mb, 0, none⟩)] #[], .func (.func 89) #[] #[], .func (.func 91) #[] #[], .func (.func 92) #[.pointer (some ⟨mb, 0, none⟩)] #[], .func (.func 93) #[.pointer (some ⟨mb, 0, none⟩)] #[], .func (.func 94) #[.pointer (some ⟨mb, 0, none⟩)] #[], .func (.func 91) #[] #[], .func (.func 95) #[.pointer (some ⟨mb, 0, none⟩)] #[]] 138 (0, 0))) mb mm mc b0 cv tv kv n s := by
  have hz := hM.2.2.2.1
  have hlt := hM.lt
  have hmm : mm < w.heap.size := hM.2.2.2.2.2.1
  have h1 : ScM Z ((w.alloc (.cells #[.int .i64 0, .int .i64 0] 55 (0, 0))).drewN nq) mb mm mc b0 cv tv kv s := (hM.alloc _).drewN nq
  obtain ⟨h2, ho2⟩ := h1.whos hwho
  have hs : (((w.alloc (.cells #[.int .i64 0, .int .i64 0] 55 (0, 0))).drewN nq).setCell ⟨mb, 5, none⟩ (.int .i64 0)).heap.size = w.heap.size + 1 := by simp
  have e0 : ((w.alloc (.cells #[.int .i64 0, .int .i64 0] 55 (0, 0))).drewN nq).heap[w.heap.size]? = some (.cells #[.int .i64 0, .int .i64 0] 55 (0, 0)) := heap_alloc_new _ _
  have e1 := (ho2.block w.heap.size (by simp) (by omega)).trans e0
  have ho0 : Only (fun k => ¬ Z k) w ((w.alloc (.cells #[.int .i64 0, .int .i64 0] 55 (0, 0))).drewN nq) := on_drewN (on_alloc (Only.refl _ w) _) nq
  have ho3 : Only (fun k => ¬ Z k) w (((w.alloc (.cells #[.int .i64 0, .int .i64 0] 55 (0, 0))).drewN nq).setCell ⟨mb, 5, none⟩ (.int .i64 0)) := ho0.trans ho2 (fun k e => by subst e; exact .inl hM.2.1)
  obtain ⟨mv, ev, wv, hb⟩ : ∃ mv ev wv, (((w.alloc (.cells #[.int .i64 0, .int .i64 0] 55 (0, 0))).drewN nq).setCell ⟨mb, 5, none⟩ (.int .i64 0)).heap[mb]? = some (.cells #[cv, tv, mv, kv, ev, wv] 153 (0, 0)) := by
    obtain ⟨_, _, _, _, _, _, ev, arr, hb, _⟩ := h2
    exact ⟨_, _, _, hb⟩
  have up : ∀ {W : World} {k : Nat} {o : Obj} (X : Obj), W.heap[k]? = some o → (W.alloc X).heap[k]? = some o := fun X hk => (Below.heap_alloc _ _ _ (Array.getElem?_eq_some_iff.1 hk).1).trans hk
  have e2 : ((((w.alloc (.cells #[.int .i64 0, .int .i64 0] 55 (0, 0))).drewN nq).setCell ⟨mb, 5, none⟩ (.int .i64 0)).alloc (.cells #[.int .i64 n, .func (.func 88) #[.pointer (some ⟨mb, 0, none⟩)] #[], .func (.func 89) #[] #[], .func (.func 90) #[.pointer (some ⟨mb, 0, none⟩)] #[], .func (.func 89) #[] #[], .func (.func 91) #[] #[], .func (.func 92) #[.pointer (some ⟨mb, 0, none⟩)] #[], .func (.func 93) #[.pointer (some ⟨mb, 0, none⟩)] #[], .func (.func 94) #[.pointer (some ⟨mb, 0, none⟩)] #[], .func (.func 91) #[] #[], .func (.func 95) #[.pointer (some ⟨mb, 0, none⟩)] #[]] 138 (0, 0))).heap[w.heap.size + 1]? = some (.cells #[.int .i64 n, .func (.func 88) #[.pointer (some ⟨mb, 0, none⟩)] #[], .func (.func 89) #[] #[], .func (.func 90) #[.pointer (some ⟨mb, 0, none⟩)] #[], .func (.func 89) #[] #[], .func (.func 91) #[] #[], .func (.func 92) #[.pointer (some ⟨mb, 0, none⟩)] #[], .func (.func 93) #[.pointer (some ⟨mb, 0, none⟩)] #[], .func (.func 94) #[.pointer (some ⟨mb, 0, none⟩)] #[], .func (.func 91) #[] #[], .func (.func 95) #[.pointer (some ⟨mb, 0, none⟩)] #[]] 138 (0, 0)) := by
    rw [← hs]; exact heap_alloc_new _ _
  refine ⟨((h2.alloc _).more (fun k hk => ?_)), on_alloc ho3 _, up _ e1, e2, mv, ev, wv, up _ hb⟩
  have hsz : ((((w.alloc (.cells #[.int .i64 0, .int .i64 0] 55 (0, 0))).drewN nq).setCell ⟨mb, 5, none⟩ (.int .i64 0)).alloc (.cells #[.int .i64 n, .func (.func 88) #[.pointer (some ⟨mb, 0, none⟩)] #[], .func (.func 89) #[] #[], .func (.func 90) #[.pointer (some ⟨mb, 0, none⟩)] #[], .func (.func 89) #[] #[], .func (.func 91) #[] #[], .func (.func 92) #[.pointer (some ⟨mb, 0, none⟩)] #[], .func (.func 93) #[.pointer (some ⟨mb, 0, none⟩)] #[], .func (.func 94) #[.pointer (some ⟨mb, 0, none⟩)] #[], .func (.func 91) #[] #[], .func (.func 95) #[.pointer (some ⟨mb, 0, none⟩)] #[]] 138 (0, 0))).heap.size = w.heap.size + 2 := by simp
  rw [hsz]
  rcases hk with hk | rfl | rfl
  · exact ⟨by have := hz k hk; omega, .inl hk⟩
  · exact ⟨by omega, .inr ⟨_, _, _, up _ e1, by decide, by omega, by omega⟩⟩
  · exact ⟨by omega, .inr ⟨_, _, _, e2, by decide, by omega, by omega⟩⟩
/-- What a pick reads. -/
theorem PkW.cells {Z : Nat → Prop} {w W : World} {mb mm mc b0 tb tcap cb ccap g len cap : Nat} {kv : Value} {s s1 : Sc} {pc r0 r1 r2 r3 r4 r5 r6 r7 : Int} (h : PkW Z w W mb mm mc b0 (.slice (some ⟨cb, 0, none⟩) 1 ccap) (.slice (some ⟨tb, 0, none⟩) 1 tcap) kv (s.mem.length : Int) s1) (hT : ThB w tb ⟨pc, [r0, r1, r2, r3, r4, r5, r6, r7], 0⟩) (hZt : Z tb) (hZc : Z cb) (hcb : w.cell? ⟨cb, 0, none⟩ = some (.slice (some ⟨g, 0, none⟩) len cap)) : W.cell? ⟨w.heap.size, 1, none⟩ = some (.int .i64 0) ∧ W.cell? ⟨mb, 1, none⟩ = some ((.slice (some ⟨tb, 0, none⟩) 1 tcap)) ∧ W.cell? ⟨mb, 0, none⟩ = some ((.slice (some ⟨cb, 0, none⟩) 1 ccap)) ∧ W.cell? ⟨cb, 0, none⟩ = some (.slice (some ⟨g, 0, none⟩) len cap) ∧ W.cell? ⟨tb, 0, none⟩ = some (.int .i64 pc) ∧ W.cell? ⟨tb, 1, none⟩ = some (.int .u32 r0) ∧ W.cell? ⟨tb, 2, none⟩ = some (.int .u32 r1) ∧ W.cell? ⟨tb, 3, none⟩ = some (.int .u32 r2) ∧ W.cell? ⟨tb, 4, none⟩ = some (.int .u32 r3) ∧ W.cell? ⟨tb, 5, none⟩ = some (.int .u32 r4) ∧ W.cell? ⟨tb, 6, none⟩ = some (.int .u32 r5) ∧ W.cell? ⟨tb, 7, none⟩ = some (.int .u32 r6) ∧ W.cell? ⟨tb, 8, none⟩ = some (.int .u32 r7) ∧ W.cell? ⟨tb, 9, none⟩ = some (.int .i64 0) ∧ W.cell? ⟨w.heap.size + 1, 0, none⟩ = some (.int .i64 (s.mem.length : Int)) ∧ W.cell? ⟨w.heap.size + 1, 1, none⟩ = some (.func (.func 88) #[.pointer (some ⟨mb, 0, none⟩)] #[]) ∧ W.cell? ⟨w.heap.size + 1, 2, none⟩ = some (.func (.func 89) #[] #[]) ∧ W.cell? ⟨w.heap.size + 1, 3, none⟩ = some (.func (.func 90) #[.pointer (some ⟨mb, 0, none⟩)] #[]) ∧ W.cell? ⟨w.heap.size + 1, 4, none⟩ = some (.func (.func 89) #[] #[]) ∧ W.cell? ⟨w.heap.size + 1, 5, none⟩ = some (.func (.func 91) #[] #[]) ∧ W.cell? ⟨w.heap.size + 1, 6, none⟩ = some (.func (.func 92) #[.pointer (some ⟨mb, 0, none⟩)] #[]) ∧ W.cell? ⟨w.heap.size + 1, 7, none⟩ = some (.func (.func 93) #[.pointer (some ⟨mb, 0, none⟩)] #[]) ∧ W.cell? ⟨w.heap.size + 1, 8, none⟩ = some (.func (.func 94) #[.pointer (some ⟨mb, 0, none⟩)] #[]) ∧ W.cell? ⟨w.heap.size + 1, 9, none⟩ = some (.func (.func 91) #[] #[]) ∧ W.cell? ⟨w.heap.size + 1, 10, none⟩ = some (.func (.func 95) #[.pointer (some ⟨mb, 0, none⟩)] #[]) := by
  obtain ⟨a, b, c, d, mv, ev, wv, e⟩ := h
  have hT2 : ThB W tb ⟨pc, [r0, r1, r2, r3, r4, r5, r6, r7], 0⟩ := hT.only b (fun h => h hZt)
  obtain ⟨c0, c1, c2, c3, c4, c5, c6, c7, c8, c9⟩ := hT2.cells
  have q := (World.cell?_of_block (w := w) (a := ⟨cb, 0, none⟩) (b.block cb (block_lt_of_cell hcb) (fun h => h hZc))).trans hcb
  exact ⟨cell_of_row W _ 1 _ _ _ c, cell_of_row W _ 1 _ _ _ e, cell_of_row W _ 0 _ _ _ e, q, c0, c1, c2, c3, c4, c5, c6, c7, c8, c9, cell_of_row W _ 0 _ _ _ d, cell_of_row W _ 1 _ _ _ d, cell_of_row W _ 2 _ _ _ d, cell_of_row W _ 3 _ _ _ d, cell_of_row W _ 4 _ _ _ d, cell_of_row W _ 5 _ _ _ d, cell_of_row W _ 6 _ _ _ d, cell_of_row W _ 7 _ _ _ d, cell_of_row W _ 8 _ _ _ d, cell_of_row W _ 9 _ _ _ d, cell_of_row W _ 10 _ _ _ d⟩
/-- Behind the step. -/
theorem PkW.called {Z Z' : Nat → Prop} {w W W' : World} {mb mm mc b0 : Nat} {cv tv kv : Value} {n : Int} {s s2 : Sc} (h : PkW Z w W mb mm mc b0 cv tv kv n s) (hz : ∀ k, Zp Z w.heap.size k → Z' k) (hM : ScM Z' W' mb mm mc b0 cv tv kv s2) (ho : Only (fun k => ¬ Z' k) W W') : PkW Z w W' mb mm mc b0 cv tv kv n s2 := by
  obtain ⟨a, b, c, d, mv, ev, wv, e⟩ := h
  have lt : ∀ {k : Nat} {o : Obj}, Zp Z w.heap.size k → W.heap[k]? = some o → W'.heap[k]? = some o := fun hk hh => (ho.block _ (Array.getElem?_eq_some_iff.1 hh).1 (fun hf => hf (hz _ hk))).trans hh
  refine ⟨hM.less hz, b.trans ho (fun k e => .inl (fun e2 => e (hz _ (.inl e2)))), lt (.inr (.inl rfl)) c, lt (.inr (.inr rfl)) d, ?_⟩
  obtain ⟨_, _, _, _, _, _, ev, arr, hb, _⟩ := hM
  exact ⟨_, _, _, hb⟩
theorem PkW.put {Z Z' : Nat → Prop} {w W W' : World} {mb mm mc b0 R : Nat} {cv tv kv : Value} {n : Int} {s : Sc} (h : PkW Z w W mb mm mc b0 cv tv kv n s) (hz : ∀ k, Zp Z w.heap.size k → Z' k) (hM : ScM Z' W mb mm mc b0 cv tv kv s) (hR : Z' R) (hn : w.heap.size + 2 ≤ R) (ho : Only (fun k => k = R) W W') : PkW Z w W' mb mm mc b0 cv tv kv n s := by
  obtain ⟨a, b, c, d, mv, ev, wv, e⟩ := h
  have hmb : mb ≠ R := fun e => hM.2.1 (e ▸ hR)
  have lt : ∀ {k : Nat} {o : Obj}, k ≠ R → W.heap[k]? = some o → W'.heap[k]? = some o := fun hk hh => (ho.block _ (Array.getElem?_eq_some_iff.1 hh).1 hk).trans hh
  exact ⟨(hM.keep ho (fun k e _ => by subst e; exact hR)).less hz, ⟨ho.os.trans b.os, ho.tape.trans b.tape, ho.output.trans b.output, Nat.le_trans b.size ho.size, fun k hk hn2 => (ho.block k (Nat.lt_of_lt_of_le hk b.size) (by omega)).trans (b.block k hk hn2)⟩, lt (by omega) c, lt (by omega) d, mv, ev, wv, lt hmb e⟩
/-- The thread is put back. -/
theorem PkW.done {Z : Nat → Prop} {w W : World} {mb mm mc b0 tb : Nat} {cv tv kv : Value} {n : Int} {s : Sc} {t : Th} (h : PkW Z w W mb mm mc b0 cv tv kv n s) (hT : ThB w tb t) (hZt : Z tb) (pc st q0 q1 q2 q3 q4 q5 q6 q7 : Int) :
    PickPost Z w mb mm mc b0 tb cv tv kv ⟨pc, [q0, q1, q2, q3, q4, q5, q6, q7], st⟩ s (.returned (.tuple #[])) ((((((((((W.setCell ⟨tb, 0, none⟩ (.int .i64 pc)).setCell ⟨tb, 1, none⟩ (.int .u32 q0)).setCell ⟨tb, 2, none⟩ (.int .u32 q1)).setCell ⟨tb, 3, none⟩ (.int .u32 q2)).setCell ⟨tb, 4, none⟩ (.int .u32 q3)).setCell ⟨tb, 5, none⟩ (.int .u32 q4)).setCell ⟨tb, 6, none⟩ (.int .u32 q5)).setCell ⟨tb, 7, none⟩ (.int .u32 q6)).setCell ⟨tb, 8, none⟩ (.int .u32 q7)).setCell ⟨tb, 9, none⟩ (.int .i64 st)) := by
  obtain ⟨a, b, c, d, e⟩ := h
  have hT2 := hT.only b (fun h => h hZt)
  obtain ⟨pc', regs, st'⟩ := t
  obtain ⟨hl, hb⟩ := hT2
  obtain ⟨o0, o1, o2, o3, o4, o5, o6, o7, rfl⟩ := list8 hl
  obtain ⟨hs1, hs2⟩ := set10 hb (.int .i64 pc) (.int .u32 q0) (.int .u32 q1) (.int .u32 q2) (.int .u32 q3) (.int .u32 q4) (.int .u32 q5) (.int .u32 q6) (.int .u32 q7) (.int .i64 st)
  refine ⟨rfl, ((a.keep hs2 (fun k e _ => ?_)).less (fun k e => .inl e)), ⟨rfl, hs1⟩, (b.mono (fun k e => .inl e)).trans hs2 (fun k e => .inl (.inr e))⟩
  subst e
  exact .inl hZt
/-- The thread's rows. -/
theorem ThB.fz {w : World} {tb : Nat} {t : Th} (h : ThB w tb t) (j : Nat) : w.frozen? ⟨tb, j, none⟩ = false := frozen_of_row w tb j _ _ h.2
set_option maxHeartbeats 4000000 in
theorem pick_walk (Z : Nat → Prop) (w : World) (mb mm mc b0 tb tcap cb ccap g len cap : Nat) (kv : Value) (s s2 : Sc) (pc pc2 st2 : Int) (r0 r1 r2 r3 r4 r5 r6 r7 q0 q1 q2 q3 q4 q5 q6 q7 : Int)
    (hM : ScM Z w mb mm mc b0 (.slice (some ⟨cb, 0, none⟩) 1 ccap) (.slice (some ⟨tb, 0, none⟩) 1 tcap) kv s) (hwho : s.who = 0) (hT : ThB w tb ⟨pc, [r0, r1, r2, r3, r4, r5, r6, r7], 0⟩) (hZt : Z tb) (hZc : Z cb) (hcb : w.cell? ⟨cb, 0, none⟩ = some (.slice (some ⟨g, 0, none⟩) len cap))
    (hC : ∀ (Z' : Nat → Prop) W, (∀ k, Z k → Z' k) → Only (fun k => ¬ Z k) w W → ScM Z' W mb mm mc b0 (.slice (some ⟨cb, 0, none⟩) 1 ccap) (.slice (some ⟨tb, 0, none⟩) 1 tcap) kv s → Calls Tryz.prog 69 #[.agg #[.int .i64 pc, .int .u32 r0, .int .u32 r1, .int .u32 r2, .int .u32 r3, .int .u32 r4, .int .u32 r5, .int .u32 r6, .int .u32 r7, .int .i64 0], .slice (some ⟨g, 0, none⟩) len cap, .agg #[.int .i64 (s.mem.length : Int), .func (.func 88) #[.pointer (some ⟨mb, 0, none⟩)] #[], .func (.func 89) #[] #[], .func (.func 90) #[.pointer (some ⟨mb, 0, none⟩)] #[], .func (.func 89) #[] #[], .func (.func 91) #[] #[], .func (.func 92) #[.pointer (some ⟨mb, 0, none⟩)] #[], .func (.func 93) #[.pointer (some ⟨mb, 0, none⟩)] #[], .func (.func 94) #[.pointer (some ⟨mb, 0, none⟩)] #[], .func (.func 91) #[] #[], .func (.func 95) #[.pointer (some ⟨mb, 0, none⟩)] #[]]] W (StepPost Z' W mb mm mc b0 (.slice (some ⟨cb, 0, none⟩) 1 ccap) (.slice (some ⟨tb, 0, none⟩) 1 tcap) kv ⟨pc2, [q0, q1, q2, q3, q4, q5, q6, q7], st2⟩ s2)) :
    Calls Tryz.prog 51 #[.pointer (some ⟨mb, 0, none⟩), .agg #[.int .i64 0, .int .i64 0]] w (PickPost Z w mb mm mc b0 tb (.slice (some ⟨cb, 0, none⟩) 1 ccap) (.slice (some ⟨tb, 0, none⟩) 1 tcap) kv ⟨pc2, [q0, q1, q2, q3, q4, q5, q6, q7], st2⟩ s2) := by
  have HM := Lib.hid hM
  have HT := Lib.hid hT
  have HZ := Lib.hid hZt
  have HC := Lib.hid hC
  have ntb : tb ≠ mb := fun e => hM.2.1 (e ▸ hZt)
  have ncb : cb ≠ mb := fun e => hM.2.1 (e ▸ hZc)
  have hlt := hM.lt
  have htlt : tb < w.heap.size := (Array.getElem?_eq_some_iff.1 hT.2).1
  have hclt : cb < w.heap.size := block_lt_of_cell hcb
  have HP := fun nq => Lib.hid (pkw0 hM hwho (s.mem.length : Int) nq)
  obtain ⟨_, _, _, _, _, hmm, ev, arr, hb, hm, _⟩ := hM
  have m0 : w.cell? ⟨mb, 0, none⟩ = some (.slice (some ⟨cb, 0, none⟩) 1 ccap) := cell_of_row w mb 0 _ _ _ hb
  have m1 : w.cell? ⟨mb, 1, none⟩ = some (.slice (some ⟨tb, 0, none⟩) 1 tcap) := cell_of_row w mb 1 _ _ _ hb
  have m2 : w.cell? ⟨mb, 2, none⟩ = some (.slice (some ⟨mm, 0, none⟩) s.mem.length mc) := cell_of_row w mb 2 _ _ _ hb
  have m5 : w.cell? ⟨mb, 5, none⟩ = some (.int .i64 s.who) := cell_of_row w mb 5 _ _ _ hb
  have f5 := frozen_of_row w mb 5 _ _ hb
  clear hb hm hT hC
  go_enter Tryz.func51, Tryz.ntmps51
  go_wp2_with fail
  go_quiet (fail)
  go_wp2_with fail
  have HP1 := HP nq
  clear HP m0 m1 m2 m5 f5
  obtain ⟨WR, hWR⟩ : ∃ WR, ((((w.alloc (.cells #[.int .i64 0, .int .i64 0] 55 (0, 0))).drewN nq).setCell ⟨mb, 5, none⟩ (.int .i64 0)).alloc (.cells #[.int .i64 (s.mem.length : Int), .func (.func 88) #[.pointer (some ⟨mb, 0, none⟩)] #[], .func (.func 89) #[] #[], .func (.func 90) #[.pointer (some ⟨mb, 0, none⟩)] #[], .func (.func 89) #[] #[], .func (.func 91) #[] #[], .func (.func 92) #[.pointer (some ⟨mb, 0, none⟩)] #[], .func (.func 93) #[.pointer (some ⟨mb, 0, none⟩)] #[], .func (.func 94) #[.pointer (some ⟨mb, 0, none⟩)] #[], .func (.func 91) #[] #[], .func (.func 95) #[.pointer (some ⟨mb, 0, none⟩)] #[]] 138 (0, 0))) = WR := ⟨_, rfl⟩
  rw [hWR] at HP1 ⊢
  clear hWR
  have hK := fun (W : World) (s1 : Sc) (h : PkW Z w W mb mm mc b0 (.slice (some ⟨cb, 0, none⟩) 1 ccap) (.slice (some ⟨tb, 0, none⟩) 1 tcap) kv (s.mem.length : Int) s1) => h.cells HT.out hZt hZc hcb
  have hCA := fun (Z' : Nat → Prop) W h1 h2 h3 => (HC.out Z' W h1 h2 h3).mono (R' := fun e w' => e = .returned (.agg #[.int .i64 pc2, .int .u32 q0, .int .u32 q1, .int .u32 q2, .int .u32 q3, .int .u32 q4, .int .u32 q5, .int .u32 q6, .int .u32 q7, .int .i64 st2]) ∧ ScM Z' w' mb mm mc b0 (.slice (some ⟨cb, 0, none⟩) 1 ccap) (.slice (some ⟨tb, 0, none⟩) 1 tcap) kv s2 ∧ Only (fun k => ¬ Z' k) W w') (fun e w' h => ⟨h.1, h.2.2.1, h.2.2.2⟩)
  have HPB := Lib.hid (PkW.drew (PkW.alloc HP1.out (.cells #[.int .i64 0, .int .u32 0, .int .u32 0, .int .u32 0, .int .u32 0, .int .u32 0, .int .u32 0, .int .u32 0, .int .u32 0, .int .i64 0] 107 (0, 0))))
  have hCB := hCA (fun k => Zp Z w.heap.size k ∨ k = WR.heap.size) ((WR.alloc (.cells #[.int .i64 0, .int .u32 0, .int .u32 0, .int .u32 0, .int .u32 0, .int .u32 0, .int .u32 0, .int .u32 0, .int .u32 0, .int .i64 0] 107 (0, 0))).drew) (fun k h => .inl (.inl h)) HPB.out.2.1 (ScM.drew (HP1.out.1.guard _ _ (by decide)))
  have hCD := hCA (Zp Z w.heap.size) WR.drew (fun k h => .inl h) HP1.out.drew.2.1 HP1.out.drew.1
  have hszR : w.heap.size + 2 ≤ WR.heap.size := (Array.getElem?_eq_some_iff.1 HP1.out.2.2.2.1).1
  obtain ⟨k0, k1, k2, k3, k4, k5, k6, k7, k8, k9, k10, k11, k12, k13, k14, k15, k16, k17, k18, k19, k20, k21, k22, k23, k24⟩ := hK _ _ HP1.out.drew
  obtain ⟨kb0, kb1, kb2, kb3, kb4, kb5, kb6, kb7, kb8, kb9, kb10, kb11, kb12, kb13, kb14, kb15, kb16, kb17, kb18, kb19, kb20, kb21, kb22, kb23, kb24⟩ := hK _ _ HPB.out
  go_region_held3 (fun w' => w'.cell? ⟨w.heap.size, 1, none⟩ = some (.int .i64 0) ∧ w'.cell? ⟨mb, 1, none⟩ = some ((.slice (some ⟨tb, 0, none⟩) 1 tcap)) ∧ w'.cell? ⟨mb, 0, none⟩ = some ((.slice (some ⟨cb, 0, none⟩) 1 ccap)) ∧ w'.cell? ⟨cb, 0, none⟩ = some (.slice (some ⟨g, 0, none⟩) len cap) ∧ w'.cell? ⟨tb, 0, none⟩ = some (.int .i64 pc) ∧ w'.cell? ⟨tb, 1, none⟩ = some (.int .u32 r0) ∧ w'.cell? ⟨tb, 2, none⟩ = some (.int .u32 r1) ∧ w'.cell? ⟨tb, 3, none⟩ = some (.int .u32 r2) ∧ w'.cell? ⟨tb, 4, none⟩ = some (.int .u32 r3) ∧ w'.cell? ⟨tb, 5, none⟩ = some (.int .u32 r4) ∧ w'.cell? ⟨tb, 6, none⟩ = some (.int .u32 r5) ∧ w'.cell? ⟨tb, 7, none⟩ = some (.int .u32 r6) ∧ w'.cell? ⟨tb, 8, none⟩ = some (.int .u32 r7) ∧ w'.cell? ⟨tb, 9, none⟩ = some (.int .i64 0) ∧ w'.cell? ⟨w.heap.size + 1, 0, none⟩ = some (.int .i64 (s.mem.length : Int)) ∧ w'.cell? ⟨w.heap.size + 1, 1, none⟩ = some (.func (.func 88) #[.pointer (some ⟨mb, 0, none⟩)] #[]) ∧ w'.cell? ⟨w.heap.size + 1, 2, none⟩ = some (.func (.func 89) #[] #[]) ∧ w'.cell? ⟨w.heap.size + 1, 3, none⟩ = some (.func (.func 90) #[.pointer (some ⟨mb, 0, none⟩)] #[]) ∧ w'.cell? ⟨w.heap.size + 1, 4, none⟩ = some (.func (.func 89) #[] #[]) ∧ w'.cell? ⟨w.heap.size + 1, 5, none⟩ = some (.func (.func 91) #[] #[]) ∧ w'.cell? ⟨w.heap.size + 1, 6, none⟩ = some (.func (.func 92) #[.pointer (some ⟨mb, 0, none⟩)] #[]) ∧ w'.cell? ⟨w.heap.size + 1, 7, none⟩ = some (.func (.func 93) #[.pointer (some ⟨mb, 0, none⟩)] #[]) ∧ w'.cell? ⟨w.heap.size + 1, 8, none⟩ = some (.func (.func 94) #[.pointer (some ⟨mb, 0, none⟩)] #[]) ∧ w'.cell? ⟨w.heap.size + 1, 9, none⟩ = some (.func (.func 91) #[] #[]) ∧ w'.cell? ⟨w.heap.size + 1, 10, none⟩ = some (.func (.func 95) #[.pointer (some ⟨mb, 0, none⟩)] #[])) ((repeat' (refine And.intro ?_ ?_)) <;> first | with_reducible assumption | (with_reducible refine alloc_cell1 ?_; with_reducible assumption) | (with_reducible refine set10_cell ?_ ?_; (with_reducible assumption); (dsimp only; omega))) (first | (go_at_call 69; with_reducible refine hCD.mono ?_; rintro r w2 ⟨rfl, hM2, hO2⟩; have HP2 := Lib.hid (PkW.called HP1.out.drew (fun _ h => h) hM2 hO2); obtain ⟨e0, e1, e2, e3, e4, e5, e6, e7, e8, e9, e10, e11, e12, e13, e14, e15, e16, e17, e18, e19, e20, e21, e22, e23, e24⟩ := hK _ _ HP2.out) | (go_at_call 69; with_reducible refine hCB.mono ?_; rintro r w2 ⟨rfl, hM2, hO2⟩; have HP2 := Lib.hid (PkW.called HPB.out (fun _ h => .inl h) hM2 hO2); obtain ⟨e0, e1, e2, e3, e4, e5, e6, e7, e8, e9, e10, e11, e12, e13, e14, e15, e16, e17, e18, e19, e20, e21, e22, e23, e24⟩ := hK _ _ HP2.out; have hTB : w2.heap[WR.heap.size]? = some (.cells #[.int .i64 0, .int .u32 0, .int .u32 0, .int .u32 0, .int .u32 0, .int .u32 0, .int .u32 0, .int .u32 0, .int .u32 0, .int .i64 0] 107 (0, 0)) := (hO2.block WR.heap.size (by simp) (fun e => absurd (Or.inr rfl) e)).trans (heap_alloc_new _ _); obtain ⟨v0, v1, v2, v3, v4, v5, v6, v7, v8, v9⟩ := cells10 hTB; have g0 := frozen_of_row w2 WR.heap.size 0 _ _ hTB; have g1 := frozen_of_row w2 WR.heap.size 1 _ _ hTB; have g2 := frozen_of_row w2 WR.heap.size 2 _ _ hTB; have g3 := frozen_of_row w2 WR.heap.size 3 _ _ hTB; have g4 := frozen_of_row w2 WR.heap.size 4 _ _ hTB; have g5 := frozen_of_row w2 WR.heap.size 5 _ _ hTB; have g6 := frozen_of_row w2 WR.heap.size 6 _ _ hTB; have g7 := frozen_of_row w2 WR.heap.size 7 _ _ hTB; have g8 := frozen_of_row w2 WR.heap.size 8 _ _ hTB; have g9 := frozen_of_row w2 WR.heap.size 9 _ _ hTB; have HTB := Lib.hid hTB; have HM2 := Lib.hid hM2))
  · have HPF := Lib.hid (PkW.alloc HP2.out (.cells #[.int .i64 pc2, .int .u32 q0, .int .u32 q1, .int .u32 q2, .int .u32 q3, .int .u32 q4, .int .u32 q5, .int .u32 q6, .int .u32 q7, .int .i64 st2] 107 (0, 0)))
    have hTF := HT.out.only HPF.out.2.1 (fun h => h hZt)
    have hTB : (w2.alloc (.cells #[.int .i64 pc2, .int .u32 q0, .int .u32 q1, .int .u32 q2, .int .u32 q3, .int .u32 q4, .int .u32 q5, .int .u32 q6, .int .u32 q7, .int .i64 st2] 107 (0, 0))).heap[w2.heap.size]? = some (.cells #[.int .i64 pc2, .int .u32 q0, .int .u32 q1, .int .u32 q2, .int .u32 q3, .int .u32 q4, .int .u32 q5, .int .u32 q6, .int .u32 q7, .int .i64 st2] 107 (0, 0)) := heap_alloc_new _ _
    obtain ⟨z0, z1, z2, z3, z4, z5, z6, z7, z8, z9, z10, z11, z12, z13, z14, z15, z16, z17, z18, z19, z20, z21, z22, z23, z24⟩ := hK _ _ HPF.out
    obtain ⟨v0, v1, v2, v3, v4, v5, v6, v7, v8, v9⟩ := cells10 hTB
    have f0 := hTF.fz 0; have f1 := hTF.fz 1; have f2 := hTF.fz 2; have f3 := hTF.fz 3; have f4 := hTF.fz 4; have f5 := hTF.fz 5; have f6 := hTF.fz 6; have f7 := hTF.fz 7; have f8 := hTF.fz 8; have f9 := hTF.fz 9
    generalize (w2.alloc (.cells #[.int .i64 pc2, .int .u32 q0, .int .u32 q1, .int .u32 q2, .int .u32 q3, .int .u32 q4, .int .u32 q5, .int .u32 q6, .int .u32 q7, .int .i64 st2] 107 (0, 0))) = WF at *
    go_wp2_with fail
    go_still_tail 8, (by kernel_rfl)
    change wpList _ _ _ _ _ WF.drew
    go_wp2_with fail
    go_end0
    exact PickPost.drew (PkW.done HPF.out HT.out hZt pc2 st2 q0 q1 q2 q3 q4 q5 q6 q7)
  · obtain ⟨hTB, hOT⟩ := set10 HTB.out (.int .i64 pc2) (.int .u32 q0) (.int .u32 q1) (.int .u32 q2) (.int .u32 q3) (.int .u32 q4) (.int .u32 q5) (.int .u32 q6) (.int .u32 q7) (.int .i64 st2)
    have HPF := Lib.hid (PkW.put HP2.out (fun k h => .inl h) HM2.out (.inr rfl) hszR hOT)
    have hTF := HT.out.only HPF.out.2.1 (fun h => h hZt)
    obtain ⟨z0, z1, z2, z3, z4, z5, z6, z7, z8, z9, z10, z11, z12, z13, z14, z15, z16, z17, z18, z19, z20, z21, z22, z23, z24⟩ := hK _ _ HPF.out
    obtain ⟨v0, v1, v2, v3, v4, v5, v6, v7, v8, v9⟩ := cells10 hTB
    have f0 := hTF.fz 0; have f1 := hTF.fz 1; have f2 := hTF.fz 2; have f3 := hTF.fz 3; have f4 := hTF.fz 4; have f5 := hTF.fz 5; have f6 := hTF.fz 6; have f7 := hTF.fz 7; have f8 := hTF.fz 8; have f9 := hTF.fz 9
    generalize ((((((((((w2.setCell ⟨WR.heap.size, 0, none⟩ (.int .i64 pc2)).setCell ⟨WR.heap.size, 1, none⟩ (.int .u32 q0)).setCell ⟨WR.heap.size, 2, none⟩ (.int .u32 q1)).setCell ⟨WR.heap.size, 3, none⟩ (.int .u32 q2)).setCell ⟨WR.heap.size, 4, none⟩ (.int .u32 q3)).setCell ⟨WR.heap.size, 5, none⟩ (.int .u32 q4)).setCell ⟨WR.heap.size, 6, none⟩ (.int .u32 q5)).setCell ⟨WR.heap.size, 7, none⟩ (.int .u32 q6)).setCell ⟨WR.heap.size, 8, none⟩ (.int .u32 q7)).setCell ⟨WR.heap.size, 9, none⟩ (.int .i64 st2)) = WF at *
    go_wp2_with fail
    go_still_tail 8, (by kernel_rfl)
    change wpList _ _ _ _ _ WF.drew
    go_wp2_with fail
    go_end0
    exact PickPost.drew (PkW.done HPF.out HT.out hZt pc2 st2 q0 q1 q2 q3 q4 q5 q6 q7)
end Go.Proofs.YtackbadmcgjncaaGreatDoor.As
