/- The walks of the package asm: a line that is given up. -/
import Derived.Test.YtlopmejmionnpaaDoorPaJ
import Derived.Test.YtlopmejmionnpaaDoorBlk
import Derived.Defers
import Derived.Recover
set_option linter.unusedVariables false
set_option linter.unusedSimpArgs false
namespace Go.Proofs.YtlopmejmionnpaaDoor.As
open Go.RowKit

def zeroI : Ins := ⟨0, 0, 0, 0, 0⟩
/-- What the deferred function lays into the results. -/
def laidW (w : World) (b0 b1 b2 : Nat) : World :=
  ((((((w.setCell ⟨b0, 0, none⟩ (.int .i64 0)).setCell ⟨b0, 1, none⟩ (.int .i64 0)).setCell ⟨b0, 2, none⟩ (.int .i64 0)).setCell ⟨b0, 3, none⟩ (.int .i64 0)).setCell ⟨b0, 4, none⟩ (.int .u32 0)).setCell ⟨b1, 0, none⟩ (.string { data := #[] })).setCell ⟨b2, 0, none⟩ (.bool false)
theorem caught (b0 b1 b2 : Nat) (u : TypeId) (pv : Value) (older : List PanicEntry) (w : World) (i : Ins) (t : Value) (k : Value) (h0 : Blk w b0 i) (h1 : w.heap[b1]? = some (.cells #[t] 9 (0, 0))) (h2 : w.heap[b2]? = some (.cells #[k] 4 (0, 0))) (n1 : b1 ≠ b0) (n2 : b2 ≠ b0) (n3 : b2 ≠ b1) :
    CallsD Tryd.prog 45 #[.pointer (some ⟨b0, 0, none⟩), .pointer (some ⟨b1, 0, none⟩), .pointer (some ⟨b2, 0, none⟩)] (.panicking ({ v := .iface u pv, recovered := false } :: older)) w fun e u' w' =>
      e = .returned (.tuple #[]) ∧ u' = .panicking ({ v := .iface u pv, recovered := true } :: older) ∧ w' = laidW w b0 b1 b2 := by
  obtain ⟨c0, c1, c2, c3, c4⟩ := h0.c
  have f0 := h0.f 0
  have f1 := h0.f 1
  have f2 := h0.f 2
  have f3 := h0.f 3
  have f4 := h0.f 4
  have d1 := cell_of_row w b1 0 _ _ _ h1
  have d2 := cell_of_row w b2 0 _ _ _ h2
  have g1 := frozen_of_row w b1 0 _ _ h1
  have g2 := frozen_of_row w b2 0 _ _ h2
  simp at d1 d2
  have x1 : (w.setCell ⟨b0, 0, none⟩ (.int .i64 0)).cell? ⟨b1, 0, none⟩ = some t := by rw [World.cell?_setCell_other _ _ _ _ (by simp [n1])]; exact d1
  have x2 : ((((((w.setCell ⟨b0, 0, none⟩ (.int .i64 0)).setCell ⟨b0, 1, none⟩ (.int .i64 0)).setCell ⟨b0, 2, none⟩ (.int .i64 0)).setCell ⟨b0, 3, none⟩ (.int .i64 0)).setCell ⟨b0, 4, none⟩ (.int .u32 0)).setCell ⟨b1, 0, none⟩ (.string { data := #[] })).cell? ⟨b2, 0, none⟩ = some k := by
    rw [World.cell?_setCell_other _ _ _ _ (by simp [n3]), World.cell?_setCell_other _ _ _ _ (by simp [n2]), World.cell?_setCell_other _ _ _ _ (by simp [n2]), World.cell?_setCell_other _ _ _ _ (by simp [n2]), World.cell?_setCell_other _ _ _ _ (by simp [n2]), World.cell?_setCell_other _ _ _ _ (by simp [n2])]; exact d2
  refine callsD_of_wpS Tryd.func45 rfl fun c₀ cs hu => ?_
  apply wpS_seq
  apply wpS_region
  simp [wpOpsS, go_sem, recoverD, hu, Tryd.ntmps45, Exit.thenS]
  refine wpS_cond (t := true) (by simp [Act.eval, Array.replicate]) ?_
  simp only [if_true]
  apply wpS_region
  simp [wpOpsS, go_sem, c0, c1, c2, c3, c4, f0, f1, f2, f3, f4, x1, x2, g1, g2, bodyPostS, results, Tryd.results45, laidW]
theorem caught_not (b0 b1 b2 : Nat) (w : World) :
    CallsD Tryd.prog 45 #[.pointer (some ⟨b0, 0, none⟩), .pointer (some ⟨b1, 0, none⟩), .pointer (some ⟨b2, 0, none⟩)] .returning w fun e u' w' => e = .returned (.tuple #[]) ∧ u' = .returning ∧ w' = w := by
  refine callsD_of_wpS Tryd.func45 rfl fun c₀ cs hu => ?_
  apply wpS_seq
  apply wpS_region
  simp [wpOpsS, go_sem, recoverD, hu, Tryd.ntmps45, Exit.thenS]
  refine wpS_cond (t := false) (by simp [Act.eval, Array.replicate]) ?_
  simp only [Bool.false_eq_true, if_false]
  refine wpS_of_wp (wp_skip ?_)
  cases c₀
  simp_all [bodyPostS, results, Tryd.results45]

/-- What a line's reading answers. -/
def ReadR (o : Option (Ins × B8)) (w : World) (e : Ending) (w' : World) : Prop :=
  e = .returned (.tuple #[.agg (o.elim zeroI (·.1)).cells.toArray, .string ⟨(o.elim [] (·.2)).toArray⟩, .bool o.isSome]) ∧ Below w.heap.size w w'
/-- The results' blocks. -/
structure Res (w : World) (b0 b1 b2 : Nat) (i : Ins) (t : B8) (k : Bool) : Prop where
  i0 : Blk w b0 i
  h1 : w.heap[b1]? = some (.cells #[.string ⟨t.toArray⟩] 9 (0, 0))
  h2 : w.heap[b2]? = some (.cells #[.bool k] 4 (0, 0))
  n1 : b1 ≠ b0
  n2 : b2 ≠ b0
  n3 : b2 ≠ b1
theorem Res.only {w w' : World} {b0 b1 b2 R : Nat} {i : Ins} {t : B8} {k : Bool} (h : Res w b0 b1 b2 i t k) (ho : Only (AtR R) w w') (hR : b0 ≠ R ∧ b1 ≠ R ∧ b2 ≠ R) : Res w' b0 b1 b2 i t k :=
  ⟨(ho.block b0 h.i0.lt hR.1).trans h.i0, (ho.block b1 (Array.getElem?_eq_some_iff.1 h.h1).1 hR.2.1).trans h.h1, (ho.block b2 (Array.getElem?_eq_some_iff.1 h.h2).1 hR.2.2).trans h.h2, h.n1, h.n2, h.n3⟩
theorem res_laid {w : World} {b0 b1 b2 : Nat} {i : Ins} {t : B8} {k : Bool} (h : Res w b0 b1 b2 i t k) : Res (laidW w b0 b1 b2) b0 b1 b2 zeroI [] false := by
  obtain ⟨i0, h1, h2, n1, n2, n3⟩ := h
  have a := ((((i0.set0 0).set1 0).set2 0).set3 0).set4 0
  have b : (((((w.setCell ⟨b0, 0, none⟩ (.int .i64 0)).setCell ⟨b0, 1, none⟩ (.int .i64 0)).setCell ⟨b0, 2, none⟩ (.int .i64 0)).setCell ⟨b0, 3, none⟩ (.int .i64 0)).setCell ⟨b0, 4, none⟩ (.int .u32 0)).heap[b1]? = w.heap[b1]? := by
    rw [heap_setCell_other _ _ _ _ n1, heap_setCell_other _ _ _ _ n1, heap_setCell_other _ _ _ _ n1, heap_setCell_other _ _ _ _ n1, heap_setCell_other _ _ _ _ n1]
  have c : (((((w.setCell ⟨b0, 0, none⟩ (.int .i64 0)).setCell ⟨b0, 1, none⟩ (.int .i64 0)).setCell ⟨b0, 2, none⟩ (.int .i64 0)).setCell ⟨b0, 3, none⟩ (.int .i64 0)).setCell ⟨b0, 4, none⟩ (.int .u32 0)).heap[b2]? = w.heap[b2]? := by
    rw [heap_setCell_other _ _ _ _ n2, heap_setCell_other _ _ _ _ n2, heap_setCell_other _ _ _ _ n2, heap_setCell_other _ _ _ _ n2, heap_setCell_other _ _ _ _ n2]
  unfold laidW
  generalize ((((w.setCell ⟨b0, 0, none⟩ (.int .i64 0)).setCell ⟨b0, 1, none⟩ (.int .i64 0)).setCell ⟨b0, 2, none⟩ (.int .i64 0)).setCell ⟨b0, 3, none⟩ (.int .i64 0)).setCell ⟨b0, 4, none⟩ (.int .u32 0) = W at a b c ⊢
  refine ⟨(a.other _ (Ne.symm n1)).other _ (Ne.symm n2), ?_, ?_, n1, n2, n3⟩
  · rw [heap_setCell_other _ _ _ _ (Ne.symm n3), heap_setCell_same _ _ _ _ _ _ (b.trans h1)]; rfl
  · rw [heap_setCell_same _ _ _ _ _ _ ((heap_setCell_other _ _ _ _ n3).trans (c.trans h2))]; rfl
theorem below_laid {w0 w : World} {b0 b1 b2 : Nat} (h : Below w0.heap.size w0 w) (hb : w0.heap.size ≤ b0 ∧ w0.heap.size ≤ b1 ∧ w0.heap.size ≤ b2) : Below w0.heap.size w0 (laidW w b0 b1 b2) :=
  ((((((h.setCell hb.1 _).setCell hb.1 _).setCell hb.1 _).setCell hb.1 _).setCell hb.1 _).setCell hb.2.1 _).setCell hb.2.2 _
theorem res_read {w : World} {b0 b1 b2 : Nat} {i : Ins} {t : B8} {k : Bool} (h : Res w b0 b1 b2 i t k) (tmps : Array Value) (h2 : tmps.getD 2 undef = .pointer (some ⟨b0, 0, none⟩)) (h3 : tmps.getD 3 undef = .pointer (some ⟨b1, 0, none⟩)) (h4 : tmps.getD 4 undef = .pointer (some ⟨b2, 0, none⟩)) :
    (results Tryd.f31 tmps).run Tryd.prog w = .ok (.tuple #[.agg i.cells.toArray, .string ⟨t.toArray⟩, .bool k]) w := by
  obtain ⟨c0, c1, c2, c3, c4⟩ := h.i0.c
  have d1 := cell_of_row w b1 0 _ _ _ h.h1
  have d2 := cell_of_row w b2 0 _ _ _ h.h2
  simp at d1 d2
  have e2 : tmps[2]?.getD undef = .pointer (some ⟨b0, 0, none⟩) := by simpa using h2
  have e3 : tmps[3]?.getD undef = .pointer (some ⟨b1, 0, none⟩) := by simpa using h3
  have e4 : tmps[4]?.getD undef = .pointer (some ⟨b2, 0, none⟩) := by simpa using h4
  simp [results, Tryd.results31, go_sem, e2, e3, e4, c0, c1, c2, c3, c4, d1, d2, asAddr, Ins.cells]
def dfr (b0 b1 b2 : Nat) : Deferred := { target := .fn (.func 45) #[.pointer (some ⟨b0, 0, none⟩), .pointer (some ⟨b1, 0, none⟩), .pointer (some ⟨b2, 0, none⟩)], args := #[] }
theorem leave_gave {w0 W : World} {b0 b1 b2 : Nat} {i : Ins} {t : B8} {k : Bool} (h : Res W b0 b1 b2 i t k) (hB : Below w0.heap.size w0 W) (hb : w0.heap.size ≤ b0 ∧ w0.heap.size ≤ b1 ∧ w0.heap.size ≤ b2) (tmps : Array Value)
    (h2 : tmps.getD 2 undef = .pointer (some ⟨b0, 0, none⟩)) (h3 : tmps.getD 3 undef = .pointer (some ⟨b1, 0, none⟩)) (h4 : tmps.getD 4 undef = .pointer (some ⟨b2, 0, none⟩)) :
    Leaves Tryd.prog Tryd.f31 tmps (ReadR none w0) [dfr b0 b1 b2] (.panicking [{ v := .iface 111 (.agg #[]), recovered := false }]) W := by
  refine leaves_cons (f := 45) (args := #[.pointer (some ⟨b0, 0, none⟩), .pointer (some ⟨b1, 0, none⟩), .pointer (some ⟨b2, 0, none⟩)]) (by simp) (by simp [go_sem]) ?_
  refine (caught b0 b1 b2 _ _ [] W i _ _ h.i0 h.h1 h.h2 h.n1 h.n2 h.n3).mono ?_
  rintro e u' w'' ⟨rfl, rfl, rfl⟩
  exact ⟨_, res_read (res_laid h) tmps h2 h3 h4, rfl, below_laid hB hb⟩
theorem leave_good {w0 W : World} {b0 b1 b2 : Nat} {i : Ins} {t : B8} (h : Res W b0 b1 b2 i t true) (hB : Below w0.heap.size w0 W) (tmps : Array Value)
    (h2 : tmps.getD 2 undef = .pointer (some ⟨b0, 0, none⟩)) (h3 : tmps.getD 3 undef = .pointer (some ⟨b1, 0, none⟩)) (h4 : tmps.getD 4 undef = .pointer (some ⟨b2, 0, none⟩)) :
    Leaves Tryd.prog Tryd.f31 tmps (ReadR (some (i, t)) w0) [dfr b0 b1 b2] .returning W := by
  refine leaves_cons (f := 45) (args := #[.pointer (some ⟨b0, 0, none⟩), .pointer (some ⟨b1, 0, none⟩), .pointer (some ⟨b2, 0, none⟩)]) (by simp) (by simp [go_sem]) ?_
  refine (caught_not b0 b1 b2 W).mono ?_
  rintro e u' w'' ⟨rfl, rfl, rfl⟩
  exact ⟨_, res_read h tmps h2 h3 h4, rfl, hB⟩
end Go.Proofs.YtlopmejmionnpaaDoor.As
