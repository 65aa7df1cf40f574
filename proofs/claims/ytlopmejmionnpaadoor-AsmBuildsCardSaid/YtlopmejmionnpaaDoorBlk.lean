/- An instruction that lies in a block of its own. -/
import Derived.Test.YtlopmejmionnpaaDoorRd
set_option linter.unusedVariables false
namespace Go.Proofs.YtlopmejmionnpaaDoor.As
open Go.RowKit

/-- What a line is read as, as a value. -/
def Ins.val (i : Ins) : Value := .agg #[.int .i64 i.op, .int .i64 i.a, .int .i64 i.b, .int .i64 i.c, .int .u32 i.k]
/-- An instruction that lies in a block of its own. -/
def Blk (w : World) (R : Nat) (i : Ins) : Prop := w.heap[R]? = some (.cells #[.int .i64 i.op, .int .i64 i.a, .int .i64 i.b, .int .i64 i.c, .int .u32 i.k] 34 (0, 0))
theorem Blk.lt {w : World} {R : Nat} {i : Ins} (h : Blk w R i) : R < w.heap.size := (Array.getElem?_eq_some_iff.1 h).1
theorem Blk.c {w : World} {R : Nat} {i : Ins} (h : Blk w R i) : w.cell? ⟨R, 0, none⟩ = some (.int .i64 i.op) ∧ w.cell? ⟨R, 1, none⟩ = some (.int .i64 i.a) ∧ w.cell? ⟨R, 2, none⟩ = some (.int .i64 i.b) ∧ w.cell? ⟨R, 3, none⟩ = some (.int .i64 i.c) ∧ w.cell? ⟨R, 4, none⟩ = some (.int .u32 i.k) := by
  unfold Blk at h
  simp [World.cell?, h]
theorem Blk.f {w : World} {R : Nat} {i : Ins} (h : Blk w R i) (j : Nat) : w.frozen? ⟨R, j, none⟩ = false := by
  unfold Blk at h
  simp [World.frozen?, h]
theorem Blk.below {B : Nat} {w w' : World} {R : Nat} {i : Ins} (h : Blk w R i) (hb : Below B w w') (hB : R < B) : Blk w' R i := (hb.block R hB).trans h
theorem Blk.new (w : World) (i : Ins) : Blk (w.alloc (.cells #[.int .i64 i.op, .int .i64 i.a, .int .i64 i.b, .int .i64 i.c, .int .u32 i.k] 34)) w.heap.size i := heap_alloc_new _ _
theorem Blk.alloc {w : World} {R : Nat} {i : Ins} (h : Blk w R i) (o : Obj) : Blk (w.alloc o) R i := (Below.heap_alloc _ _ _ h.lt).trans h

theorem Blk.set0 {w : World} {R : Nat} {i : Ins} (h : Blk w R i) (v : Int) : Blk (w.setCell ⟨R, 0, none⟩ (.int .i64 v)) R { i with op := v } := (heap_setCell_same w R 0 _ _ _ h).trans (by simp)
theorem Blk.set1 {w : World} {R : Nat} {i : Ins} (h : Blk w R i) (v : Int) : Blk (w.setCell ⟨R, 1, none⟩ (.int .i64 v)) R { i with a := v } := (heap_setCell_same w R 1 _ _ _ h).trans (by simp)
theorem Blk.set2 {w : World} {R : Nat} {i : Ins} (h : Blk w R i) (v : Int) : Blk (w.setCell ⟨R, 2, none⟩ (.int .i64 v)) R { i with b := v } := (heap_setCell_same w R 2 _ _ _ h).trans (by simp)
theorem Blk.set3 {w : World} {R : Nat} {i : Ins} (h : Blk w R i) (v : Int) : Blk (w.setCell ⟨R, 3, none⟩ (.int .i64 v)) R { i with c := v } := (heap_setCell_same w R 3 _ _ _ h).trans (by simp)
theorem Blk.set4 {w : World} {R : Nat} {i : Ins} (h : Blk w R i) (v : Int) : Blk (w.setCell ⟨R, 4, none⟩ (.int .u32 v)) R { i with k := v } := (heap_setCell_same w R 4 _ _ _ h).trans (by simp)
theorem Blk.other {w : World} {R b j : Nat} {i : Ins} (h : Blk w R i) (u : Value) (hb : R ≠ b) : Blk (w.setCell ⟨b, j, none⟩ u) R i := (Below.heap_setCell _ _ _ _ hb).trans h
theorem Blk.all {w : World} {R : Nat} {o : Ins} (h : Blk w R o) (i : Ins) :
    Blk (((((w.setCell ⟨R, 0, none⟩ (.int .i64 i.op)).setCell ⟨R, 1, none⟩ (.int .i64 i.a)).setCell ⟨R, 2, none⟩ (.int .i64 i.b)).setCell ⟨R, 3, none⟩ (.int .i64 i.c)).setCell ⟨R, 4, none⟩ (.int .u32 i.k)) R i :=
  ((((h.set0 i.op).set1 i.a).set2 i.b).set3 i.c).set4 i.k
theorem below_all {B : Nat} {w w' : World} {R : Nat} (h : Below B w w') (hR : B ≤ R) (i : Ins) :
    Below B w (((((w'.setCell ⟨R, 0, none⟩ (.int .i64 i.op)).setCell ⟨R, 1, none⟩ (.int .i64 i.a)).setCell ⟨R, 2, none⟩ (.int .i64 i.b)).setCell ⟨R, 3, none⟩ (.int .i64 i.c)).setCell ⟨R, 4, none⟩ (.int .u32 i.k)) :=
  ((((h.setCell hR _).setCell hR _).setCell hR _).setCell hR _).setCell hR _
theorem results_ins {fn : Func} {p u v : Tmp} (h : fn.results = #[.cell p 34, .tmp u, .tmp v]) (tmps : Array Value) (w : World) (R : Nat) (i : Ins) (hb : Blk w R i) (hp : tmps.getD p undef = .pointer (some ⟨R, 0, none⟩)) :
    (results fn tmps).run Tryd.prog w = .ok (.tuple #[i.val, tmps.getD u undef, tmps.getD v undef]) w := by
  have hl := run_loadVar_row (P := Tryd.prog) w R 34 34 _ _ _ hb Tryd.underlying34 rfl (by kernel_rfl)
  simp only [Array.getD_eq_getD_getElem?] at hp
  simp [results, h, hp, asAddr, hl, Ins.val]

end Go.Proofs.YtlopmejmionnpaaDoor.As
