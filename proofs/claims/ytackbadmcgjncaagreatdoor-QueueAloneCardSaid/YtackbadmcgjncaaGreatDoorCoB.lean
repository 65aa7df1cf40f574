/- The walks of core.run.goes, halts, of core.Address. -/
import Derived.Test.YtackbadmcgjncaaGreatDoorCoA
set_option linter.unusedVariables false
set_option linter.unusedSimpArgs false
set_option maxRecDepth 20000
namespace Go.Proofs.YtackbadmcgjncaaGreatDoor.As
open Go.RowKit

theorem on_alloc {F : Nat → Prop} {a w : World} (h : Only F a w) (X : Obj) : Only F a (w.alloc X) :=
  ⟨h.os, h.tape, h.output, by have := h.size; simp; omega, fun k hk hn => by
    have hk2 : k < w.heap.size := Nat.lt_of_lt_of_le hk h.size
    exact (Below.heap_alloc _ _ _ hk2).trans (h.block k hk hn)⟩
theorem ScM.alloc {Z : Nat → Prop} {w : World} {mb mm mc b0 : Nat} {cv tv kv : Value} {s : Sc} (h : ScM Z w mb mm mc b0 cv tv kv s) (X : Obj) : ScM Z (w.alloc X) mb mm mc b0 cv tv kv s :=
  h.keep (F := fun _ => False) (on_alloc (Only.refl _ w) X) (fun _ e => e.elim)
theorem RunB.alloc {w : World} {rb : Nat} {n : Int} {mb : Nat} {t : Th} {i : Ins} {ad : Int} (h : RunB w rb n mb t i ad) (X : Obj) : RunB (w.alloc X) rb n mb t i ad :=
  h.only (F := fun _ => False) (on_alloc (Only.refl _ w) X) (fun e => e)
/-- The block just laid is kept, too. -/
theorem ScM.guard {Z : Nat → Prop} {w : World} {mb mm mc b0 : Nat} {cv tv kv : Value} {s : Sc} (h : ScM Z w mb mm mc b0 cv tv kv s) (a : Array Value) (t : TypeId) (ht : t ≠ 59) : ScM (fun k => Z k ∨ k = w.heap.size) (w.alloc (.cells a t (0, 0))) mb mm mc b0 cv tv kv s := by
  have hb := h.lt
  have hm : mm < w.heap.size := h.2.2.2.2.2.1
  have hz := h.2.2.2.1
  refine (h.alloc _).more (fun k hk => ?_)
  rcases hk with hk | rfl
  · exact ⟨by have := hz k hk; simp; omega, .inl hk⟩
  · exact ⟨by simp, .inr ⟨t, (0, 0), a, heap_alloc_new _ _, ht, by omega, by omega⟩⟩
theorem cells10 {w : World} {g : Nat} {a b c d e f h i j k : Value} {t : TypeId} (hx : w.heap[g]? = some (.cells #[a, b, c, d, e, f, h, i, j, k] t (0, 0))) :
    w.cell? ⟨g, 0, none⟩ = some a ∧ w.cell? ⟨g, 1, none⟩ = some b ∧ w.cell? ⟨g, 2, none⟩ = some c ∧ w.cell? ⟨g, 3, none⟩ = some d ∧ w.cell? ⟨g, 4, none⟩ = some e ∧ w.cell? ⟨g, 5, none⟩ = some f ∧ w.cell? ⟨g, 6, none⟩ = some h ∧ w.cell? ⟨g, 7, none⟩ = some i ∧ w.cell? ⟨g, 8, none⟩ = some j ∧ w.cell? ⟨g, 9, none⟩ = some k :=
  ⟨cell_of_row w g 0 _ _ _ hx, cell_of_row w g 1 _ _ _ hx, cell_of_row w g 2 _ _ _ hx, cell_of_row w g 3 _ _ _ hx, cell_of_row w g 4 _ _ _ hx, cell_of_row w g 5 _ _ _ hx, cell_of_row w g 6 _ _ _ hx, cell_of_row w g 7 _ _ _ hx, cell_of_row w g 8 _ _ _ hx, cell_of_row w g 9 _ _ _ hx⟩
theorem cellsT {w : World} {rb : Nat} {n : Int} {mb : Nat} {pc st : Int} {r0 r1 r2 r3 r4 r5 r6 r7 : Int} {i : Ins} {ad : Int} (h : RunB w rb n mb ⟨pc, [r0, r1, r2, r3, r4, r5, r6, r7], st⟩ i ad) :
    w.cell? ⟨rb, 0, none⟩ = some (.int .i64 pc) ∧ w.cell? ⟨rb, 1, none⟩ = some (.int .u32 r0) ∧ w.cell? ⟨rb, 2, none⟩ = some (.int .u32 r1) ∧ w.cell? ⟨rb, 3, none⟩ = some (.int .u32 r2) ∧ w.cell? ⟨rb, 4, none⟩ = some (.int .u32 r3) ∧ w.cell? ⟨rb, 5, none⟩ = some (.int .u32 r4) ∧ w.cell? ⟨rb, 6, none⟩ = some (.int .u32 r5) ∧ w.cell? ⟨rb, 7, none⟩ = some (.int .u32 r6) ∧ w.cell? ⟨rb, 8, none⟩ = some (.int .u32 r7) ∧ w.cell? ⟨rb, 9, none⟩ = some (.int .i64 st) :=
  ⟨cell_of_row w rb 0 _ _ _ h.2, cell_of_row w rb 1 _ _ _ h.2, cell_of_row w rb 2 _ _ _ h.2, cell_of_row w rb 3 _ _ _ h.2, cell_of_row w rb 4 _ _ _ h.2, cell_of_row w rb 5 _ _ _ h.2, cell_of_row w rb 6 _ _ _ h.2, cell_of_row w rb 7 _ _ _ h.2, cell_of_row w rb 8 _ _ _ h.2, cell_of_row w rb 9 _ _ _ h.2⟩
theorem set10 {w : World} {R : Nat} {o0 o1 o2 o3 o4 o5 o6 o7 o8 o9 : Value} {t : TypeId} (h : w.heap[R]? = some (.cells #[o0, o1, o2, o3, o4, o5, o6, o7, o8, o9] t (0, 0))) (v0 v1 v2 v3 v4 v5 v6 v7 v8 v9 : Value) :
    ((((((((((w.setCell ⟨R, 0, none⟩ v0).setCell ⟨R, 1, none⟩ v1).setCell ⟨R, 2, none⟩ v2).setCell ⟨R, 3, none⟩ v3).setCell ⟨R, 4, none⟩ v4).setCell ⟨R, 5, none⟩ v5).setCell ⟨R, 6, none⟩ v6).setCell ⟨R, 7, none⟩ v7).setCell ⟨R, 8, none⟩ v8).setCell ⟨R, 9, none⟩ v9).heap[R]? = some (.cells #[v0, v1, v2, v3, v4, v5, v6, v7, v8, v9] t (0, 0)) ∧ Only (fun k => k = R) w ((((((((((w.setCell ⟨R, 0, none⟩ v0).setCell ⟨R, 1, none⟩ v1).setCell ⟨R, 2, none⟩ v2).setCell ⟨R, 3, none⟩ v3).setCell ⟨R, 4, none⟩ v4).setCell ⟨R, 5, none⟩ v5).setCell ⟨R, 6, none⟩ v6).setCell ⟨R, 7, none⟩ v7).setCell ⟨R, 8, none⟩ v8).setCell ⟨R, 9, none⟩ v9) :=
  ⟨(heap_setCell_same _ R 9 _ t _ (heap_setCell_same _ R 8 _ t _ (heap_setCell_same _ R 7 _ t _ (heap_setCell_same _ R 6 _ t _ (heap_setCell_same _ R 5 _ t _ (heap_setCell_same _ R 4 _ t _ (heap_setCell_same _ R 3 _ t _ (heap_setCell_same _ R 2 _ t _ (heap_setCell_same _ R 1 _ t _ (heap_setCell_same _ R 0 _ t _ (h))))))))))).trans (by simp), Only.set1 (F := fun k => k = R) (p := ⟨R, 9, none⟩) (Only.set1 (F := fun k => k = R) (p := ⟨R, 8, none⟩) (Only.set1 (F := fun k => k = R) (p := ⟨R, 7, none⟩) (Only.set1 (F := fun k => k = R) (p := ⟨R, 6, none⟩) (Only.set1 (F := fun k => k = R) (p := ⟨R, 5, none⟩) (Only.set1 (F := fun k => k = R) (p := ⟨R, 4, none⟩) (Only.set1 (F := fun k => k = R) (p := ⟨R, 3, none⟩) (Only.set1 (F := fun k => k = R) (p := ⟨R, 2, none⟩) (Only.set1 (F := fun k => k = R) (p := ⟨R, 1, none⟩) (Only.set1 (F := fun k => k = R) (p := ⟨R, 0, none⟩) (Only.refl _ w) rfl v0) rfl v1) rfl v2) rfl v3) rfl v4) rfl v5) rfl v6) rfl v7) rfl v8) rfl v9⟩
theorem results_th {fn : Func} {p : Tmp} (h : fn.results = #[.cell p 107]) (tmps : Array Value) (w : World) (R : Nat) (a b c d e f g k l m : Value) (hb : w.heap[R]? = some (.cells #[a, b, c, d, e, f, g, k, l, m] 107 (0, 0))) (hp : tmps.getD p undef = .pointer (some ⟨R, 0, none⟩)) :
    (results fn tmps).run Tryz.prog w = .ok (.agg #[a, b, c, d, e, f, g, k, l, m]) w := by
  have hl := run_loadVar_row (P := Tryz.prog) w R 107 107 _ _ _ hb Tryz.underlying107 rfl (by kernel_rfl)
  simp only [Array.getD_eq_getD_getElem?] at hp
  simp [results, h, hp, asAddr, hl]

theorem goes_jump (w : World) (rb : Nat) (n : Int) (mb : Nat) (t : Th) (i : Ins) (ad : Int) (hR : RunB w rb n mb t i ad) (hop : i.op = 13) :
    Calls Tryz.prog 118 #[.pointer (some ⟨rb, 0, none⟩)] w fun e w' => e = .returned (.bool (goesI i t)) ∧ ∃ m, w' = w.drewN m := by
  have HR := Lib.hid hR
  obtain ⟨c0, c9, c10, c11, c12, c13, c14, c15, c16, c17, c18, c19, c20, c21, c22, c23, c24, c25, c26⟩ := hR.cells
  rw [hop] at c10
  have he : goesI i t = true := by unfold goesI; rw [hop]; rfl
  rw [he]
  clear hR he hop
  go_enter Tryz.func118, Tryz.ntmps118
  go_wp2_with fail
  go_ret
  exact ⟨rfl, 0, rfl⟩

theorem goes_zero (w : World) (rb : Nat) (n : Int) (mb : Nat) (t : Th) (i : Ins) (ad : Int) (hR : RunB w rb n mb t i ad) (hop : i.op = 14) (a : Nat) (ha : a < 8) (hia : i.a = a) :
    Calls Tryz.prog 118 #[.pointer (some ⟨rb, 0, none⟩)] w fun e w' => e = .returned (.bool (goesI i t)) ∧ ∃ m, w' = w.drewN m := by
  have HR := Lib.hid hR
  have z1 := hR.reg a ha
  obtain ⟨c0, c9, c10, c11, c12, c13, c14, c15, c16, c17, c18, c19, c20, c21, c22, c23, c24, c25, c26⟩ := hR.cells
  rw [hop] at c10
  have he : goesI i t = decide (t.reg a = 0) := by unfold goesI; rw [hop]; rw [if_neg (by decide), if_pos rfl, hia]
  rw [he]
  clear hR he hop
  go_enter Tryz.func118, Tryz.ntmps118
  go_wp2_with (go_at_call 138; refine (reg_run _ rb n mb t i _ HR.out a ha hia).mono ?_; rintro r w1 ⟨rfl, m, rfl⟩; have y1 : (w.drewN m).cell? ⟨rb, 1 + a, none⟩ = some (.int .u32 (t.reg a)) := z1)
  go_ret
  refine ⟨congrArg (fun x => Ending.returned (.bool x)) ?_, m, rfl⟩
  rw [Bool.eq_iff_iff]; simp

theorem goes_some (w : World) (rb : Nat) (n : Int) (mb : Nat) (t : Th) (i : Ins) (ad : Int) (hR : RunB w rb n mb t i ad) (hop : i.op = 15) (a : Nat) (ha : a < 8) (hia : i.a = a) :
    Calls Tryz.prog 118 #[.pointer (some ⟨rb, 0, none⟩)] w fun e w' => e = .returned (.bool (goesI i t)) ∧ ∃ m, w' = w.drewN m := by
  have HR := Lib.hid hR
  have z1 := hR.reg a ha
  obtain ⟨c0, c9, c10, c11, c12, c13, c14, c15, c16, c17, c18, c19, c20, c21, c22, c23, c24, c25, c26⟩ := hR.cells
  rw [hop] at c10
  have he : goesI i t = decide (t.reg a ≠ 0) := by unfold goesI; rw [hop]; rw [if_neg (by decide), if_neg (by decide), hia]
  rw [he]
  clear hR he hop
  go_enter Tryz.func118, Tryz.ntmps118
  go_wp2_with (go_at_call 138; refine (reg_run _ rb n mb t i _ HR.out a ha hia).mono ?_; rintro r w1 ⟨rfl, m, rfl⟩; have y1 : (w.drewN m).cell? ⟨rb, 1 + a, none⟩ = some (.int .u32 (t.reg a)) := z1)
  go_ret
  refine ⟨congrArg (fun x => Ending.returned (.bool x)) ?_, m, rfl⟩
  rw [Bool.eq_iff_iff]; simp

set_option maxHeartbeats 2000000 in
theorem halts_run (Z : Nat → Prop) (w : World) (rb : Nat) (n : Int) (mb mm mc b0 : Nat) (cv tv kv : Value) (s : Sc) (t : Th) (i : Ins) (ad : Int) (hR : RunB w rb n mb t i ad) (hM : ScM Z w mb mm mc b0 cv tv kv s) (hZ : Z rb) (hn : s.evs.length ≤ 999999) :
    Calls Tryz.prog 113 #[.pointer (some ⟨rb, 0, none⟩)] w fun e w' => e = .returned (.agg ({ t with st := 2 } : Th).cells.toArray) ∧ ScM Z w' mb mm mc b0 cv tv kv (s.note ⟨12, 0, t.pc, ad, 0, 0, 0, false⟩) ∧ Only (fun k => ¬ Z k ∨ k = rb) w w' := by
  have HM := Lib.hid hM
  have HR := Lib.hid hR
  have HZ := Lib.hid hZ
  have hlt := hR.lt
  have hsz : (w.setCell ⟨rb, 9, none⟩ (.int .i64 2)).heap.size = w.heap.size := by simp
  have hM2 := (hM.run (j := 9) hZ (.int .i64 2)).guard #[.int .i64 0, .int .u32 0, .int .u32 0, .int .u32 0, .int .u32 0, .int .u32 0, .int .u32 0, .int .u32 0, .int .u32 0, .int .i64 0] 107 (by decide)
  rw [hsz] at hM2
  have hR2 := (hR.st 2).alloc (.cells #[.int .i64 0, .int .u32 0, .int .u32 0, .int .u32 0, .int .u32 0, .int .u32 0, .int .u32 0, .int .u32 0, .int .u32 0, .int .i64 0] 107 (0, 0))
  have hnew := heap_alloc_new (w.setCell ⟨rb, 9, none⟩ (.int .i64 2)) (.cells #[.int .i64 0, .int .u32 0, .int .u32 0, .int .u32 0, .int .u32 0, .int .u32 0, .int .u32 0, .int .u32 0, .int .u32 0, .int .i64 0] 107 (0, 0))
  rw [hsz] at hnew
  have HNEW := Lib.hid hnew
  have HSZ := Lib.hid hsz
  clear hnew hsz
  have HM2 := Lib.hid hM2
  have HR2 := Lib.hid hR2
  have hfr := hR.frozen 9
  obtain ⟨c0, c9, c10, c11, c12, c13, c14, c15, c16, c17, c18, c19, c20, c21, c22, c23, c24, c25, c26⟩ := hR.cells
  clear hR hM hZ hM2 hR2
  go_enter Tryz.func113, Tryz.ntmps113
  go_wp2_with fail
  refine (note_run (fun k => Z k ∨ k = w.heap.size) _ rb n mb mm mc b0 cv tv kv s { t with st := 2 } i _ HR2.out HM2.out (by omega) ⟨12, 0, 0, 0, 0, 0, 0, false⟩).mono ?_
  rintro r w2 ⟨rfl, hM3, hO3⟩
  have hR3 := HR2.out.only hO3 (fun h => h (.inl HZ.out))
  have hN3 : w2.heap[w.heap.size]? = _ := (hO3.block _ (by simp) (fun h => h (.inr rfl))).trans HNEW.out
  obtain ⟨v0, v1, v2, v3, v4, v5, v6, v7, v8, v9⟩ := cells10 hN3
  have g0 := fun j => frozen_of_row w2 w.heap.size j _ _ hN3
  obtain ⟨pc, regs, st⟩ := t
  obtain ⟨r0, r1, r2, r3, r4, r5, r6, r7, rfl⟩ := list8 hR3.1
  obtain ⟨x0, x1, x2, x3, x4, x5, x6, x7, x8, x9⟩ := cellsT hR3
  have G0 := g0 0
  have G1 := g0 1
  have G2 := g0 2
  have G3 := g0 3
  have G4 := g0 4
  have G5 := g0 5
  have G6 := g0 6
  have G7 := g0 7
  have G8 := g0 8
  have G9 := g0 9
  clear g0
  obtain ⟨hs1, hs2⟩ := set10 hN3 (.int .i64 pc) (.int .u32 r0) (.int .u32 r1) (.int .u32 r2) (.int .u32 r3) (.int .u32 r4) (.int .u32 r5) (.int .u32 r6) (.int .u32 r7) (.int .i64 2)
  have HS1 := Lib.hid hs1
  have HS2 := Lib.hid hs2
  have HN3 := Lib.hid hN3
  clear hs1 hs2 hN3
  go_wp2_with fail
  refine bodyPost_ret (results_th rfl _ _ w.heap.size _ _ _ _ _ _ _ _ _ _ HS1.out rfl) rfl ?_
  refine ⟨rfl, (hM3.keep HS2.out (fun k e _ => .inr e)).less (fun k h => .inl h), ?_⟩
  have h1 : Only (fun k => ¬ Z k ∨ k = rb) w ((w.setCell ⟨rb, 9, none⟩ (.int .i64 2)).alloc (.cells #[.int .i64 0, .int .u32 0, .int .u32 0, .int .u32 0, .int .u32 0, .int .u32 0, .int .u32 0, .int .u32 0, .int .u32 0, .int .i64 0] 107 (0, 0))) := on_alloc (Only.set1 (p := ⟨rb, 9, none⟩) (Only.refl _ w) (.inr rfl) _) _
  have h2 := h1.trans hO3 (fun k e => by
    by_cases hz : Z k
    · right
      have hk : ¬ (Z k ∨ k = w.heap.size) := e
      exact absurd (.inl hz) hk
    · exact .inl (.inl hz))
  exact h2.trans HS2.out (fun k e => .inr (by subst e; exact Nat.le_refl _))

theorem addr_none (w : World) (t : Th) (i : Ins) (pc st r0 r1 r2 r3 r4 r5 r6 r7 : Int) (h : i.b < 0 ∨ 8 ≤ i.b) :
    Calls Tryz.prog 116 #[.agg #[.int .i64 pc, .int .u32 r0, .int .u32 r1, .int .u32 r2, .int .u32 r3, .int .u32 r4, .int .u32 r5, .int .u32 r6, .int .u32 r7, .int .i64 st], .agg #[.int .i64 i.op, .int .i64 i.a, .int .i64 i.b, .int .i64 i.c, .int .u32 i.k]] w fun e w' => e = .returned (.int .u32 i.k) ∧ Below w.heap.size w w' := by
  have hb : ∀ X Y, Below w.heap.size w ((w.alloc X).alloc Y) := fun X Y => ((Below.refl _ w).alloc (Nat.le_refl _) X).alloc (by simp) Y
  rcases h with h | h
  · have d : decide (i.b < 0) = true := decide_eq_true h
    clear h
    go_enter Tryz.func116, Tryz.ntmps116
    go_wp2_with fail
    go_ret
    exact ⟨rfl, hb _ _⟩
  · have d : decide (i.b < 0) = false := decide_eq_false (by omega)
    have d2 : decide (8 ≤ i.b) = true := decide_eq_true h
    clear h
    go_enter Tryz.func116, Tryz.ntmps116
    go_wp2_with fail
    go_ret
    exact ⟨rfl, hb _ _⟩
set_option maxHeartbeats 2000000 in
theorem addr_some (w : World) (i : Ins) (pc st r0 r1 r2 r3 r4 r5 r6 r7 : Int) (b : Nat) (hb : b < 8) (hib : i.b = b) (hk : 0 ≤ i.k ∧ i.k ≤ 4294967295) (hr : 0 ≤ (Th.mk pc [r0, r1, r2, r3, r4, r5, r6, r7] st).reg b ∧ (Th.mk pc [r0, r1, r2, r3, r4, r5, r6, r7] st).reg b ≤ 4294967295) :
    Calls Tryz.prog 116 #[.agg #[.int .i64 pc, .int .u32 r0, .int .u32 r1, .int .u32 r2, .int .u32 r3, .int .u32 r4, .int .u32 r5, .int .u32 r6, .int .u32 r7, .int .i64 st], .agg #[.int .i64 i.op, .int .i64 i.a, .int .i64 i.b, .int .i64 i.c, .int .u32 i.k]] w fun e w' => e = .returned (.int .u32 (wr32 ((Th.mk pc [r0, r1, r2, r3, r4, r5, r6, r7] st).reg b + i.k))) ∧ Below w.heap.size w w' := by
  have hbl : ∀ X Y, Below w.heap.size w ((w.alloc X).alloc Y) := fun X Y => ((Below.refl _ w).alloc (Nat.le_refl _) X).alloc (by simp) Y
  obtain ⟨op, ia, ib, ic, ik⟩ := i
  dsimp only at hib hk ⊢
  subst hib
  obtain ⟨v, hv⟩ : ∃ v, v = (Th.mk pc [r0, r1, r2, r3, r4, r5, r6, r7] st).reg b := ⟨_, rfl⟩
  have hw0 : (w.alloc (.cells #[.int .i64 pc, .int .u32 r0, .int .u32 r1, .int .u32 r2, .int .u32 r3, .int .u32 r4, .int .u32 r5, .int .u32 r6, .int .u32 r7, .int .i64 st] 107 (0, 0))).cell? ⟨w.heap.size, 1 + b, none⟩ = some (.int .u32 v) := by
    rw [hv]
    refine (cell_of_row _ w.heap.size (1 + b) _ _ _ (heap_alloc_new _ _)).trans ?_
    have h8 : b = 0 ∨ b = 1 ∨ b = 2 ∨ b = 3 ∨ b = 4 ∨ b = 5 ∨ b = 6 ∨ b = 7 := by omega
    rcases h8 with rfl | rfl | rfl | rfl | rfl | rfl | rfl | rfl <;> rfl
  rw [← hv] at hr ⊢
  have hw1 : ∀ Y, ((w.alloc (.cells #[.int .i64 pc, .int .u32 r0, .int .u32 r1, .int .u32 r2, .int .u32 r3, .int .u32 r4, .int .u32 r5, .int .u32 r6, .int .u32 r7, .int .i64 st] 107 (0, 0))).alloc Y).cell? ⟨w.heap.size, 1 + b, none⟩ = some (.int .u32 v) := fun Y => (World.cell?_of_block (a := ⟨w.heap.size, 1 + b, none⟩) (Below.heap_alloc _ Y _ (by simp))).trans hw0
  have hw2 : ∀ Y, ((w.alloc (.cells #[.int .i64 pc, .int .u32 r0, .int .u32 r1, .int .u32 r2, .int .u32 r3, .int .u32 r4, .int .u32 r5, .int .u32 r6, .int .u32 r7, .int .i64 st] 107 (0, 0))).alloc Y).drew.cell? ⟨w.heap.size, 1 + b, none⟩ = some (.int .u32 v) := hw1
  have hw3 := hw1 (.cells #[.int .i64 op, .int .i64 ia, .int .i64 b, .int .i64 ic, .int .u32 ik] 63 (0, 0))
  have hw4 := hw2 (.cells #[.int .i64 op, .int .i64 ia, .int .i64 b, .int .i64 ic, .int .u32 ik] 63 (0, 0))
  have h1 : (b : Int) < 8 := by omega
  have h0 : (0 : Int) ≤ (b : Int) := by omega
  have hdo := fun W => aluAdd_any W v ik hr.1 hr.2 hk.1 hk.2
  clear hv
  go_enter Tryz.func116, Tryz.ntmps116
  go_wp2_with fail
  go_region_with (go_at_call 67; refine (hdo _).mono ?_; rintro r w1 ⟨rfl, hb1⟩)
  all_goals go_wp2_with fail
  all_goals go_ret
  all_goals exact ⟨rfl, (bl_drew (hbl _ _)).trans (hb1.mono (hbl _ _).size)⟩
end Go.Proofs.YtackbadmcgjncaaGreatDoor.As
