/- A thread that does an instruction, in memory; the walks of its small methods. -/
import Derived.Test.YtackbadmcgjncaaGreatDoorCoM
set_option linter.unusedVariables false
set_option linter.unusedSimpArgs false
set_option maxRecDepth 20000
namespace Go.Proofs.YtackbadmcgjncaaGreatDoor.As
open Go.RowKit

def portV (n : Int) (mb : Nat) : List Value := [.int .i64 n, .func (.func 88) #[.pointer (some ⟨mb, 0, none⟩)] #[], .func (.func 89) #[] #[], .func (.func 90) #[.pointer (some ⟨mb, 0, none⟩)] #[], .func (.func 89) #[] #[], .func (.func 91) #[] #[], .func (.func 92) #[.pointer (some ⟨mb, 0, none⟩)] #[], .func (.func 93) #[.pointer (some ⟨mb, 0, none⟩)] #[], .func (.func 94) #[.pointer (some ⟨mb, 0, none⟩)] #[], .func (.func 91) #[] #[], .func (.func 95) #[.pointer (some ⟨mb, 0, none⟩)] #[]]
def runCells (n : Int) (mb : Nat) (t : Th) (i : Ins) (ad : Int) : List Value := t.cells ++ ([.int .i64 i.op, .int .i64 i.a, .int .i64 i.b, .int .i64 i.c, .int .u32 i.k] ++ (portV n mb ++ [.int .i64 ad]))
/-- A thread that does an instruction, at rb. -/
def RunB (w : World) (rb : Nat) (n : Int) (mb : Nat) (t : Th) (i : Ins) (ad : Int) : Prop := t.regs.length = 8 ∧ w.heap[rb]? = some (.cells (runCells n mb t i ad).toArray 171 (0, 0))
theorem list8 {α : Type} : ∀ {l : List α}, l.length = 8 → ∃ a b c d e f g h, l = [a, b, c, d, e, f, g, h]
  | [a, b, c, d, e, f, g, h], _ => ⟨a, b, c, d, e, f, g, h, rfl⟩
theorem RunB.cells {w : World} {rb : Nat} {n : Int} {mb : Nat} {t : Th} {i : Ins} {ad : Int} (h : RunB w rb n mb t i ad) : w.cell? ⟨rb, 0, none⟩ = some (.int .i64 t.pc) ∧ w.cell? ⟨rb, 9, none⟩ = some (.int .i64 t.st) ∧ w.cell? ⟨rb, 10, none⟩ = some (.int .i64 i.op) ∧ w.cell? ⟨rb, 11, none⟩ = some (.int .i64 i.a) ∧ w.cell? ⟨rb, 12, none⟩ = some (.int .i64 i.b) ∧ w.cell? ⟨rb, 13, none⟩ = some (.int .i64 i.c) ∧ w.cell? ⟨rb, 14, none⟩ = some (.int .u32 i.k) ∧ w.cell? ⟨rb, 15, none⟩ = some (.int .i64 n) ∧ w.cell? ⟨rb, 16, none⟩ = some (.func (.func 88) #[.pointer (some ⟨mb, 0, none⟩)] #[]) ∧ w.cell? ⟨rb, 17, none⟩ = some (.func (.func 89) #[] #[]) ∧ w.cell? ⟨rb, 18, none⟩ = some (.func (.func 90) #[.pointer (some ⟨mb, 0, none⟩)] #[]) ∧ w.cell? ⟨rb, 19, none⟩ = some (.func (.func 89) #[] #[]) ∧ w.cell? ⟨rb, 20, none⟩ = some (.func (.func 91) #[] #[]) ∧ w.cell? ⟨rb, 21, none⟩ = some (.func (.func 92) #[.pointer (some ⟨mb, 0, none⟩)] #[]) ∧ w.cell? ⟨rb, 22, none⟩ = some (.func (.func 93) #[.pointer (some ⟨mb, 0, none⟩)] #[]) ∧ w.cell? ⟨rb, 23, none⟩ = some (.func (.func 94) #[.pointer (some ⟨mb, 0, none⟩)] #[]) ∧ w.cell? ⟨rb, 24, none⟩ = some (.func (.func 91) #[] #[]) ∧ w.cell? ⟨rb, 25, none⟩ = some (.func (.func 95) #[.pointer (some ⟨mb, 0, none⟩)] #[]) ∧ w.cell? ⟨rb, 26, none⟩ = some (.int .i64 ad) := by
  obtain ⟨hl, h⟩ := h
  obtain ⟨pc, regs, st⟩ := t
  obtain ⟨r0, r1, r2, r3, r4, r5, r6, r7, rfl⟩ := list8 hl
  exact ⟨cell_of_row w rb 0 _ _ _ h, cell_of_row w rb 9 _ _ _ h, cell_of_row w rb 10 _ _ _ h, cell_of_row w rb 11 _ _ _ h, cell_of_row w rb 12 _ _ _ h, cell_of_row w rb 13 _ _ _ h, cell_of_row w rb 14 _ _ _ h, cell_of_row w rb 15 _ _ _ h, cell_of_row w rb 16 _ _ _ h, cell_of_row w rb 17 _ _ _ h, cell_of_row w rb 18 _ _ _ h, cell_of_row w rb 19 _ _ _ h, cell_of_row w rb 20 _ _ _ h, cell_of_row w rb 21 _ _ _ h, cell_of_row w rb 22 _ _ _ h, cell_of_row w rb 23 _ _ _ h, cell_of_row w rb 24 _ _ _ h, cell_of_row w rb 25 _ _ _ h, cell_of_row w rb 26 _ _ _ h⟩
theorem RunB.reg {w : World} {rb : Nat} {n : Int} {mb : Nat} {t : Th} {i : Ins} {ad : Int} (h : RunB w rb n mb t i ad) (a : Nat) (ha : a < 8) : w.cell? ⟨rb, 1 + a, none⟩ = some (.int .u32 (t.reg a)) := by
  obtain ⟨hl, h⟩ := h
  refine (cell_of_row w rb (1 + a) _ _ _ h).trans ?_
  obtain ⟨pc, regs, st⟩ := t
  obtain ⟨r0, r1, r2, r3, r4, r5, r6, r7, rfl⟩ := list8 hl
  have h8 : a = 0 ∨ a = 1 ∨ a = 2 ∨ a = 3 ∨ a = 4 ∨ a = 5 ∨ a = 6 ∨ a = 7 := by omega
  rcases h8 with rfl | rfl | rfl | rfl | rfl | rfl | rfl | rfl <;> rfl
theorem RunB.frozen {w : World} {rb : Nat} {n : Int} {mb : Nat} {t : Th} {i : Ins} {ad : Int} (h : RunB w rb n mb t i ad) (j : Nat) : w.frozen? ⟨rb, j, none⟩ = false := frozen_of_row w rb j _ _ h.2
theorem RunB.lt {w : World} {rb : Nat} {n : Int} {mb : Nat} {t : Th} {i : Ins} {ad : Int} (h : RunB w rb n mb t i ad) : rb < w.heap.size := (Array.getElem?_eq_some_iff.1 h.2).1
theorem RunB.only {w w' : World} {rb : Nat} {n : Int} {mb : Nat} {t : Th} {i : Ins} {ad : Int} {F : Nat → Prop} (h : RunB w rb n mb t i ad) (ho : Only F w w') (hF : ¬ F rb) : RunB w' rb n mb t i ad := ⟨h.1, (ho.block rb h.lt hF).trans h.2⟩
/-- A store into a register. -/
theorem RunB.put {w : World} {rb : Nat} {n : Int} {mb : Nat} {t : Th} {i : Ins} {ad : Int} (h : RunB w rb n mb t i ad) (a : Nat) (ha : a < 8) (v : Int) : RunB (w.setCell ⟨rb, 1 + a, none⟩ (.int .u32 v)) rb n mb (t.put a v) i ad := by
  obtain ⟨hl, h⟩ := h
  refine ⟨by simp [Th.put, hl], (heap_setCell_same _ rb (1 + a) _ _ _ h).trans ?_⟩
  obtain ⟨pc, regs, st⟩ := t
  obtain ⟨r0, r1, r2, r3, r4, r5, r6, r7, rfl⟩ := list8 hl
  have h8 : a = 0 ∨ a = 1 ∨ a = 2 ∨ a = 3 ∨ a = 4 ∨ a = 5 ∨ a = 6 ∨ a = 7 := by omega
  rcases h8 with rfl | rfl | rfl | rfl | rfl | rfl | rfl | rfl <;> rfl
theorem RunB.pc {w : World} {rb : Nat} {n : Int} {mb : Nat} {t : Th} {i : Ins} {ad : Int} (h : RunB w rb n mb t i ad) (v : Int) : RunB (w.setCell ⟨rb, 0, none⟩ (.int .i64 v)) rb n mb { t with pc := v } i ad := by
  obtain ⟨hl, h⟩ := h
  refine ⟨hl, (heap_setCell_same _ rb 0 _ _ _ h).trans ?_⟩
  obtain ⟨pc, regs, st⟩ := t
  obtain ⟨r0, r1, r2, r3, r4, r5, r6, r7, rfl⟩ := list8 hl
  rfl
theorem RunB.st {w : World} {rb : Nat} {n : Int} {mb : Nat} {t : Th} {i : Ins} {ad : Int} (h : RunB w rb n mb t i ad) (v : Int) : RunB (w.setCell ⟨rb, 9, none⟩ (.int .i64 v)) rb n mb { t with st := v } i ad := by
  obtain ⟨hl, h⟩ := h
  refine ⟨hl, (heap_setCell_same _ rb 9 _ _ _ h).trans ?_⟩
  obtain ⟨pc, regs, st⟩ := t
  obtain ⟨r0, r1, r2, r3, r4, r5, r6, r7, rfl⟩ := list8 hl
  rfl
theorem reg_run (w : World) (rb : Nat) (n : Int) (mb : Nat) (t : Th) (i : Ins) (ad : Int) (hR : RunB w rb n mb t i ad) (a : Nat) (ha : a < 8) (hi : i.a = a) :
    Calls Tryz.prog 138 #[.pointer (some ⟨rb, 0, none⟩)] w fun e w' => e = .returned (.pointer (some ⟨rb, 1 + a, none⟩)) ∧ ∃ m, w' = w.drewN m := by
  obtain ⟨c0, c9, c10, c11, c12, c13, c14, c15, c16, c17, c18, c19, c20, c21, c22, c23, c24, c25, c26⟩ := hR.cells
  rw [hi] at c11
  have h1 : (a : Int) < 8 := by omega
  have h0 : (0 : Int) ≤ (a : Int) := by omega
  clear hR hi
  go_enter Tryz.func138, Tryz.ntmps138
  go_wp2_with fail
  go_quiet (fail)
  go_wp2_with fail
  go_ret
  exact ⟨rfl, _, rfl⟩
theorem on_drew2 {F : Nat → Prop} {a w : World} (h : Only F a w) (X : Obj) : Only F a (w.alloc X).drew.drew :=
  ⟨h.os, h.tape, h.output, by have := h.size; simp; omega, fun k hk hn => by
    have hk2 : k < w.heap.size := Nat.lt_of_lt_of_le hk h.size
    exact (show (w.alloc X).heap[k]? = _ from Below.heap_alloc _ _ _ hk2).trans (h.block k hk hn)⟩
set_option maxHeartbeats 2000000 in
theorem note_run (Z : Nat → Prop) (w : World) (rb : Nat) (n : Int) (mb mm mc b0 : Nat) (cv tv kv : Value) (s : Sc) (t : Th) (i : Ins) (ad : Int) (hR : RunB w rb n mb t i ad) (hM : ScM Z w mb mm mc b0 cv tv kv s) (hn : s.evs.length ≤ 1000000) (e : Ev) :
    Calls Tryz.prog 137 #[.pointer (some ⟨rb, 0, none⟩), .agg #[.int .i64 e.kind, .int .i64 e.who, .int .i64 e.pc, .int .i64 e.addr, .int .u32 e.val, .int .u32 e.old, .int .u32 e.k, .bool e.ok]] w fun r w' => r = .returned (.tuple #[]) ∧ ScM Z w' mb mm mc b0 cv tv kv (s.note { e with pc := t.pc, addr := ad }) ∧ Only (fun k => ¬ Z k) w w' := by
  have HM := Lib.hid hM
  have HR := Lib.hid hR
  obtain ⟨c0, c9, c10, c11, c12, c13, c14, c15, c16, c17, c18, c19, c20, c21, c22, c23, c24, c25, c26⟩ := hR.cells
  have hlt := hR.lt
  clear hR hM
  go_enter Tryz.func137, Tryz.ntmps137
  go_wp2_with fail
  go_region_with (fail)
  all_goals go_wp2_with fail
  all_goals go_region_with (go_at_call 95; refine (note_sc Z _ mb mm mc b0 cv tv kv s (HM.out.keep (F := fun k => k = w.heap.size) (on_drew2 (Only.refl _ w) _) (fun k e h => absurd h (by omega))) hn ⟨e.kind, e.who, t.pc, ad, e.val, e.old, e.k, e.ok⟩).mono ?_; rintro r wN ⟨rfl, hMN, hON⟩)
  all_goals go_wp2_with fail
  all_goals go_end0
  all_goals exact ⟨rfl, hMN, (on_drew2 (Only.refl _ w) _).trans hON (fun i h => .inl h)⟩
end Go.Proofs.YtackbadmcgjncaaGreatDoor.As
