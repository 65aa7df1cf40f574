/- The walks of the package isa: names, uses; the tables in memory. -/
import Derived.Test.YtlopmejmionnpaaDoorAsmMem
set_option linter.unusedVariables false
namespace Go.Proofs.YtlopmejmionnpaaDoor.As
open Go.RowKit

/-- What the fields of each kind are, as the package has them. -/
def opUses : List Int := [0, 17, 3, 7, 7, 7, 7, 7, 7, 7, 7, 7, 7, 32, 33, 33, 25, 25, 0, 25, 25, 29, 1, 25, 25, 0, 0, 17]
/-- The tables of the package isa, in memory. -/
structure TabI (w : World) : Prop where
  names : ∀ i : Nat, i < 28 → w.cell? ⟨1, i, none⟩ = some (.string ⟨(opNames.getD i []).toArray⟩)
  uses : ∀ i : Nat, i < 28 → w.cell? ⟨0, i, none⟩ = some (.int .i64 (opUses.getD i 0))
def NoI (k : Nat) : Prop := k ≠ 1 ∧ k ≠ 0
theorem TabI.lt {w : World} (h : TabI w) : 1 < w.heap.size ∧ 0 < w.heap.size :=
  ⟨block_lt_of_cell (h.names 0 (by decide)), block_lt_of_cell (h.uses 0 (by decide))⟩
theorem TabI.only {w w' : World} {F : Nat → Prop} (h : TabI w) (ho : Only F w w') (hF : ∀ k, F k → NoI k) : TabI w' := by
  have hl := h.lt
  exact ⟨fun i hi => (World.cell?_of_block (w := w) (a := ⟨1, i, none⟩) (ho.block _ hl.1 (fun e => (hF _ e).1 rfl))).trans (h.names i hi),
    fun i hi => (World.cell?_of_block (w := w) (a := ⟨0, i, none⟩) (ho.block _ hl.2 (fun e => (hF _ e).2 rfl))).trans (h.uses i hi)⟩
theorem TabI.below {B : Nat} {w w' : World} (h : TabI w) (hb : Below B w w') (hB : w.heap.size ≤ B) : TabI w' := h.only (Only.of_below (F := fun _ => False) hb hB) (fun _ e => e.elim)
/-- New blocks are none of the tables'. -/
theorem TabI.new {w : World} (h : TabI w) {k : Nat} (hk : w.heap.size ≤ k) : NoI k := by
  have := h.lt
  exact ⟨by omega, by omega⟩

theorem iname_in (op : Int) (w : World) (T : TabI w) (h0 : 0 ≤ op) (h1 : op < 28) :
    Calls Tryd.prog 50 #[.int .i64 op] w fun e w' => e = .returned (.string ⟨(opName op).toArray⟩) ∧ w = w' := by
  obtain ⟨i, rfl⟩ := Int.eq_ofNat_of_zero_le h0
  have hc := T.names i (by omega)
  have e : opName (i : Int) = opNames.getD i [] := by unfold opName; rw [if_pos ⟨h0, h1⟩]; rfl
  rw [e]
  generalize opNames.getD i [] = nm at *
  clear e T
  go_enter Tryd.func50, Tryd.ntmps50
  go_wp2
  go_ret
  exact ⟨rfl, rfl⟩
theorem iname_out (op : Int) (w : World) (h : op < 0 ∨ 28 ≤ op) :
    Calls Tryd.prog 50 #[.int .i64 op] w fun e w' => e = .returned (.string ⟨(opName op).toArray⟩) ∧ w = w' := by
  have e : opName op = [] := by unfold opName; rw [if_neg (by omega)]
  rw [e]
  rcases h with h | h
  · go_enter Tryd.func50, Tryd.ntmps50
    go_wp2
    go_ret
    exact ⟨rfl, rfl⟩
  · have d : decide (op < 0) = false := by simp; omega
    go_enter Tryd.func50, Tryd.ntmps50
    go_wp2
    go_ret
    exact ⟨rfl, rfl⟩
theorem iname_any (op : Int) (w : World) (T : TabI w) :
    Calls Tryd.prog 50 #[.int .i64 op] w fun e w' => e = .returned (.string ⟨(opName op).toArray⟩) ∧ w = w' := by
  by_cases h : 0 ≤ op ∧ op < 28
  · exact iname_in op w T h.1 h.2
  · exact iname_out op w (by omega)
theorem name_there (i : Nat) (h : i < 28) : ((opNames.getD i []).isEmpty = false) := by
  have : ∀ i, i < 28 → ((opNames.getD i []).isEmpty = false) := by decide
  exact this i h
theorem opName_in (op : Int) (h0 : 0 ≤ op) (h1 : op < 28) : (opName op).isEmpty = false := by
  unfold opName; rw [if_pos ⟨h0, h1⟩]; exact name_there _ (by omega)
theorem jumps_uses (i : Nat) (h : i < 28) : (bits BinOp.and IntKind.i64 (opUses.getD i 0) 32 != 0) = jumps (i : Int) := by
  have : ∀ i, i < 28 → (bits BinOp.and IntKind.i64 (opUses.getD i 0) 32 != 0) = jumps (i : Int) := by decide
  exact this i h
theorem jumps_out (op : Int) (h : op < 0 ∨ 28 ≤ op) : jumps op = false := by
  unfold jumps
  rw [show (op == 13) = false from beq_eq_false_iff_ne.2 (by omega), show (op == 14) = false from beq_eq_false_iff_ne.2 (by omega), show (op == 15) = false from beq_eq_false_iff_ne.2 (by omega)]
  rfl
theorem jumps_any (op : Int) (w : World) (T : TabI w) :
    Calls Tryd.prog 32 #[.int .i64 op] w fun e w' => e = .returned (.bool (jumps op)) ∧ w = w' := by
  by_cases h : 0 ≤ op ∧ op < 28
  · obtain ⟨i, rfl⟩ := Int.eq_ofNat_of_zero_le h.1
    have HT := Lib.hid T
    have hc := T.uses i (by omega)
    have hu := jumps_uses i (by omega)
    have hem := opName_in i h.1 h.2
    generalize opUses.getD i 0 = u at *
    generalize jumps (i : Int) = r at *
    generalize hz : bits BinOp.and IntKind.i64 u 32 = z at *
    clear T
    go_enter Tryd.func32, Tryd.ntmps32
    go_wp2_with fail
    refine (iname_any _ _ HT.out).mono ?_; rintro e w' ⟨rfl, rfl⟩
    generalize opName (i : Int) = nm at *
    go_wp2
    go_ret
    exact ⟨rfl, rfl⟩
  · rw [jumps_out op (by omega)]
    have HT := Lib.hid T
    clear T
    have hem : opName op = [] := by unfold opName; rw [if_neg h]
    go_enter Tryd.func32, Tryd.ntmps32
    go_wp2_with fail
    refine (iname_any _ _ HT.out).mono ?_; rintro e w' ⟨rfl, rfl⟩
    rw [hem]
    go_wp2
    go_ret
    exact ⟨rfl, rfl⟩
end Go.Proofs.YtlopmejmionnpaaDoor.As
