/- The walks of the package asm: how an instruction's words are taken. -/
import Derived.Test.YtlopmejmionnpaaDoorPaH
set_option linter.unusedVariables false
namespace Go.Proofs.YtlopmejmionnpaaDoor.As
open Go.RowKit

def asksI (op : Int) : Bool := op == 16 || op == 17 || op == 19 || op == 20 || op == 21 || op == 23 || op == 24
theorem asks_uses (i : Nat) (h : i < 28) : (bits BinOp.and IntKind.i64 (opUses.getD i 0) 8 != 0) = asksI (i : Int) := by
  have : ∀ i, i < 28 → (bits BinOp.and IntKind.i64 (opUses.getD i 0) 8 != 0) = asksI (i : Int) := by decide
  exact this i h
theorem asks_in (op : Int) (w : World) (T : TabI w) (h : 0 ≤ op ∧ op < 28) :
    Calls Tryd.prog 61 #[.int .i64 op] w fun e w' => e = .returned (.bool (asksI op)) ∧ w = w' := by
  obtain ⟨i, rfl⟩ := Int.eq_ofNat_of_zero_le h.1
  have HT := Lib.hid T
  have hc := T.uses i (by omega)
  have hu := asks_uses i (by omega)
  have hem := opName_in i h.1 h.2
  generalize opUses.getD i 0 = u at *
  generalize asksI (i : Int) = r at *
  generalize hz : bits BinOp.and IntKind.i64 u 8 = z at *
  clear T
  go_enter Tryd.func61, Tryd.ntmps61
  go_wp2_with fail
  refine (iname_any _ _ HT.out).mono ?_; rintro e w' ⟨rfl, rfl⟩
  generalize opName (i : Int) = nm at *
  go_wp2
  go_ret
  exact ⟨rfl, rfl⟩
theorem asks_any (op : Int) (w : World) (T : TabI w) :
    Calls Tryd.prog 61 #[.int .i64 op] w fun e w' => e = .returned (.bool (asksI op)) ∧ w = w' := by
  by_cases h : 0 ≤ op ∧ op < 28
  · exact asks_in op w T h
  · have ho : asksI op = false := by
      unfold asksI
      rw [show (op == 16) = false from beq_eq_false_iff_ne.2 (by omega), show (op == 17) = false from beq_eq_false_iff_ne.2 (by omega), show (op == 19) = false from beq_eq_false_iff_ne.2 (by omega), show (op == 20) = false from beq_eq_false_iff_ne.2 (by omega), show (op == 21) = false from beq_eq_false_iff_ne.2 (by omega), show (op == 23) = false from beq_eq_false_iff_ne.2 (by omega), show (op == 24) = false from beq_eq_false_iff_ne.2 (by omega)]
      rfl
    rw [ho]
    have HT := Lib.hid T
    clear T ho
    have hem : opName op = [] := by unfold opName; rw [if_neg h]
    go_enter Tryd.func61, Tryd.ntmps61
    go_wp2_with fail
    refine (iname_any _ _ HT.out).mono ?_; rintro e w' ⟨rfl, rfl⟩
    rw [hem]
    go_wp2
    go_ret
    exact ⟨rfl, rfl⟩
/-- The function that takes a word of a kind. -/
def fid (f : UInt8) : Nat := if f = 65 then 67 else if f = 66 then 69 else if f = 67 then 70 else if f = 75 then 68 else if f = 84 then 71 else 72
def fnOf (f : UInt8) : Value := .func (.func (fid f)) #[] #[]
def FormR (op : Int) (w : World) (e : Ending) (w' : World) : Prop :=
  (formB op = [] ∧ e = .returned (.slice none 0 0) ∧ w' = w) ∨ (formB op ≠ [] ∧ e = .returned (.slice (some ⟨w.heap.size, 0, none⟩) (formB op).length (formB op).length) ∧ w' = w.alloc (.cells ((formB op).map fnOf).toArray 95))
theorem form0 (w : World) (T : TabI w) : Calls Tryd.prog 49 #[.int .i64 0] w (FormR 0 w) := by
  have HT := Lib.hid T
  clear T
  go_enter Tryd.func49, Tryd.ntmps49
  go_wp2_with fail
  refine (jumps_any _ _ HT.out).mono ?_; rintro e w' ⟨rfl, rfl⟩
  rw [show jumps 0 = false from rfl]
  go_wp2_with fail
  refine (asks_any _ _ HT.out).mono ?_; rintro e w' ⟨rfl, rfl⟩
  rw [show asksI 0 = false from rfl]
  go_wp2_with fail
  go_ret
  exact .inl ⟨rfl, rfl, rfl⟩
theorem form1 (w : World) (T : TabI w) : Calls Tryd.prog 49 #[.int .i64 1] w (FormR 1 w) := by
  have HT := Lib.hid T
  clear T
  go_enter Tryd.func49, Tryd.ntmps49
  go_wp2_with fail
  go_ret
  exact .inr ⟨by decide, rfl, rfl⟩
theorem form2 (w : World) (T : TabI w) : Calls Tryd.prog 49 #[.int .i64 2] w (FormR 2 w) := by
  have HT := Lib.hid T
  clear T
  go_enter Tryd.func49, Tryd.ntmps49
  go_wp2_with fail
  go_ret
  exact .inr ⟨by decide, rfl, rfl⟩
theorem form3 (w : World) (T : TabI w) : Calls Tryd.prog 49 #[.int .i64 3] w (FormR 3 w) := by
  have HT := Lib.hid T
  clear T
  go_enter Tryd.func49, Tryd.ntmps49
  go_wp2_with fail
  go_ret
  exact .inr ⟨by decide, rfl, rfl⟩
theorem form4 (w : World) (T : TabI w) : Calls Tryd.prog 49 #[.int .i64 4] w (FormR 4 w) := by
  have HT := Lib.hid T
  clear T
  go_enter Tryd.func49, Tryd.ntmps49
  go_wp2_with fail
  go_ret
  exact .inr ⟨by decide, rfl, rfl⟩
theorem form5 (w : World) (T : TabI w) : Calls Tryd.prog 49 #[.int .i64 5] w (FormR 5 w) := by
  have HT := Lib.hid T
  clear T
  go_enter Tryd.func49, Tryd.ntmps49
  go_wp2_with fail
  go_ret
  exact .inr ⟨by decide, rfl, rfl⟩
theorem form6 (w : World) (T : TabI w) : Calls Tryd.prog 49 #[.int .i64 6] w (FormR 6 w) := by
  have HT := Lib.hid T
  clear T
  go_enter Tryd.func49, Tryd.ntmps49
  go_wp2_with fail
  go_ret
  exact .inr ⟨by decide, rfl, rfl⟩
theorem form7 (w : World) (T : TabI w) : Calls Tryd.prog 49 #[.int .i64 7] w (FormR 7 w) := by
  have HT := Lib.hid T
  clear T
  go_enter Tryd.func49, Tryd.ntmps49
  go_wp2_with fail
  go_ret
  exact .inr ⟨by decide, rfl, rfl⟩
theorem form8 (w : World) (T : TabI w) : Calls Tryd.prog 49 #[.int .i64 8] w (FormR 8 w) := by
  have HT := Lib.hid T
  clear T
  go_enter Tryd.func49, Tryd.ntmps49
  go_wp2_with fail
  go_ret
  exact .inr ⟨by decide, rfl, rfl⟩
theorem form9 (w : World) (T : TabI w) : Calls Tryd.prog 49 #[.int .i64 9] w (FormR 9 w) := by
  have HT := Lib.hid T
  clear T
  go_enter Tryd.func49, Tryd.ntmps49
  go_wp2_with fail
  go_ret
  exact .inr ⟨by decide, rfl, rfl⟩
theorem form10 (w : World) (T : TabI w) : Calls Tryd.prog 49 #[.int .i64 10] w (FormR 10 w) := by
  have HT := Lib.hid T
  clear T
  go_enter Tryd.func49, Tryd.ntmps49
  go_wp2_with fail
  go_ret
  exact .inr ⟨by decide, rfl, rfl⟩
theorem form11 (w : World) (T : TabI w) : Calls Tryd.prog 49 #[.int .i64 11] w (FormR 11 w) := by
  have HT := Lib.hid T
  clear T
  go_enter Tryd.func49, Tryd.ntmps49
  go_wp2_with fail
  go_ret
  exact .inr ⟨by decide, rfl, rfl⟩
theorem form12 (w : World) (T : TabI w) : Calls Tryd.prog 49 #[.int .i64 12] w (FormR 12 w) := by
  have HT := Lib.hid T
  clear T
  go_enter Tryd.func49, Tryd.ntmps49
  go_wp2_with fail
  go_ret
  exact .inr ⟨by decide, rfl, rfl⟩
theorem form13 (w : World) (T : TabI w) : Calls Tryd.prog 49 #[.int .i64 13] w (FormR 13 w) := by
  have HT := Lib.hid T
  clear T
  go_enter Tryd.func49, Tryd.ntmps49
  go_wp2_with fail
  go_ret
  exact .inr ⟨by decide, rfl, rfl⟩
theorem form14 (w : World) (T : TabI w) : Calls Tryd.prog 49 #[.int .i64 14] w (FormR 14 w) := by
  have HT := Lib.hid T
  clear T
  go_enter Tryd.func49, Tryd.ntmps49
  go_wp2_with fail
  refine (jumps_any _ _ HT.out).mono ?_; rintro e w' ⟨rfl, rfl⟩
  rw [show jumps 14 = true from rfl]
  go_wp2_with fail
  go_ret
  exact .inr ⟨by decide, rfl, rfl⟩
theorem form15 (w : World) (T : TabI w) : Calls Tryd.prog 49 #[.int .i64 15] w (FormR 15 w) := by
  have HT := Lib.hid T
  clear T
  go_enter Tryd.func49, Tryd.ntmps49
  go_wp2_with fail
  refine (jumps_any _ _ HT.out).mono ?_; rintro e w' ⟨rfl, rfl⟩
  rw [show jumps 15 = true from rfl]
  go_wp2_with fail
  go_ret
  exact .inr ⟨by decide, rfl, rfl⟩
theorem form16 (w : World) (T : TabI w) : Calls Tryd.prog 49 #[.int .i64 16] w (FormR 16 w) := by
  have HT := Lib.hid T
  clear T
  go_enter Tryd.func49, Tryd.ntmps49
  go_wp2_with fail
  refine (jumps_any _ _ HT.out).mono ?_; rintro e w' ⟨rfl, rfl⟩
  rw [show jumps 16 = false from rfl]
  go_wp2_with fail
  refine (asks_any _ _ HT.out).mono ?_; rintro e w' ⟨rfl, rfl⟩
  rw [show asksI 16 = true from rfl]
  go_wp2_with fail
  go_ret
  exact .inr ⟨by decide, rfl, rfl⟩
theorem form17 (w : World) (T : TabI w) : Calls Tryd.prog 49 #[.int .i64 17] w (FormR 17 w) := by
  have HT := Lib.hid T
  clear T
  go_enter Tryd.func49, Tryd.ntmps49
  go_wp2_with fail
  refine (jumps_any _ _ HT.out).mono ?_; rintro e w' ⟨rfl, rfl⟩
  rw [show jumps 17 = false from rfl]
  go_wp2_with fail
  refine (asks_any _ _ HT.out).mono ?_; rintro e w' ⟨rfl, rfl⟩
  rw [show asksI 17 = true from rfl]
  go_wp2_with fail
  go_ret
  exact .inr ⟨by decide, rfl, rfl⟩
theorem form18 (w : World) (T : TabI w) : Calls Tryd.prog 49 #[.int .i64 18] w (FormR 18 w) := by
  have HT := Lib.hid T
  clear T
  go_enter Tryd.func49, Tryd.ntmps49
  go_wp2_with fail
  refine (jumps_any _ _ HT.out).mono ?_; rintro e w' ⟨rfl, rfl⟩
  rw [show jumps 18 = false from rfl]
  go_wp2_with fail
  refine (asks_any _ _ HT.out).mono ?_; rintro e w' ⟨rfl, rfl⟩
  rw [show asksI 18 = false from rfl]
  go_wp2_with fail
  go_ret
  exact .inl ⟨rfl, rfl, rfl⟩
theorem form19 (w : World) (T : TabI w) : Calls Tryd.prog 49 #[.int .i64 19] w (FormR 19 w) := by
  have HT := Lib.hid T
  clear T
  go_enter Tryd.func49, Tryd.ntmps49
  go_wp2_with fail
  refine (jumps_any _ _ HT.out).mono ?_; rintro e w' ⟨rfl, rfl⟩
  rw [show jumps 19 = false from rfl]
  go_wp2_with fail
  refine (asks_any _ _ HT.out).mono ?_; rintro e w' ⟨rfl, rfl⟩
  rw [show asksI 19 = true from rfl]
  go_wp2_with fail
  go_ret
  exact .inr ⟨by decide, rfl, rfl⟩
theorem form20 (w : World) (T : TabI w) : Calls Tryd.prog 49 #[.int .i64 20] w (FormR 20 w) := by
  have HT := Lib.hid T
  clear T
  go_enter Tryd.func49, Tryd.ntmps49
  go_wp2_with fail
  refine (jumps_any _ _ HT.out).mono ?_; rintro e w' ⟨rfl, rfl⟩
  rw [show jumps 20 = false from rfl]
  go_wp2_with fail
  refine (asks_any _ _ HT.out).mono ?_; rintro e w' ⟨rfl, rfl⟩
  rw [show asksI 20 = true from rfl]
  go_wp2_with fail
  go_ret
  exact .inr ⟨by decide, rfl, rfl⟩
theorem form21 (w : World) (T : TabI w) : Calls Tryd.prog 49 #[.int .i64 21] w (FormR 21 w) := by
  have HT := Lib.hid T
  clear T
  go_enter Tryd.func49, Tryd.ntmps49
  go_wp2_with fail
  refine (jumps_any _ _ HT.out).mono ?_; rintro e w' ⟨rfl, rfl⟩
  rw [show jumps 21 = false from rfl]
  go_wp2_with fail
  go_ret
  exact .inr ⟨by decide, rfl, rfl⟩
theorem form22 (w : World) (T : TabI w) : Calls Tryd.prog 49 #[.int .i64 22] w (FormR 22 w) := by
  have HT := Lib.hid T
  clear T
  go_enter Tryd.func49, Tryd.ntmps49
  go_wp2_with fail
  refine (jumps_any _ _ HT.out).mono ?_; rintro e w' ⟨rfl, rfl⟩
  rw [show jumps 22 = false from rfl]
  go_wp2_with fail
  refine (asks_any _ _ HT.out).mono ?_; rintro e w' ⟨rfl, rfl⟩
  rw [show asksI 22 = false from rfl]
  go_wp2_with fail
  go_ret
  exact .inr ⟨by decide, rfl, rfl⟩
theorem form23 (w : World) (T : TabI w) : Calls Tryd.prog 49 #[.int .i64 23] w (FormR 23 w) := by
  have HT := Lib.hid T
  clear T
  go_enter Tryd.func49, Tryd.ntmps49
  go_wp2_with fail
  refine (jumps_any _ _ HT.out).mono ?_; rintro e w' ⟨rfl, rfl⟩
  rw [show jumps 23 = false from rfl]
  go_wp2_with fail
  refine (asks_any _ _ HT.out).mono ?_; rintro e w' ⟨rfl, rfl⟩
  rw [show asksI 23 = true from rfl]
  go_wp2_with fail
  go_ret
  exact .inr ⟨by decide, rfl, rfl⟩
theorem form24 (w : World) (T : TabI w) : Calls Tryd.prog 49 #[.int .i64 24] w (FormR 24 w) := by
  have HT := Lib.hid T
  clear T
  go_enter Tryd.func49, Tryd.ntmps49
  go_wp2_with fail
  refine (jumps_any _ _ HT.out).mono ?_; rintro e w' ⟨rfl, rfl⟩
  rw [show jumps 24 = false from rfl]
  go_wp2_with fail
  refine (asks_any _ _ HT.out).mono ?_; rintro e w' ⟨rfl, rfl⟩
  rw [show asksI 24 = true from rfl]
  go_wp2_with fail
  go_ret
  exact .inr ⟨by decide, rfl, rfl⟩
theorem form25 (w : World) (T : TabI w) : Calls Tryd.prog 49 #[.int .i64 25] w (FormR 25 w) := by
  have HT := Lib.hid T
  clear T
  go_enter Tryd.func49, Tryd.ntmps49
  go_wp2_with fail
  refine (jumps_any _ _ HT.out).mono ?_; rintro e w' ⟨rfl, rfl⟩
  rw [show jumps 25 = false from rfl]
  go_wp2_with fail
  refine (asks_any _ _ HT.out).mono ?_; rintro e w' ⟨rfl, rfl⟩
  rw [show asksI 25 = false from rfl]
  go_wp2_with fail
  go_ret
  exact .inl ⟨rfl, rfl, rfl⟩
theorem form26 (w : World) (T : TabI w) : Calls Tryd.prog 49 #[.int .i64 26] w (FormR 26 w) := by
  have HT := Lib.hid T
  clear T
  go_enter Tryd.func49, Tryd.ntmps49
  go_wp2_with fail
  refine (jumps_any _ _ HT.out).mono ?_; rintro e w' ⟨rfl, rfl⟩
  rw [show jumps 26 = false from rfl]
  go_wp2_with fail
  refine (asks_any _ _ HT.out).mono ?_; rintro e w' ⟨rfl, rfl⟩
  rw [show asksI 26 = false from rfl]
  go_wp2_with fail
  go_ret
  exact .inl ⟨rfl, rfl, rfl⟩
theorem form27 (w : World) (T : TabI w) : Calls Tryd.prog 49 #[.int .i64 27] w (FormR 27 w) := by
  have HT := Lib.hid T
  clear T
  go_enter Tryd.func49, Tryd.ntmps49
  go_wp2_with fail
  go_ret
  exact .inr ⟨by decide, rfl, rfl⟩
theorem form_any (op : Int) (w : World) (T : TabI w) (h0 : 0 ≤ op) (h1 : op < 28) : Calls Tryd.prog 49 #[.int .i64 op] w (FormR op w) := by
  obtain ⟨n, rfl⟩ := Int.eq_ofNat_of_zero_le h0
  have hn : n < 28 := by omega
  match n, hn with
  | 0, _ => exact form0 w T
  | 1, _ => exact form1 w T
  | 2, _ => exact form2 w T
  | 3, _ => exact form3 w T
  | 4, _ => exact form4 w T
  | 5, _ => exact form5 w T
  | 6, _ => exact form6 w T
  | 7, _ => exact form7 w T
  | 8, _ => exact form8 w T
  | 9, _ => exact form9 w T
  | 10, _ => exact form10 w T
  | 11, _ => exact form11 w T
  | 12, _ => exact form12 w T
  | 13, _ => exact form13 w T
  | 14, _ => exact form14 w T
  | 15, _ => exact form15 w T
  | 16, _ => exact form16 w T
  | 17, _ => exact form17 w T
  | 18, _ => exact form18 w T
  | 19, _ => exact form19 w T
  | 20, _ => exact form20 w T
  | 21, _ => exact form21 w T
  | 22, _ => exact form22 w T
  | 23, _ => exact form23 w T
  | 24, _ => exact form24 w T
  | 25, _ => exact form25 w T
  | 26, _ => exact form26 w T
  | 27, _ => exact form27 w T
end Go.Proofs.YtlopmejmionnpaaDoor.As
