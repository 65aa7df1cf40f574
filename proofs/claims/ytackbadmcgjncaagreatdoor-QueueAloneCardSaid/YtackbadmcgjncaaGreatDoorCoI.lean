/- The walks of the packages isa and alu: what an instruction is; two of the operations of two words. -/
import Derived.Test.YtackbadmcgjncaaGreatDoorCoN
set_option linter.unusedVariables false
set_option linter.unusedSimpArgs false
set_option maxRecDepth 20000
namespace Go.Proofs.YtackbadmcgjncaaGreatDoor.As
open Go.RowKit

theorem asks_uses (i : Nat) (h : i < 28) : (bits BinOp.and IntKind.i64 (opUses.getD i 0) 8 != 0) = decide (asksI (i : Int)) := by
  have : ∀ i, i < 28 → (bits BinOp.and IntKind.i64 (opUses.getD i 0) 8 != 0) = decide (asksI (i : Int)) := by decide
  exact this i h
theorem asks_any (op : Int) (w : World) (T : TabI w) (h0 : 0 ≤ op) (h1 : op < 28) :
    Calls Tryz.prog 115 #[.int .i64 op] w fun e w' => e = .returned (.bool (decide (asksI op))) ∧ w = w' := by
  obtain ⟨i, rfl⟩ := Int.eq_ofNat_of_zero_le h0
  have HT := Lib.hid T
  have hc := T.uses i (by omega)
  have hu := asks_uses i (by omega)
  have hem := opName_in i h0 h1
  generalize opUses.getD i 0 = u at *
  generalize decide (asksI (i : Int)) = r at *
  generalize hz : bits BinOp.and IntKind.i64 u 8 = z at *
  clear T
  go_enter Tryz.func115, Tryz.ntmps115
  go_wp2_with fail
  refine (iname_any _ _ HT.out).mono ?_; rintro e w' ⟨rfl, rfl⟩
  generalize opName (i : Int) = nm at *
  go_wp2
  go_ret
  exact ⟨rfl, rfl⟩
theorem drains_any (op : Int) (w : World) : Calls Tryz.prog 117 #[.int .i64 op] w fun e w' => e = .returned (.bool (decide (drainsI op))) ∧ w = w' := by
  obtain ⟨r, hr⟩ : ∃ r, r = decide (drainsI op) := ⟨_, rfl⟩
  rw [← hr]
  have HR := Lib.hid hr
  clear hr
  go_enter Tryz.func117, Tryz.ntmps117
  go_wp2_with fail
  all_goals (try go_wp2_with fail)
  all_goals go_ret
  all_goals refine ⟨congrArg (fun x => Ending.returned (.bool x)) ?_, rfl⟩
  all_goals rw [HR.out]
  all_goals clear HR
  all_goals rw [Bool.eq_iff_iff, decide_eq_true_iff (p := drainsI _)]
  all_goals unfold drainsI
  all_goals simp only [beq_iff_eq, beq_eq_false_iff_ne, ne_eq, decide_eq_true_eq, Bool.false_eq_true, true_iff, false_iff, Bool.or_eq_true] at *
  all_goals omega
def fieldI (n : Int) (used : Bool) (most : Int) : Bool := if used then decide (0 ≤ n) && decide (n ≤ most) else n == 0
theorem field_any (n : Int) (used : Bool) (most : Int) (w : World) : Calls Tryz.prog 112 #[.int .i64 n, .bool used, .int .i64 most] w fun e w' => e = .returned (.bool (fieldI n used most)) ∧ w' = w := by
  cases used with
  | false =>
    go_enter Tryz.func112, Tryz.ntmps112
    go_wp2_with fail
    go_ret
    exact ⟨rfl, rfl⟩
  | true =>
    by_cases h : 0 ≤ n
    · have d : decide (0 ≤ n) = true := decide_eq_true h
      have e1 : fieldI n true most = decide (n ≤ most) := by unfold fieldI; rw [if_pos rfl, d, Bool.true_and]
      rw [e1]
      clear h e1
      go_enter Tryz.func112, Tryz.ntmps112
      go_wp2_with fail
      go_ret
      exact ⟨rfl, rfl⟩
    · have d : decide (0 ≤ n) = false := decide_eq_false h
      have e1 : fieldI n true most = false := by unfold fieldI; rw [if_pos rfl, d, Bool.false_and]
      rw [e1]
      clear h e1
      go_enter Tryz.func112, Tryz.ntmps112
      go_wp2_with fail
      go_ret
      exact ⟨rfl, rfl⟩
def bitI (u m : Int) : Bool := bits BinOp.and IntKind.i64 u m != 0
/-- May an instruction stand in a code of so many? -/
def rightI (i : Ins) (size : Int) : Bool :=
  decide (0 ≤ i.op) && decide (i.op < 28) && decide (0 ≤ i.k) && (let u := opUses.getD i.op.toNat 0
    fieldI i.a (bitI u 1) 7 && fieldI i.b (bitI u 10) (if bitI u 8 then 8 else 7) && fieldI i.c (bitI u 4) 7 && (if bitI u 32 then decide (i.k ≤ size) else (bitI u 16 || i.k == 0)))
set_option maxHeartbeats 2000000 in
theorem right_isa (w : World) (T : TabI w) (i : Ins) (size : Int) (h0 : 0 ≤ size) (h1 : size ≤ 1000000) (h : rightI i size = true) :
    Calls Tryz.prog 68 #[.agg #[.int .i64 i.op, .int .i64 i.a, .int .i64 i.b, .int .i64 i.c, .int .u32 i.k], .int .i64 size] w fun e w' => e = .returned (.bool true) ∧ Below w.heap.size w w' := by
  unfold rightI at h
  simp only [Bool.and_eq_true, decide_eq_true_eq] at h
  obtain ⟨⟨⟨o0, o1⟩, k0⟩, ⟨⟨hA, hB⟩, hC⟩, hK⟩ := h
  obtain ⟨op, ia, ib, ic, ik⟩ := i
  dsimp only at *
  obtain ⟨j, rfl⟩ := Int.eq_ofNat_of_zero_le o0
  have HT := Lib.hid T
  have hb := (Below.refl w.heap.size w).alloc (Nat.le_refl _) (.cells #[.int .i64 j, .int .i64 ia, .int .i64 ib, .int .i64 ic, .int .u32 ik] 63)
  have hc := (T.below hb (Nat.le_refl _)).uses j (by omega)
  have HB := Lib.hid hb
  have HT2 := Lib.hid (T.below hb (Nat.le_refl _))
  have hem := opName_in j o0 o1
  rw [Int.toNat_natCast] at hA hB hC hK
  generalize opUses.getD j 0 = u at *
  unfold bitI at hA hB hC hK
  clear T hb
  have c := hc
  cases h8 : (bits BinOp.and IntKind.i64 u 8 != 0) <;> cases h32 : (bits BinOp.and IntKind.i64 u 32 != 0)
  all_goals rw [h8] at hB
  all_goals rw [h32] at hK
  all_goals simp only [if_true, if_false, Bool.false_eq_true, ite_true, ite_false, decide_eq_true_eq] at hB hK
  all_goals go_enter Tryz.func68, Tryz.ntmps68
  all_goals go_wp2_with (first | (go_at_call 99; refine (iname_any _ _ HT2.out).mono ?_; rintro e w' ⟨rfl, rfl⟩) | (go_at_call 112; refine (field_any _ _ _ _).mono ?_; rintro e w' ⟨rfl, rfl⟩))
  all_goals go_ret
  all_goals refine ⟨congrArg (fun x => Ending.returned (.bool x)) ?_, HB.out⟩
  all_goals first | rfl | (simp_all; done) | (simp at hK ⊢; omega)
theorem aluAdd_any (w : World) (a b : Int) (a0 : 0 ≤ a) (a1 : a ≤ 4294967295) (b0 : 0 ≤ b) (b1 : b ≤ 4294967295) :
    Calls Tryz.prog 67 #[.int .i64 3, .int .u32 a, .int .u32 b] w fun e w' => e = .returned (.tuple #[.int .u32 (wr32 (a + b)), .bool true]) ∧ Below w.heap.size w w' := by
  have q : IntKind.u32.wrap (a + b) = wr32 (a + b) := by rw [IntKind.wrap_u32]; unfold wr32; omega
  go_enter Tryz.func67, Tryz.ntmps67
  go_wp2_with go_in
  go_ret2
  exact ⟨rfl, (Below.refl _ w).alloc (Nat.le_refl _) _⟩
theorem aluSame_any (w : World) (a b : Int) :
    Calls Tryz.prog 67 #[.int .i64 12, .int .u32 a, .int .u32 b] w fun e w' => e = .returned (.tuple #[.int .u32 (if a = b then 1 else 0), .bool true]) ∧ Below w.heap.size w w' := by
  by_cases h : a = b
  · rw [if_pos h]
    have d : (a == b) = true := by simp [h]
    clear h
    go_enter Tryz.func67, Tryz.ntmps67
    go_wp2_with go_in
    go_ret2
    exact ⟨rfl, (Below.refl _ w).alloc (Nat.le_refl _) _⟩
  · rw [if_neg h]
    have d : (a == b) = false := by simp [h]
    clear h
    go_enter Tryz.func67, Tryz.ntmps67
    go_wp2_with go_in
    go_ret2
    exact ⟨rfl, (Below.refl _ w).alloc (Nat.le_refl _) _⟩
end Go.Proofs.YtackbadmcgjncaaGreatDoor.As
