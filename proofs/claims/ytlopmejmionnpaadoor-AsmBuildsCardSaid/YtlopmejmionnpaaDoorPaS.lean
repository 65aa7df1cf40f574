/- The walks of the packages isa and deadlatchref02: may an instruction stand in a code? -/
import Derived.Test.YtlopmejmionnpaaDoorIsa
import Derived.Test.YtlopmejmionnpaaDoorRef2
import Derived.Test.YtlopmejmionnpaaDoorCode
import Derived.Test.YtlopmejmionnpaaDoorTxt3
import Derived.Test.YtlopmejmionnpaaDoorBlk
import Derived.IntWalk
set_option linter.unusedVariables false
set_option linter.unusedSimpArgs false
namespace Go.Proofs.YtlopmejmionnpaaDoor.As
open Go.RowKit

def fieldI (n : Int) (used : Bool) (most : Int) : Bool := if used then decide (0 ≤ n) && decide (n ≤ most) else n == 0
def rightB (i : Ins) (n : Nat) : Bool :=
  decide (0 ≤ i.op ∧ i.op < 28) && fieldI i.a (hasB i.op 65) 7 && fieldI i.b (hasB i.op 66 || hasB i.op 77) (if hasB i.op 77 then 8 else 7) && fieldI i.c (hasB i.op 67) 7 &&
    (if hasB i.op 84 then decide (i.k ≤ n) else hasB i.op 75 || i.k == 0)
theorem field_any (w : World) (n : Int) (used : Bool) (most : Int) :
    Calls Tryd.prog 56 #[.int .i64 n, .bool used, .int .i64 most] w fun e w' => e = .returned (.bool (fieldI n used most)) ∧ w = w' := by
  obtain ⟨r, hr⟩ : ∃ r, fieldI n used most = r := ⟨_, rfl⟩
  rw [hr]
  have HR := Lib.hid hr
  clear hr
  cases used with
  | false =>
    go_enter Tryd.func56, Tryd.ntmps56
    go_wp2
    go_ret
    refine ⟨?_, rfl⟩
    rw [← HR.out]; rfl
  | true =>
    go_enter Tryd.func56, Tryd.ntmps56
    go_wp2
    all_goals go_ret
    all_goals refine ⟨?_, rfl⟩
    all_goals rw [← HR.out]
    all_goals unfold fieldI
    all_goals refine congrArg (fun x => Ending.returned (.bool x)) ?_
    all_goals rw [Bool.eq_iff_iff]
    all_goals simp at *
    all_goals omega
theorem uses_bits (i : Nat) (h : i < 28) : (bits BinOp.and IntKind.i64 (opUses.getD i 0) 8 != 0) = hasB i 77 ∧ (bits BinOp.and IntKind.i64 (opUses.getD i 0) 1 != 0) = hasB i 65 ∧ (bits BinOp.and IntKind.i64 (opUses.getD i 0) 10 != 0) = (hasB i 66 || hasB i 77) ∧
    (bits BinOp.and IntKind.i64 (opUses.getD i 0) 4 != 0) = hasB i 67 ∧ (bits BinOp.and IntKind.i64 (opUses.getD i 0) 32 != 0) = hasB i 84 ∧ (bits BinOp.and IntKind.i64 (opUses.getD i 0) 16 != 0) = hasB i 75 := by
  have : ∀ i, i < 28 → (bits BinOp.and IntKind.i64 (opUses.getD i 0) 8 != 0) = hasB i 77 ∧ (bits BinOp.and IntKind.i64 (opUses.getD i 0) 1 != 0) = hasB i 65 ∧ (bits BinOp.and IntKind.i64 (opUses.getD i 0) 10 != 0) = (hasB i 66 || hasB i 77) ∧
    (bits BinOp.and IntKind.i64 (opUses.getD i 0) 4 != 0) = hasB i 67 ∧ (bits BinOp.and IntKind.i64 (opUses.getD i 0) 32 != 0) = hasB i 84 ∧ (bits BinOp.and IntKind.i64 (opUses.getD i 0) 16 != 0) = hasB i 75 := by decide
  exact this i h
theorem right_out {i : Ins} {n : Nat} (h : ¬ (0 ≤ i.op ∧ i.op < 28)) : rightB i n = false := by unfold rightB; rw [decide_eq_false h]; rfl
set_option maxHeartbeats 4000000 in
theorem right_any (w : World) (o a b c k : Int) (n : Nat) (hn : n ≤ 1000000) (hk : 0 ≤ k ∧ k ≤ 4294967295) (T : TabI w) :
    Calls Tryd.prog 39 #[.agg #[.int .i64 o, .int .i64 a, .int .i64 b, .int .i64 c, .int .u32 k], .int .i64 n] w fun e w' => e = .returned (.bool (rightB ⟨o, a, b, c, k⟩ n)) ∧ Below w.heap.size w w' := by
  have hbl : Below w.heap.size w (w.alloc (.cells #[.int .i64 o, .int .i64 a, .int .i64 b, .int .i64 c, .int .u32 k] 34)) := (Below.refl _ _).alloc (Nat.le_refl _) _
  have HB := Lib.hid hbl
  have HT := Lib.hid (T.below hbl (Nat.le_refl _))
  obtain ⟨k0, k1⟩ := hk
  by_cases h : 0 ≤ o ∧ o < 28
  · obtain ⟨r, hr⟩ : ∃ r, rightB ⟨o, a, b, c, k⟩ n = r := ⟨_, rfl⟩
    rw [hr]
    obtain ⟨i, rfl⟩ := Int.eq_ofNat_of_zero_le h.1
    have hem := opName_in i h.1 h.2
    obtain ⟨q1, q2, q3, q4, q5, q6⟩ := uses_bits i (by omega)
    have hc := HT.out.uses i (by omega)
    unfold rightB at hr
    rw [decide_eq_true h] at hr
    simp only [Bool.true_and] at hr
    generalize opUses.getD i 0 = u at *
    generalize hz1 : bits BinOp.and IntKind.i64 u 8 = z1 at *
    generalize hz2 : bits BinOp.and IntKind.i64 u 1 = z2 at *
    generalize hz3 : bits BinOp.and IntKind.i64 u 10 = z3 at *
    generalize hz4 : bits BinOp.and IntKind.i64 u 4 = z4 at *
    generalize hz5 : bits BinOp.and IntKind.i64 u 32 = z5 at *
    generalize hz6 : bits BinOp.and IntKind.i64 u 16 = z6 at *
    have cA := fun w => field_any w a (hasB i 65) 7
    have cB := fun w => field_any w b (hasB i 66 || hasB i 77) (if hasB i 77 then 8 else 7)
    have cC := fun w => field_any w c (hasB i 67) 7
    generalize fieldI a (hasB i 65) 7 = fa at *
    generalize fieldI b (hasB i 66 || hasB i 77) (if hasB i 77 then 8 else 7) = fb at *
    generalize fieldI c (hasB i 67) 7 = fc at *
    generalize hasB i 65 = hA at *
    generalize hasB i 67 = hC at *
    generalize hasB i 84 = hT at *
    generalize hasB i 75 = hK at *
    generalize (hasB i 66 || hasB i 77) = hB at *
    generalize hasB i 77 = hM at *
    have HR := Lib.hid hr
    have HA := Lib.hid cA
    have HBB := Lib.hid cB
    have HC := Lib.hid cC
    obtain ⟨h0, h1⟩ := h
    clear hr cA cB cC T hbl
    cases hM
    all_goals
      go_enter Tryd.func39, Tryd.ntmps39
      go_wp2_with fail
      refine (iname_any _ _ HT.out).mono ?_; rintro e w' ⟨rfl, rfl⟩
      generalize opName (i : Int) = nm at *
      go_wp2_with fail
      refine (HA.out _).mono ?_; rintro e w' ⟨rfl, rfl⟩
      cases fa with
      | false =>
        go_wp2_with fail
        go_ret
        refine ⟨?_, HB.out⟩
        rw [← HR.out]; rfl
      | true =>
        go_wp2_with fail
        refine (HBB.out _).mono ?_; rintro e w' ⟨rfl, rfl⟩
        cases fb with
        | false =>
          go_wp2_with fail
          go_ret
          refine ⟨?_, HB.out⟩
          rw [← HR.out]; rfl
        | true =>
          go_wp2_with fail
          refine (HC.out _).mono ?_; rintro e w' ⟨rfl, rfl⟩
          cases fc with
          | false =>
            go_wp2_with fail
            go_ret
            refine ⟨?_, HB.out⟩
            rw [← HR.out]; rfl
          | true =>
            cases hT with
            | true =>
              have hcv1 : ∀ W, (convert 32 101 (.int .u32 k)).run Tryd.prog W = .ok (.int .u64 k) W := fun W => by go_simp; rw [IntKind.wrap_u64]; omega
              have hcv2 : ∀ W, (convert 3 101 (.int .i64 n)).run Tryd.prog W = .ok (.int .u64 n) W := fun W => by go_simp; rw [IntKind.wrap_u64]; omega
              have hge : decide ((0 : Int) ≤ n) = true := decide_eq_true (by omega)
              go_wp2_with fail
              all_goals go_ret
              all_goals refine ⟨?_, HB.out⟩
              all_goals rw [← HR.out]
              all_goals rfl
            | false =>
              cases hK with
              | true =>
                go_wp2_with fail
                go_ret
                refine ⟨?_, HB.out⟩
                rw [← HR.out]; rfl
              | false =>
                go_wp2_with fail
                go_ret
                refine ⟨?_, HB.out⟩
                rw [← HR.out]; rfl
  · rw [right_out h]
    have hem : opName o = [] := by unfold opName; rw [if_neg h]
    have HE := Lib.hid hem
    clear T hbl hem
    go_enter Tryd.func39, Tryd.ntmps39
    go_wp2_with fail
    refine (iname_any _ _ HT.out).mono ?_; rintro e w' ⟨rfl, rfl⟩
    rw [HE.out]
    go_wp2_with fail
    go_ret
    exact ⟨rfl, HB.out⟩
end Go.Proofs.YtlopmejmionnpaaDoor.As
