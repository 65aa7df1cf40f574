/- AluPlays: what any operation makes of any two words is the document’s, bit by bit. No condition.
-/
import Derived.Test.YtokokhkjhlechaaAluPack
import Derived.WalkKit
import Derived.ProofKit
import Derived.OpenShut
import Derived.ChangeOld
import Derived.Below
import Derived.Carry
set_option linter.unusedVariables false
namespace Go.Proofs.Ytokokhkjhlechaa.aluPlays
open Go.ChangeShapes Go.WideShapes Go.ChangeAt Go.RowKit Go.Proofs.Ytokokhkjhlechaa.Al
open Go.ChangeMaps (open_string shut_string)

set_option maxHeartbeats 800000 in
theorem core (op : Int) (a b : Nat) (A : a < 4294967296) (B : b < 4294967296) (w : World) :
    Calls Try.prog 5 #[.int .i64 op, .int .u32 a, .int .u32 b] w fun e w' => e = .returned (.bool true) ∧ Below w.heap.size w w' := by
  have t1 := beq_self_eq_true ((doN op a b : Nat) : Int)
  have t2 := beq_self_eq_true (isB op)
  have t3 := beq_self_eq_true ((aluN 4 0 a : Nat) : Int)
  have t4 : (((if isB op then 1 else 0 : Int) : Int) == 1) = isB op := by cases isB op <;> rfl
  have L1 := doN_lt op a b A B
  go_enter Try.func5, Try.ntmps5
  go_wp2_with fail
  refine (awake_any _).mono ?_; rintro e wa ⟨rfl, ha⟩
  go_wp2_with fail
  refine (do_nat op a b A B _).mono ?_; rintro e wc0 ⟨rfl, hc0⟩
  go_wp2_with fail
  refine (ref_any op a b A B _).mono ?_; rintro e wc1 ⟨rfl, hc1⟩
  generalize hq : (if isB op then 1 else 0 : Int) = q at *
  clear hq
  go_wp2_with fail
  refine (is_any op _).mono ?_; rintro e wc2 ⟨rfl, rfl⟩
  go_wp2_with fail
  refine (minus1 a A _).mono ?_; rintro e wc3 ⟨rfl, rfl⟩
  go_wp2_with fail
  refine (minus_any a A _).mono ?_; rintro e wc4 ⟨rfl, hc4⟩
  go_wp2
  go_ret
  have z := ha.size
  have z0 := hc0.size
  have z1 := hc1.size
  exact ⟨rfl, ((ha.trans (hc0.mono (by omega))).trans (hc1.mono (by omega))).trans (hc4.mono (by omega))⟩
theorem walk (a0 : Int) (w0 : (Lit.int .i64 a0).wf = true) (a1 : Int) (w1 : (Lit.int .u32 a1).wf = true) (a2 : Int) (w2 : (Lit.int .u32 a2).wf = true) (w : World) :
    Calls Try.prog 5 #[.int .i64 a0, .int .u32 a1, .int .u32 a2] w fun e w' => e = .returned (.bool true) ∧ Below w.heap.size w w' := by
  have b1 := bounds_u32 w1
  have b2 := bounds_u32 w2
  obtain ⟨a, rfl⟩ := Int.eq_ofNat_of_zero_le b1.1
  obtain ⟨b, rfl⟩ := Int.eq_ofNat_of_zero_le b2.1
  exact core a0 a b (by omega) (by omega) w

theorem own : ownKnob Try.prog.godebug = none := by kernel_rfl
theorem laidOut : laidOutB Try.prog = true := by kernel_rfl

set_option maxRecDepth 100000 in
theorem lifted (os : Os) (started : os.Started) (H : Type) (enc : TypeId × Value → H) :
    ReturnsInHanded {} Try.checked os 5 .any (Rows.aluPlaysSpec.pre6 enc Try.prog Try.f5 Rows.aluPlaysRow.domain false) (Rows.aluPlaysSpec.post enc Try.prog Try.f5 false true false false) := by
  refine returnsInHanded_of_change (C := Try.checked) own started (by kernel_rfl) Try.func5
    (ChangeSpec.witness6 (enc := enc) (C := Try.checked) false ⟨#[], #[.int .i64 0, .int .u32 0, .int .u32 0], []⟩ 8 (by kernel_rfl) (by kernel_rfl) (by kernel_rfl) (by kernel_rfl)) ?_
  intro W base args ds gs before hval0 hW hcnd _
  have hval : ∀ (j : Nat) t v, Try.f5.params[j]? = some t → args[j]? = some v → Value.okWide Try.prog W .any base t v := hval0
  have hW' := hW
  obtain ⟨p, q, hA0, hV, rfl, hfz, hnd⟩ := hW
  have hA : DataW.TrodAll enc Try.prog W 0 (fun _ => true) true Try.f5.params.toList args.toList ds p := hA0
  rw [Try.params5] at hA hval
  obtain ⟨v0, vs0, d0, ds0, p0, q0, hargs, rfl, rfl, h0, r0⟩ := trodAll_cons hA
  obtain ⟨v1, vs1, d1, ds1, p1, q1, rfl, rfl, rfl, h1, r1⟩ := trodAll_cons r0
  obtain ⟨v2, vs2, d2, ds2, p2, q2, rfl, rfl, rfl, h2, r2⟩ := trodAll_cons r1
  obtain ⟨rfl, rfl, rfl⟩ := trodAll_nil r2
  obtain rfl : args = #[v0, v1, v2] := by cases args; simp_all
  obtain ⟨rfl, rfl⟩ := trodVars_none hV
  obtain ⟨a0, rfl, rfl, rfl, w0⟩ := open_int Try.underlying3 (hval 0 3 v0 rfl rfl) h0
  obtain ⟨a1, rfl, rfl, rfl, w1⟩ := open_int Try.underlying22 (hval 1 22 v1 rfl rfl) h1
  obtain ⟨a2, rfl, rfl, rfl, w2⟩ := open_int Try.underlying22 (hval 2 22 v2 rfl rfl) h2
  clear hA0 hval0
  refine (walk (w := W) a0 w0 a1 w1 a2 w2).mono fun e W' ⟨he, bel⟩ => ?_
  subst he
  exact ⟨_, rfl, _, _, _, [], _, [], hW', trodAll_mk1 (shut_bool Try.underlying4 _), (trodAll_cons_mk (shut_int Try.underlying3 w0) (trodAll_cons_mk (shut_int Try.underlying22 w1) (trodAll_cons_mk (shut_int Try.underlying22 w2) trodAll_mk0))), rfl, bel.frame _, fun h => by cases h⟩

theorem over : Rows.aluPlaysRow.holds Try.pinned (OpenSpec.ofChange Rows.aluPlaysSpec) :=
  OpenClaim.holds_of_wide 5 Try.f5 rfl rfl rfl rfl rfl rfl rfl ⟨rfl, rfl, rfl, rfl, rfl⟩ rfl rfl rfl rfl rfl (by kernel_rfl) Try.func5 (by kernel_rfl)
    (of_decide_eq_true (by kernel_rfl)) (by unfold Func.isWrapper; first | (rw [if_pos (by decide +kernel)]; kernel_rfl) | (rw [if_neg (by decide +kernel)]; exact ⟨rfl, rfl⟩))
    (fun os started H enc _ => lifted os started H enc)

/-- The statement. -/
theorem proved : Rows.AluPlaysSaid := over
#print axioms proved
end Go.Proofs.Ytokokhkjhlechaa.aluPlays
