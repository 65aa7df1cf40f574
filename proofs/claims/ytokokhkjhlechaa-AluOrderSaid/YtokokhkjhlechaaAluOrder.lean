/- AluOrder: of two words just one is less, or they are the same. No condition.
-/
import Derived.Test.YtokokhkjhlechaaAluPack
import Derived.WalkKit
import Derived.ProofKit
import Derived.OpenShut
import Derived.ChangeOld
import Derived.Below
import Derived.Carry
set_option linter.unusedVariables false
namespace Go.Proofs.Ytokokhkjhlechaa.aluOrder
open Go.ChangeShapes Go.WideShapes Go.ChangeAt Go.RowKit Go.Proofs.Ytokokhkjhlechaa.Al
open Go.ChangeMaps (open_string shut_string)

theorem order1 (a b : Int) (ha : 0 ≤ a) (hb : 0 ≤ b) : doI 11 a b + doI 11 b a + doI 12 a b = 1 := by
  unfold doI doN aluN
  simp only [Int.reduceLE, and_self, if_true, Int.reduceToNat]
  split <;> split <;> split <;> omega
theorem order2 (a : Int) (ha : 0 ≤ a) : doI 9 a 1 = doI 3 a a := by
  unfold doI doN aluN
  simp only [Int.reduceLE, and_self, if_true, Int.reduceToNat, Nat.reduceMod, Nat.reducePow]
  omega
theorem order3 (a : Int) (ha : 0 ≤ a) (ha1 : a < 4294967296) : doI 10 (doI 9 a 1 : Nat) 1 = doI 6 a 2147483647 := by
  obtain ⟨n, rfl⟩ := Int.eq_ofNat_of_zero_le ha
  have e : doI 6 n 2147483647 = n &&& (2 ^ 31 - 1) := rfl
  have e1 : doI 9 n 1 = n * 2 % 4294967296 := rfl
  have e2 : doI 10 (doI 9 n 1 : Nat) 1 = doI 9 n 1 / 2 := rfl
  rw [e, Nat.and_two_pow_sub_one_eq_mod, e2, e1]
  omega
set_option maxHeartbeats 400000 in
theorem walk (a0 : Int) (w0 : (Lit.int .u32 a0).wf = true) (a1 : Int) (w1 : (Lit.int .u32 a1).wf = true) (w : World) :
    Calls Try.prog 3 #[.int .u32 a0, .int .u32 a1] w fun e w' => e = .returned (.bool true) ∧ Below w.heap.size w w' := by
  have b0 := bounds_u32 w0
  have b1 := bounds_u32 w1
  have l1 := order1 a0 a1 (by omega) (by omega)
  have H1 := Lib.hid l1
  have H2 := Lib.hid (order2 a0 (by omega))
  have l3 := order3 a0 (by omega) (by omega)
  rw [order2 a0 (by omega)] at l3
  have H3 := Lib.hid l3
  have u1 : doI 11 a0 a1 ≤ 1 := by omega
  have u2 : doI 11 a1 a0 ≤ 1 := by omega
  have u3 : doI 12 a0 a1 ≤ 1 := by omega
  have u4 := doI_lt 9 a0 1 (by omega) (by omega)
  have u5 := doI_lt 3 a0 a0 (by omega) (by omega)
  clear l1 l3
  go_enter Try.func3, Try.ntmps3
  go_wp2_with fail
  refine (awake_any _).mono ?_; rintro e wa ⟨rfl, ha⟩
  go_wp2_with fail
  refine (law_do 11 a0 a1 (by omega) (by omega) (by omega) (by omega) _).mono ?_; rintro e wc0 ⟨rfl, hc0⟩
  go_wp2_with fail
  refine (law_do 11 a1 a0 (by omega) (by omega) (by omega) (by omega) _).mono ?_; rintro e wc1 ⟨rfl, hc1⟩
  go_wp2_with fail
  refine (law_do 12 a0 a1 (by omega) (by omega) (by omega) (by omega) _).mono ?_; rintro e wc2 ⟨rfl, hc2⟩
  generalize doI 11 a0 a1 = x at *
  generalize doI 11 a1 a0 = y at *
  generalize doI 12 a0 a1 = z at *
  have t : (((x : Int) + y + z) == 1) = true := by rw [beq_iff_eq]; have := H1.out; omega
  go_wp2_with fail
  refine (law_do 9 a0 1 (by omega) (by omega) (by omega) (by omega) _).mono ?_; rintro e wc3 ⟨rfl, hc3⟩
  rw [H2.out]
  go_wp2_with fail
  refine (law_do 3 a0 a0 (by omega) (by omega) (by omega) (by omega) _).mono ?_; rintro e wc4 ⟨rfl, hc4⟩
  have t2 : (((doI 3 a0 a0 : Nat) : Int) == ((doI 3 a0 a0 : Nat) : Int)) = true := beq_self_eq_true _
  go_wp2_with fail
  refine (law_do 9 a0 1 (by omega) (by omega) (by omega) (by omega) _).mono ?_; rintro e wc5 ⟨rfl, hc5⟩
  rw [H2.out]
  go_wp2_with fail
  refine (law_do 10 _ 1 (by omega) (by omega) (by omega) (by omega) _).mono ?_; rintro e wc6 ⟨rfl, hc6⟩
  rw [H3.out]
  go_wp2_with fail
  refine (law_do 6 a0 2147483647 (by omega) (by omega) (by omega) (by omega) _).mono ?_; rintro e wc7 ⟨rfl, hc7⟩
  have t3 : (((doI 6 a0 2147483647 : Nat) : Int) == ((doI 6 a0 2147483647 : Nat) : Int)) = true := beq_self_eq_true _
  go_wp2
  go_ret
  have z := ha.size
  have z0 := hc0.size
  have z1 := hc1.size
  have z2 := hc2.size
  have z3 := hc3.size
  have z4 := hc4.size
  have z5 := hc5.size
  have z6 := hc6.size
  have z7 := hc7.size
  exact ⟨rfl, ((((((((ha).trans (hc0.mono (by omega))).trans (hc1.mono (by omega))).trans (hc2.mono (by omega))).trans (hc3.mono (by omega))).trans (hc4.mono (by omega))).trans (hc5.mono (by omega))).trans (hc6.mono (by omega))).trans (hc7.mono (by omega))⟩

theorem own : ownKnob Try.prog.godebug = none := by kernel_rfl
theorem laidOut : laidOutB Try.prog = true := by kernel_rfl

set_option maxRecDepth 100000 in
theorem lifted (os : Os) (started : os.Started) (H : Type) (enc : TypeId × Value → H) :
    ReturnsInHanded {} Try.checked os 3 .any (Rows.aluOrderSpec.pre6 enc Try.prog Try.f3 Rows.aluOrderRow.domain false) (Rows.aluOrderSpec.post enc Try.prog Try.f3 false true false false) := by
  refine returnsInHanded_of_change (C := Try.checked) own started (by kernel_rfl) Try.func3
    (ChangeSpec.witness6 (enc := enc) (C := Try.checked) false ⟨#[], #[.int .u32 0, .int .u32 0], []⟩ 8 (by kernel_rfl) (by kernel_rfl) (by kernel_rfl) (by kernel_rfl)) ?_
  intro W base args ds gs before hval0 hW hcnd _
  have hval : ∀ (j : Nat) t v, Try.f3.params[j]? = some t → args[j]? = some v → Value.okWide Try.prog W .any base t v := hval0
  have hW' := hW
  obtain ⟨p, q, hA0, hV, rfl, hfz, hnd⟩ := hW
  have hA : DataW.TrodAll enc Try.prog W 0 (fun _ => true) true Try.f3.params.toList args.toList ds p := hA0
  rw [Try.params3] at hA hval
  obtain ⟨v0, vs0, d0, ds0, p0, q0, hargs, rfl, rfl, h0, r0⟩ := trodAll_cons hA
  obtain ⟨v1, vs1, d1, ds1, p1, q1, rfl, rfl, rfl, h1, r1⟩ := trodAll_cons r0
  obtain ⟨rfl, rfl, rfl⟩ := trodAll_nil r1
  obtain rfl : args = #[v0, v1] := by cases args; simp_all
  obtain ⟨rfl, rfl⟩ := trodVars_none hV
  obtain ⟨a0, rfl, rfl, rfl, w0⟩ := open_int Try.underlying22 (hval 0 22 v0 rfl rfl) h0
  obtain ⟨a1, rfl, rfl, rfl, w1⟩ := open_int Try.underlying22 (hval 1 22 v1 rfl rfl) h1
  clear hA0 hval0
  refine (walk (w := W) a0 w0 a1 w1).mono fun e W' ⟨he, bel⟩ => ?_
  subst he
  exact ⟨_, rfl, _, _, _, [], _, [], hW', trodAll_mk1 (shut_bool Try.underlying4 _), (trodAll_cons_mk (shut_int Try.underlying22 w0) (trodAll_cons_mk (shut_int Try.underlying22 w1) trodAll_mk0)), rfl, bel.frame _, fun h => by cases h⟩

theorem over : Rows.aluOrderRow.holds Try.pinned (OpenSpec.ofChange Rows.aluOrderSpec) :=
  OpenClaim.holds_of_wide 3 Try.f3 rfl rfl rfl rfl rfl rfl rfl ⟨rfl, rfl, rfl, rfl, rfl⟩ rfl rfl rfl rfl rfl (by kernel_rfl) Try.func3 (by kernel_rfl)
    (of_decide_eq_true (by kernel_rfl)) (by unfold Func.isWrapper; first | (rw [if_pos (by decide +kernel)]; kernel_rfl) | (rw [if_neg (by decide +kernel)]; exact ⟨rfl, rfl⟩))
    (fun os started H enc _ => lifted os started H enc)

/-- The statement. -/
theorem proved : Rows.AluOrderSaid := over
#print axioms proved
end Go.Proofs.Ytokokhkjhlechaa.aluOrder
