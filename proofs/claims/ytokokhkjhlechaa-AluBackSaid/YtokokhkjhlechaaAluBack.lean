/- AluBack: what is added is taken away again; products of sums are sums of products. No condition.
-/
import Derived.Test.YtokokhkjhlechaaAluPack
import Derived.WalkKit
import Derived.ProofKit
import Derived.OpenShut
import Derived.ChangeOld
import Derived.Below
import Derived.Carry
set_option linter.unusedVariables false
namespace Go.Proofs.Ytokokhkjhlechaa.aluBack
open Go.ChangeShapes Go.WideShapes Go.ChangeAt Go.RowKit Go.Proofs.Ytokokhkjhlechaa.Al
open Go.ChangeMaps (open_string shut_string)

theorem back0 (op : Int) (a b : Nat) : doI op (a : Int) (b : Int) = doN op a b := by unfold doI; rw [Int.toNat_natCast, Int.toNat_natCast]
theorem back1 (a b : Nat) (ha : a < 4294967296) (hb : b < 4294967296) : doN 4 (doN 3 a b) b = a := by
  unfold doN aluN; simp only [Int.reduceLE, and_self, if_true, Int.reduceToNat]
  omega
theorem back2 (a b : Nat) (ha : a < 4294967296) (hb : b < 4294967296) : doN 4 (doN 3 a b) a = b := by
  unfold doN aluN; simp only [Int.reduceLE, and_self, if_true, Int.reduceToNat]
  omega
theorem back3 (a : Nat) (ha : a < 4294967296) : doN 3 a (aluN 4 0 a) = 0 := by
  unfold doN aluN; simp only [Int.reduceLE, and_self, if_true, Int.reduceToNat]
  omega
theorem back4 (a b c : Nat) : doN 5 (doN 3 a b) c = doN 3 (doN 5 a c) (doN 5 b c) := by
  show (a + b) % 4294967296 * c % 4294967296 = (a * c % 4294967296 + b * c % 4294967296) % 4294967296
  rw [Nat.mod_mul_mod, Nat.add_mul]
  omega
theorem back5 (a b : Nat) : doN 8 (doN 8 a b) b = a := by
  show (a ^^^ b) ^^^ b = a
  rw [Nat.xor_assoc, Nat.xor_self, Nat.xor_zero]
set_option maxHeartbeats 800000 in
theorem core (a b c : Nat) (A : a < 4294967296) (B : b < 4294967296) (C : c < 4294967296) (w : World) :
    Calls Try.prog 6 #[.int .u32 a, .int .u32 b, .int .u32 c] w fun e w' => e = .returned (.bool true) ∧ Below w.heap.size w w' := by
  have U := fun op a b h h' => Lib.hid (doN_lt op a b h h')
  have L1 := doN_lt 3 a b A B
  have L2 := doN_lt 5 a c A C
  have L3 := doN_lt 5 b c B C
  have L4 := doN_lt 8 a b A B
  have L5 := aluN_lt 4 0 a (by omega) A
  have H1 := Lib.hid (back1 a b A B)
  have H2 := Lib.hid (back2 a b A B)
  have H3 := Lib.hid (back3 a A)
  have H4 := Lib.hid (back4 a b c)
  have H5 := Lib.hid (back5 a b)
  have t1 : ((a : Int) == (a : Int)) = true := beq_self_eq_true _
  have t2 : ((b : Int) == (b : Int)) = true := beq_self_eq_true _
  clear U
  go_enter Try.func6, Try.ntmps6
  go_wp2_with fail
  refine (awake_any _).mono ?_; rintro e wa ⟨rfl, ha⟩
  go_wp2_with fail
  refine (law_do 3 a b (by omega) (by omega) (by omega) (by omega) _).mono ?_; rintro e wc0 ⟨rfl, hc0⟩
  rw [back0]
  go_wp2_with fail
  refine (law_do 4 _ b (by omega) (by omega) (by omega) (by omega) _).mono ?_; rintro e wc1 ⟨rfl, hc1⟩
  rw [back0, H1.out]
  go_wp2_with fail
  refine (law_do 4 _ a (by omega) (by omega) (by omega) (by omega) _).mono ?_; rintro e wc2 ⟨rfl, hc2⟩
  rw [back0, H2.out]
  go_wp2_with fail
  refine (minus1 a A _).mono ?_; rintro e wc3 ⟨rfl, rfl⟩
  go_wp2_with fail
  refine (law_do 3 a _ (by omega) (by omega) (by omega) (by omega) _).mono ?_; rintro e wc4 ⟨rfl, hc4⟩
  rw [back0, H3.out]
  go_wp2_with fail
  refine (law_do 3 a b (by omega) (by omega) (by omega) (by omega) _).mono ?_; rintro e wc5 ⟨rfl, hc5⟩
  rw [back0]
  go_wp2_with fail
  refine (law_do 5 _ c (by omega) (by omega) (by omega) (by omega) _).mono ?_; rintro e wc6 ⟨rfl, hc6⟩
  rw [back0, H4.out]
  go_wp2_with fail
  refine (law_do 5 a c (by omega) (by omega) (by omega) (by omega) _).mono ?_; rintro e wc7 ⟨rfl, hc7⟩
  rw [back0]
  go_wp2_with fail
  refine (law_do 5 b c (by omega) (by omega) (by omega) (by omega) _).mono ?_; rintro e wc8 ⟨rfl, hc8⟩
  rw [back0]
  go_wp2_with fail
  refine (law_do 3 _ _ (by omega) (by omega) (by omega) (by omega) _).mono ?_; rintro e wc9 ⟨rfl, hc9⟩
  rw [back0]
  have t3 := beq_self_eq_true ((doN 3 (doN 5 a c) (doN 5 b c) : Nat) : Int)
  go_wp2_with fail
  refine (law_do 8 a b (by omega) (by omega) (by omega) (by omega) _).mono ?_; rintro e wc10 ⟨rfl, hc10⟩
  rw [back0]
  go_wp2_with fail
  refine (law_do 8 _ b (by omega) (by omega) (by omega) (by omega) _).mono ?_; rintro e wc11 ⟨rfl, hc11⟩
  rw [back0, H5.out]
  go_wp2
  go_ret
  have z := ha.size
  have z0 := hc0.size
  have z1 := hc1.size
  have z2 := hc2.size
  have z4 := hc4.size
  have z5 := hc5.size
  have z6 := hc6.size
  have z7 := hc7.size
  have z8 := hc8.size
  have z9 := hc9.size
  have z10 := hc10.size
  have z11 := hc11.size
  exact ⟨rfl, (((((((((((ha).trans (hc0.mono (by omega))).trans (hc1.mono (by omega))).trans (hc2.mono (by omega))).trans (hc4.mono (by omega))).trans (hc5.mono (by omega))).trans (hc6.mono (by omega))).trans (hc7.mono (by omega))).trans (hc8.mono (by omega))).trans (hc9.mono (by omega))).trans (hc10.mono (by omega))).trans (hc11.mono (by omega))⟩
theorem walk (a0 : Int) (w0 : (Lit.int .u32 a0).wf = true) (a1 : Int) (w1 : (Lit.int .u32 a1).wf = true) (a2 : Int) (w2 : (Lit.int .u32 a2).wf = true) (w : World) :
    Calls Try.prog 6 #[.int .u32 a0, .int .u32 a1, .int .u32 a2] w fun e w' => e = .returned (.bool true) ∧ Below w.heap.size w w' := by
  have b0 := bounds_u32 w0
  have b1 := bounds_u32 w1
  have b2 := bounds_u32 w2
  obtain ⟨a, rfl⟩ := Int.eq_ofNat_of_zero_le b0.1
  obtain ⟨b, rfl⟩ := Int.eq_ofNat_of_zero_le b1.1
  obtain ⟨c, rfl⟩ := Int.eq_ofNat_of_zero_le b2.1
  exact core a b c (by omega) (by omega) (by omega) w

theorem own : ownKnob Try.prog.godebug = none := by kernel_rfl
theorem laidOut : laidOutB Try.prog = true := by kernel_rfl

set_option maxRecDepth 100000 in
theorem lifted (os : Os) (started : os.Started) (H : Type) (enc : TypeId × Value → H) :
    ReturnsInHanded {} Try.checked os 6 .any (Rows.aluBackSpec.pre6 enc Try.prog Try.f6 Rows.aluBackRow.domain false) (Rows.aluBackSpec.post enc Try.prog Try.f6 false true false false) := by
  refine returnsInHanded_of_change (C := Try.checked) own started (by kernel_rfl) Try.func6
    (ChangeSpec.witness6 (enc := enc) (C := Try.checked) false ⟨#[], #[.int .u32 0, .int .u32 0, .int .u32 0], []⟩ 8 (by kernel_rfl) (by kernel_rfl) (by kernel_rfl) (by kernel_rfl)) ?_
  intro W base args ds gs before hval0 hW hcnd _
  have hval : ∀ (j : Nat) t v, Try.f6.params[j]? = some t → args[j]? = some v → Value.okWide Try.prog W .any base t v := hval0
  have hW' := hW
  obtain ⟨p, q, hA0, hV, rfl, hfz, hnd⟩ := hW
  have hA : DataW.TrodAll enc Try.prog W 0 (fun _ => true) true Try.f6.params.toList args.toList ds p := hA0
  rw [Try.params6] at hA hval
  obtain ⟨v0, vs0, d0, ds0, p0, q0, hargs, rfl, rfl, h0, r0⟩ := trodAll_cons hA
  obtain ⟨v1, vs1, d1, ds1, p1, q1, rfl, rfl, rfl, h1, r1⟩ := trodAll_cons r0
  obtain ⟨v2, vs2, d2, ds2, p2, q2, rfl, rfl, rfl, h2, r2⟩ := trodAll_cons r1
  obtain ⟨rfl, rfl, rfl⟩ := trodAll_nil r2
  obtain rfl : args = #[v0, v1, v2] := by cases args; simp_all
  obtain ⟨rfl, rfl⟩ := trodVars_none hV
  obtain ⟨a0, rfl, rfl, rfl, w0⟩ := open_int Try.underlying22 (hval 0 22 v0 rfl rfl) h0
  obtain ⟨a1, rfl, rfl, rfl, w1⟩ := open_int Try.underlying22 (hval 1 22 v1 rfl rfl) h1
  obtain ⟨a2, rfl, rfl, rfl, w2⟩ := open_int Try.underlying22 (hval 2 22 v2 rfl rfl) h2
  clear hA0 hval0
  refine (walk (w := W) a0 w0 a1 w1 a2 w2).mono fun e W' ⟨he, bel⟩ => ?_
  subst he
  exact ⟨_, rfl, _, _, _, [], _, [], hW', trodAll_mk1 (shut_bool Try.underlying4 _), (trodAll_cons_mk (shut_int Try.underlying22 w0) (trodAll_cons_mk (shut_int Try.underlying22 w1) (trodAll_cons_mk (shut_int Try.underlying22 w2) trodAll_mk0))), rfl, bel.frame _, fun h => by cases h⟩

theorem over : Rows.aluBackRow.holds Try.pinned (OpenSpec.ofChange Rows.aluBackSpec) :=
  OpenClaim.holds_of_wide 6 Try.f6 rfl rfl rfl rfl rfl rfl rfl ⟨rfl, rfl, rfl, rfl, rfl⟩ rfl rfl rfl rfl rfl (by kernel_rfl) Try.func6 (by kernel_rfl)
    (of_decide_eq_true (by kernel_rfl)) (by unfold Func.isWrapper; first | (rw [if_pos (by decide +kernel)]; kernel_rfl) | (rw [if_neg (by decide +kernel)]; exact ⟨rfl, rfl⟩))
    (fun os started H enc _ => lifted os started H enc)

/-- The statement. -/
theorem proved : Rows.AluBackSaid := over
#print axioms proved
end Go.Proofs.Ytokokhkjhlechaa.aluBack
