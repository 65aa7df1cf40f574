/- AluShifts: what is moved up is multiplied by 2 as often, moved down divided. No condition.
-/
import Derived.Test.YtokokhkjhlechaaAluPack
import Derived.WalkKit
import Derived.ProofKit
import Derived.OpenShut
import Derived.ChangeOld
import Derived.Below
import Derived.Carry
set_option linter.unusedVariables false
namespace Go.Proofs.Ytokokhkjhlechaa.aluShifts
open Go.ChangeShapes Go.WideShapes Go.ChangeAt Go.RowKit Go.Proofs.Ytokokhkjhlechaa.Al
open Go.ChangeMaps (open_string shut_string)

theorem shl_far (a n m : Nat) (hn : n < 32) : doN 9 a (n + 32 * m) = a * 2 ^ n % 4294967296 := by
  unfold doN aluN
  simp only [Int.reduceLE, and_self, if_true, Int.reduceToNat]
  rw [show (n + 32 * m) % 32 = n from by omega]
theorem shr_far (a n m : Nat) (hn : n < 32) : doN 10 a (n + 32 * m) = a / 2 ^ n := by
  unfold doN aluN
  simp only [Int.reduceLE, and_self, if_true, Int.reduceToNat]
  rw [show (n + 32 * m) % 32 = n from by omega]
theorem up_step (a k : Nat) : doI 5 ((a * 2 ^ k % 4294967296 : Nat) : Int) 2 = a * 2 ^ (k + 1) % 4294967296 := by
  have e : doI 5 ((a * 2 ^ k % 4294967296 : Nat) : Int) 2 = (a * 2 ^ k % 4294967296) * 2 % 4294967296 := rfl
  rw [e, Nat.mod_mul_mod, Nat.pow_succ, Nat.mul_assoc]
theorem doI_nat (op : Int) (a b : Nat) : doI op (a : Int) (b : Int) = doN op a b := by unfold doI; rw [Int.toNat_natCast, Int.toNat_natCast]
set_option maxHeartbeats 800000 in
theorem core (a b c : Nat) (A : a < 4294967296) (B : b < 256) (C : c < 65536) (w : World) :
    Calls Try.prog 4 #[.int .u32 a, .int .u8 b, .int .u16 c] w fun e w' => e = .returned (.bool true) ∧ Below w.heap.size w w' := by
  go_enter Try.func4, Try.ntmps4
  go_wp2_with fail
  refine (awake_any _).mono ?_; rintro e wa ⟨rfl, ha⟩
  go_wp2_with fail
  go_loopw [8, 9, 10] (fun u d i wr => ∃ k x y : Nat, k ≤ b % 32 ∧ i = .int .i64 k ∧ u = .int .u32 x ∧ d = .int .u32 y ∧ x < 4294967296 ∧ y < 4294967296 ∧ Hid (x = a * 2 ^ k % 4294967296) ∧ Hid (y = a / 2 ^ k) ∧ Below w.heap.size w wr) (fun _ _ i _ => b % 32 - (intOf i).toNat)
  case atStart => exact ⟨0, a, a, by omega, rfl, rfl, rfl, A, A, by show a = _; simp; omega, by show a = _; simp, ha⟩
  case round =>
    obtain ⟨k, x, y, hk, rfl, rfl, rfl, hx, hy, HX, HY, hb⟩ := hrel
    by_cases hlt : k < b % 32
    · have d1 : decide ((k : Int) < (b : Int) % 32) = true := by simp; omega
      go_wp2_with fail
      refine (law_do 5 x 2 (by omega) (by omega) (by omega) (by omega) _).mono ?_; rintro e w1 ⟨rfl, h1⟩
      go_wp2
      refine ⟨⟨k + 1, _, y / 2, by omega, rfl, rfl, by simp, doI_lt _ _ _ (by omega) (by omega), by omega, ?_, ?_, hb.trans (h1.mono hb.size)⟩, by simp [intOf]; omega⟩
      · show doI 5 (x : Int) 2 = _; rw [HX.out, up_step]
      · show y / 2 = _; rw [HY.out, Nat.pow_succ, Nat.div_div_eq_div_mul]
    · have d1 : decide ((k : Int) < (b : Int) % 32) = false := by simp; omega
      have hkk : k = b % 32 := by omega
      have H1 := Lib.hid ((shl_far a (b % 32) c (by omega)).trans (by rw [← hkk, ← HX.out] : _ = x))
      have H2 := Lib.hid ((shr_far a (b % 32) c (by omega)).trans (by rw [← hkk, ← HY.out] : _ = y))
      clear hkk
      have t1 := beq_self_eq_true (x : Int)
      have t2 := beq_self_eq_true (y : Int)
      have e1 : (((b % 32 + 32 * c : Nat)) : Int) = (b : Int) % 32 + 32 * (c : Int) := by omega
      have E1 := Lib.hid e1
      clear e1
      go_wp2_with fail
      refine (law_do 9 a _ (by omega) (by omega) (by omega) (by omega) _).mono ?_; rintro e w1 ⟨rfl, h1⟩
      rw [← E1.out, doI_nat, H1.out]
      go_wp2_with fail
      refine (law_do 10 a _ (by omega) (by omega) (by omega) (by omega) _).mono ?_; rintro e w2 ⟨rfl, h2⟩
      first | rw [← E1.out, doI_nat, H2.out] | rw [doI_nat, H2.out]
      go_wp2
      go_ret
      have z0 := hb.size
      have z1 := h1.size
      exact ⟨rfl, (hb.trans (h1.mono (by omega))).trans (h2.mono (by omega))⟩
theorem walk (a0 : Int) (w0 : (Lit.int .u32 a0).wf = true) (a1 : Int) (w1 : (Lit.int .u8 a1).wf = true) (a2 : Int) (w2 : (Lit.int .u16 a2).wf = true) (w : World) :
    Calls Try.prog 4 #[.int .u32 a0, .int .u8 a1, .int .u16 a2] w fun e w' => e = .returned (.bool true) ∧ Below w.heap.size w w' := by
  have b0 := bounds_u32 w0
  have b1 := bounds_u8 w1
  have b2 := bounds_u16 w2
  obtain ⟨a, rfl⟩ := Int.eq_ofNat_of_zero_le b0.1
  obtain ⟨b, rfl⟩ := Int.eq_ofNat_of_zero_le b1.1
  obtain ⟨c, rfl⟩ := Int.eq_ofNat_of_zero_le b2.1
  exact core a b c (by omega) (by omega) (by omega) w

theorem own : ownKnob Try.prog.godebug = none := by kernel_rfl
theorem laidOut : laidOutB Try.prog = true := by kernel_rfl

set_option maxRecDepth 100000 in
theorem lifted (os : Os) (started : os.Started) (H : Type) (enc : TypeId × Value → H) :
    ReturnsInHanded {} Try.checked os 4 .any (Rows.aluShiftsSpec.pre6 enc Try.prog Try.f4 Rows.aluShiftsRow.domain false) (Rows.aluShiftsSpec.post enc Try.prog Try.f4 false true false false) := by
  refine returnsInHanded_of_change (C := Try.checked) own started (by kernel_rfl) Try.func4
    (ChangeSpec.witness6 (enc := enc) (C := Try.checked) false ⟨#[], #[.int .u32 0, .int .u8 0, .int .u16 0], []⟩ 8 (by kernel_rfl) (by kernel_rfl) (by kernel_rfl) (by kernel_rfl)) ?_
  intro W base args ds gs before hval0 hW hcnd _
  have hval : ∀ (j : Nat) t v, Try.f4.params[j]? = some t → args[j]? = some v → Value.okWide Try.prog W .any base t v := hval0
  have hW' := hW
  obtain ⟨p, q, hA0, hV, rfl, hfz, hnd⟩ := hW
  have hA : DataW.TrodAll enc Try.prog W 0 (fun _ => true) true Try.f4.params.toList args.toList ds p := hA0
  rw [Try.params4] at hA hval
  obtain ⟨v0, vs0, d0, ds0, p0, q0, hargs, rfl, rfl, h0, r0⟩ := trodAll_cons hA
  obtain ⟨v1, vs1, d1, ds1, p1, q1, rfl, rfl, rfl, h1, r1⟩ := trodAll_cons r0
  obtain ⟨v2, vs2, d2, ds2, p2, q2, rfl, rfl, rfl, h2, r2⟩ := trodAll_cons r1
  obtain ⟨rfl, rfl, rfl⟩ := trodAll_nil r2
  obtain rfl : args = #[v0, v1, v2] := by cases args; simp_all
  obtain ⟨rfl, rfl⟩ := trodVars_none hV
  obtain ⟨a0, rfl, rfl, rfl, w0⟩ := open_int Try.underlying22 (hval 0 22 v0 rfl rfl) h0
  obtain ⟨a1, rfl, rfl, rfl, w1⟩ := open_int Try.underlying5 (hval 1 5 v1 rfl rfl) h1
  obtain ⟨a2, rfl, rfl, rfl, w2⟩ := open_int Try.underlying26 (hval 2 26 v2 rfl rfl) h2
  clear hA0 hval0
  refine (walk (w := W) a0 w0 a1 w1 a2 w2).mono fun e W' ⟨he, bel⟩ => ?_
  subst he
  exact ⟨_, rfl, _, _, _, [], _, [], hW', trodAll_mk1 (shut_bool Try.underlying4 _), (trodAll_cons_mk (shut_int Try.underlying22 w0) (trodAll_cons_mk (shut_int Try.underlying5 w1) (trodAll_cons_mk (shut_int Try.underlying26 w2) trodAll_mk0))), rfl, bel.frame _, fun h => by cases h⟩

theorem over : Rows.aluShiftsRow.holds Try.pinned (OpenSpec.ofChange Rows.aluShiftsSpec) :=
  OpenClaim.holds_of_wide 4 Try.f4 rfl rfl rfl rfl rfl rfl rfl ⟨rfl, rfl, rfl, rfl, rfl⟩ rfl rfl rfl rfl rfl (by kernel_rfl) Try.func4 (by kernel_rfl)
    (of_decide_eq_true (by kernel_rfl)) (by unfold Func.isWrapper; first | (rw [if_pos (by decide +kernel)]; kernel_rfl) | (rw [if_neg (by decide +kernel)]; exact ⟨rfl, rfl⟩))
    (fun os started H enc _ => lifted os started H enc)

/-- The statement. -/
theorem proved : Rows.AluShiftsSaid := over
#print axioms proved
end Go.Proofs.Ytokokhkjhlechaa.aluShifts
