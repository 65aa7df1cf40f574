/- The walks of the package alu, and of what all statements of layer 1 begin with. -/
import Derived.Test.YtokokhkjhlechaaAluRef
set_option linter.unusedVariables false
namespace Go.Proofs.Ytokokhkjhlechaa.Al
open Go.RowKit

theorem is_yes (op : Int) (h : 3 ≤ op) (h' : op ≤ 12) (w : World) :
    Calls Try.prog 12 #[.int .i64 op] w fun e w' => e = .returned (.bool true) ∧ w = w' := by
  go_enter Try.func12, Try.ntmps12
  go_wp2
  go_ret
  exact ⟨rfl, rfl⟩
theorem is_low (op : Int) (h : op < 3) (w : World) :
    Calls Try.prog 12 #[.int .i64 op] w fun e w' => e = .returned (.bool false) ∧ w = w' := by
  have d : decide (3 ≤ op) = false := by simp; omega
  go_enter Try.func12, Try.ntmps12
  go_wp2
  go_ret
  exact ⟨rfl, rfl⟩
theorem is_high (op : Int) (h : 12 < op) (w : World) :
    Calls Try.prog 12 #[.int .i64 op] w fun e w' => e = .returned (.bool false) ∧ w = w' := by
  have d : decide (op ≤ 12) = false := by simp; omega
  go_enter Try.func12, Try.ntmps12
  go_wp2
  go_ret
  exact ⟨rfl, rfl⟩
theorem is_any (op : Int) (w : World) :
    Calls Try.prog 12 #[.int .i64 op] w fun e w' => e = .returned (.bool (isB op)) ∧ w = w' := by
  by_cases h : 3 ≤ op
  · by_cases h' : op ≤ 12
    · rw [show isB op = true from by simp [isB, h, h']]; exact is_yes op h h' w
    · rw [show isB op = false from by simp [isB, h']]; exact is_high op (by omega) w
  · rw [show isB op = false from by simp [isB, h]]; exact is_low op (by omega) w
theorem minus1 (n : Nat) (hn : n < 4294967296) (w : World) :
    Calls Try.prog 13 #[.int .u32 n] w fun e w' => e = .returned (.int .u32 (aluN 4 0 n : Nat)) ∧ w = w' := by
  go_enter Try.func13, Try.ntmps13
  go_wp2
  go_ret
  exact ⟨retint (by unfold aluN; simp only []; omega), rfl⟩
theorem ret2b {k : IntKind} {a b : Int} {c : Bool} (h : a = b) : Ending.returned (.tuple #[.int k a, .bool c]) = .returned (.tuple #[.int k b, .bool c]) := by rw [h]
theorem do_3 (a b : Nat) (ha : a < 4294967296) (hb : b < 4294967296) (w : World) :
    Calls Try.prog 10 #[.int .i64 3, .int .u32 a, .int .u32 b] w fun e w' => e = .returned (.tuple #[.int .u32 (aluN 3 a b : Nat), .bool true]) ∧ Below w.heap.size w w' := by
  go_enter Try.func10, Try.ntmps10
  go_wp2
  go_ret2
  exact ⟨ret2b (by unfold aluN; simp only []; omega), ((Below.refl _ _).alloc (Nat.le_refl _) _)⟩
theorem do_4 (a b : Nat) (ha : a < 4294967296) (hb : b < 4294967296) (w : World) :
    Calls Try.prog 10 #[.int .i64 4, .int .u32 a, .int .u32 b] w fun e w' => e = .returned (.tuple #[.int .u32 (aluN 4 a b : Nat), .bool true]) ∧ Below w.heap.size w w' := by
  go_enter Try.func10, Try.ntmps10
  go_wp2
  go_ret2
  exact ⟨ret2b (by unfold aluN; simp only []; omega), ((Below.refl _ _).alloc (Nat.le_refl _) _)⟩
theorem do_5 (a b : Nat) (ha : a < 4294967296) (hb : b < 4294967296) (w : World) :
    Calls Try.prog 10 #[.int .i64 5, .int .u32 a, .int .u32 b] w fun e w' => e = .returned (.tuple #[.int .u32 (aluN 5 a b : Nat), .bool true]) ∧ Below w.heap.size w w' := by
  go_enter Try.func10, Try.ntmps10
  go_wp2
  go_ret2
  exact ⟨ret2b (by unfold aluN; simp only []; simp), ((Below.refl _ _).alloc (Nat.le_refl _) _)⟩
theorem do_6 (a b : Nat) (ha : a < 4294967296) (hb : b < 4294967296) (w : World) :
    Calls Try.prog 10 #[.int .i64 6, .int .u32 a, .int .u32 b] w fun e w' => e = .returned (.tuple #[.int .u32 (aluN 6 a b : Nat), .bool true]) ∧ Below w.heap.size w w' := by
  go_enter Try.func10, Try.ntmps10
  go_wp2
  go_ret2
  exact ⟨ret2b (by exact bits_and_u32 a b ha hb), ((Below.refl _ _).alloc (Nat.le_refl _) _)⟩
theorem do_7 (a b : Nat) (ha : a < 4294967296) (hb : b < 4294967296) (w : World) :
    Calls Try.prog 10 #[.int .i64 7, .int .u32 a, .int .u32 b] w fun e w' => e = .returned (.tuple #[.int .u32 (aluN 7 a b : Nat), .bool true]) ∧ Below w.heap.size w w' := by
  go_enter Try.func10, Try.ntmps10
  go_wp2
  go_ret2
  exact ⟨ret2b (by exact bits_or_u32 a b ha hb), ((Below.refl _ _).alloc (Nat.le_refl _) _)⟩
theorem do_8 (a b : Nat) (ha : a < 4294967296) (hb : b < 4294967296) (w : World) :
    Calls Try.prog 10 #[.int .i64 8, .int .u32 a, .int .u32 b] w fun e w' => e = .returned (.tuple #[.int .u32 (aluN 8 a b : Nat), .bool true]) ∧ Below w.heap.size w w' := by
  go_enter Try.func10, Try.ntmps10
  go_wp2
  go_ret2
  exact ⟨ret2b (by exact bits_xor_u32 a b ha hb), ((Below.refl _ _).alloc (Nat.le_refl _) _)⟩
theorem do_9 (a b : Nat) (ha : a < 4294967296) (hb : b < 4294967296) (w : World) :
    Calls Try.prog 10 #[.int .i64 9, .int .u32 a, .int .u32 b] w fun e w' => e = .returned (.tuple #[.int .u32 (aluN 9 a b : Nat), .bool true]) ∧ Below w.heap.size w w' := by
  go_enter Try.func10, Try.ntmps10
  go_wp2
  go_ret2
  exact ⟨ret2b (by unfold aluN; simp only []; simp), ((Below.refl _ _).alloc (Nat.le_refl _) _)⟩
theorem do_10 (a b : Nat) (ha : a < 4294967296) (hb : b < 4294967296) (w : World) :
    Calls Try.prog 10 #[.int .i64 10, .int .u32 a, .int .u32 b] w fun e w' => e = .returned (.tuple #[.int .u32 (aluN 10 a b : Nat), .bool true]) ∧ Below w.heap.size w w' := by
  go_enter Try.func10, Try.ntmps10
  go_wp2
  go_ret2
  exact ⟨ret2b (by unfold aluN; simp only []; simp), ((Below.refl _ _).alloc (Nat.le_refl _) _)⟩
theorem do_11 (a b : Nat) (ha : a < 4294967296) (hb : b < 4294967296) (w : World) :
    Calls Try.prog 10 #[.int .i64 11, .int .u32 a, .int .u32 b] w fun e w' => e = .returned (.tuple #[.int .u32 (aluN 11 a b : Nat), .bool true]) ∧ Below w.heap.size w w' := by
  by_cases hc : (a : Int) < (b : Int)
  · have hd : decide ((a : Int) < (b : Int)) = true := by simpa using hc
    go_enter Try.func10, Try.ntmps10
    go_wp2
    go_ret2
    exact ⟨ret2b (by unfold aluN; simp only []; first | (rw [if_pos (by omega)]; rfl) | (rw [if_neg (by omega)]; rfl)), ((Below.refl _ _).alloc (Nat.le_refl _) _)⟩
  · have hd : decide ((a : Int) < (b : Int)) = false := by simpa using hc
    go_enter Try.func10, Try.ntmps10
    go_wp2
    go_ret2
    exact ⟨ret2b (by unfold aluN; simp only []; first | (rw [if_pos (by omega)]; rfl) | (rw [if_neg (by omega)]; rfl)), ((Below.refl _ _).alloc (Nat.le_refl _) _)⟩
theorem do_12 (a b : Nat) (ha : a < 4294967296) (hb : b < 4294967296) (w : World) :
    Calls Try.prog 10 #[.int .i64 12, .int .u32 a, .int .u32 b] w fun e w' => e = .returned (.tuple #[.int .u32 (aluN 12 a b : Nat), .bool true]) ∧ Below w.heap.size w w' := by
  by_cases hc : a = b
  · subst hc
    have hd : ((a : Int) == (a : Int)) = true := beq_self_eq_true _
    go_enter Try.func10, Try.ntmps10
    go_wp2
    go_ret2
    exact ⟨ret2b (by unfold aluN; simp), ((Below.refl _ _).alloc (Nat.le_refl _) _)⟩
  · have hd : ((a : Int) == (b : Int)) = false := by rw [beq_eq_false_iff_ne]; omega
    go_enter Try.func10, Try.ntmps10
    go_wp2
    go_ret2
    exact ⟨ret2b (by unfold aluN; simp only []; first | (rw [if_pos (by omega)]; rfl) | (rw [if_neg (by omega)]; rfl)), ((Below.refl _ _).alloc (Nat.le_refl _) _)⟩
theorem do_none (op : Int) (a b : Nat) (h : op < 3 ∨ 12 < op) (w : World) :
    Calls Try.prog 10 #[.int .i64 op, .int .u32 a, .int .u32 b] w fun e w' => e = .returned (.tuple #[.int .u32 0, .bool false]) ∧ Below w.heap.size w w' := by
  have hi : isB op = false := by
    simp only [isB, Bool.and_eq_false_iff, decide_eq_false_iff_not]; omega
  go_enter Try.func10, Try.ntmps10
  go_wp2_with fail
  refine (is_any op _).mono ?_; rintro e w' ⟨rfl, rfl⟩
  rw [hi]
  go_wp2
  go_ret2
  exact ⟨rfl, Below.refl _ _⟩
theorem do_nat (op : Int) (a b : Nat) (ha : a < 4294967296) (hb : b < 4294967296) (w : World) :
    Calls Try.prog 10 #[.int .i64 op, .int .u32 a, .int .u32 b] w fun e w' => e = .returned (.tuple #[.int .u32 (doN op a b : Nat), .bool (isB op)]) ∧ Below w.heap.size w w' := by
  by_cases h : 3 ≤ op ∧ op ≤ 12
  · have hi : isB op = true := by simp [isB, h]
    unfold doN
    rw [if_pos h, hi]
    obtain ⟨n, rfl⟩ := Int.eq_ofNat_of_zero_le (by omega : 0 ≤ op)
    rw [Int.toNat_natCast]
    have hn : n = 3 ∨ n = 4 ∨ n = 5 ∨ n = 6 ∨ n = 7 ∨ n = 8 ∨ n = 9 ∨ n = 10 ∨ n = 11 ∨ n = 12 := by omega
    rcases hn with rfl | rfl | rfl | rfl | rfl | rfl | rfl | rfl | rfl | rfl
    · exact do_3 a b ha hb w
    · exact do_4 a b ha hb w
    · exact do_5 a b ha hb w
    · exact do_6 a b ha hb w
    · exact do_7 a b ha hb w
    · exact do_8 a b ha hb w
    · exact do_9 a b ha hb w
    · exact do_10 a b ha hb w
    · exact do_11 a b ha hb w
    · exact do_12 a b ha hb w
  · have hi : isB op = false := by
      simp only [isB, Bool.and_eq_false_iff, decide_eq_false_iff_not]; omega
    unfold doN
    rw [if_neg h, hi]
    exact do_none op a b (by omega) w
/-- Do, as it is called: words as integers. -/
def doI (op a b : Int) : Nat := doN op a.toNat b.toNat
theorem doI_lt (op a b : Int) (ha : a < 4294967296) (hb : b < 4294967296) : doI op a b < 4294967296 := doN_lt _ _ _ (by omega) (by omega)
theorem do_any (op a b : Int) (a0 : 0 ≤ a) (a1 : a < 4294967296) (b0 : 0 ≤ b) (b1 : b < 4294967296) (w : World) :
    Calls Try.prog 10 #[.int .i64 op, .int .u32 a, .int .u32 b] w fun e w' => e = .returned (.tuple #[.int .u32 (doI op a b : Nat), .bool (isB op)]) ∧ Below w.heap.size w w' := by
  obtain ⟨n, rfl⟩ := Int.eq_ofNat_of_zero_le a0
  obtain ⟨m, rfl⟩ := Int.eq_ofNat_of_zero_le b0
  unfold doI
  rw [Int.toNat_natCast, Int.toNat_natCast]
  exact do_nat op n m (by omega) (by omega) w
theorem law_do (op a b : Int) (a0 : 0 ≤ a) (a1 : a < 4294967296) (b0 : 0 ≤ b) (b1 : b < 4294967296) (w : World) :
    Calls Try.prog 9 #[.int .i64 op, .int .u32 a, .int .u32 b] w fun e w' => e = .returned (.int .u32 (doI op a b : Nat)) ∧ Below w.heap.size w w' := by
  go_enter Try.func9, Try.ntmps9
  go_wp2_with fail
  refine (do_any op a b a0 a1 b0 b1 _).mono ?_; rintro e w' ⟨rfl, hb⟩
  go_wp2
  go_ret
  exact ⟨rfl, hb⟩
theorem awake_any (w : World) :
    Calls Try.prog 8 #[] w fun e w' => e = .returned (.bool true) ∧ Below w.heap.size w w' := by
  have e1 : doI 4 0 1 = 4294967295 := rfl
  have e2 : doI 9 3 33 = 6 := rfl
  have e3 : isB 2 = false := rfl
  go_enter Try.func8, Try.ntmps8
  go_wp2_with fail
  refine (do_any 2 1 1 (by omega) (by omega) (by omega) (by omega) _).mono ?_; rintro e w1 ⟨rfl, h1⟩
  rw [e3]
  go_wp2_with fail
  refine (law_do 4 0 1 (by omega) (by omega) (by omega) (by omega) _).mono ?_; rintro e w2 ⟨rfl, h2⟩
  rw [e1]
  go_wp2_with fail
  refine (law_do 9 3 33 (by omega) (by omega) (by omega) (by omega) _).mono ?_; rintro e w3 ⟨rfl, h3⟩
  rw [e2]
  go_wp2_with fail
  refine (is_yes 3 (by omega) (by omega) _).mono ?_; rintro e w4 ⟨rfl, rfl⟩
  go_wp2
  go_ret
  have z1 := h1.size
  have z2 := h2.size
  exact ⟨rfl, (h1.trans (h2.mono z1)).trans (h3.mono (by omega))⟩
end Go.Proofs.Ytokokhkjhlechaa.Al
