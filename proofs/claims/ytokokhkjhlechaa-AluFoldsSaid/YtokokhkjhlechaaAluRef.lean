/- The walk of deadlatchref01.Do: one theorem an operation. -/
import Derived.Test.YtokokhkjhlechaaAluWalks
set_option linter.unusedVariables false
namespace Go.Proofs.Ytokokhkjhlechaa.Al
open Go.RowKit

set_option maxHeartbeats 400000 in
theorem ref_6 (a b : Nat) (ha : a < 4294967296) (hb : b < 4294967296) (w : World) :
    Calls Try.prog 11 #[.int .i64 6, .int .u32 a, .int .u32 b] w fun e w' => e = .returned (.tuple #[.int .u32 (aluN 6 a b : Nat), .int .i64 1]) ∧ Below w.heap.size w w' := by
  obtain ⟨m, hm⟩ : ∃ m, m = aluN 6 a b := ⟨_, rfl⟩
  have HM := Lib.hid hm
  have hml : m < 4294967296 := by rw [hm]; exact aluN_lt _ _ _ ha hb
  rw [← hm]
  clear hm
  go_enter Try.func11, Try.ntmps11
  go_wp2
  go_loopw [9] (fun i wr => ∃ k : Nat, k ≤ 32 ∧ i = .int .i64 k ∧ wr = w.alloc (.cells (arr (part m k)) 43)) (fun i _ => 32 - (intOf i).toNat)
  case atStart => exact ⟨0, by omega, rfl, by rw [part_zero]⟩
  case round =>
    obtain ⟨k, hk, rfl, rfl⟩ := hrel
    by_cases hlt : k < 32
    · have h1 := bitN_le a k
      have h2 := bitN_le b k
      have e1 : bitN m k = (bitN a k + bitN b k) / 2 := by rw [HM.out]; exact bit_and a b k
      have hset : (arr (part m k)).setIfInBounds k (.int .i64 ((((bitN a k : Nat) : Int) + ((bitN b k : Nat) : Int)) / 2)) = arr (part m (k + 1)) := by
        rw [← part_set m k _ hlt rfl, e1]; simp
      have hsz := arr_size (part m k)
      clear e1
      go_wp2_with fail
      refine (bit_any a k ha hlt _).mono ?_; rintro e w' ⟨rfl, rfl⟩
      go_wp2_with fail
      refine (bit_any b k hb hlt _).mono ?_; rintro e w' ⟨rfl, rfl⟩
      generalize bitN a k = x at *
      generalize bitN b k = y at *
      go_wp2
      exact ⟨⟨k + 1, by omega, rfl, rfl⟩, by simp [intOf]; omega⟩
    · obtain rfl : k = 32 := by omega
      have hsz := arr_size (part m 32)
      go_wp2_with (refine wpList_load_row rfl 43 _ rfl w.heap.size rfl 43 _ (0, 0) _ (heap_alloc_new _ _) Try.underlying43 rfl (by rw [arr_size]; exact info43) ?_)
      refine (of_any m hml _).mono ?_; rintro e w' ⟨rfl, hb1⟩
      go_wp2
      go_ret2
      exact ⟨rfl, ((Below.refl _ _).alloc (Nat.le_refl _) _).trans (hb1.mono (by simp))⟩
set_option maxHeartbeats 400000 in
theorem ref_7 (a b : Nat) (ha : a < 4294967296) (hb : b < 4294967296) (w : World) :
    Calls Try.prog 11 #[.int .i64 7, .int .u32 a, .int .u32 b] w fun e w' => e = .returned (.tuple #[.int .u32 (aluN 7 a b : Nat), .int .i64 1]) ∧ Below w.heap.size w w' := by
  obtain ⟨m, hm⟩ : ∃ m, m = aluN 7 a b := ⟨_, rfl⟩
  have HM := Lib.hid hm
  have hml : m < 4294967296 := by rw [hm]; exact aluN_lt _ _ _ ha hb
  rw [← hm]
  clear hm
  go_enter Try.func11, Try.ntmps11
  go_wp2
  go_loopw [9] (fun i wr => ∃ k : Nat, k ≤ 32 ∧ i = .int .i64 k ∧ wr = w.alloc (.cells (arr (part m k)) 43)) (fun i _ => 32 - (intOf i).toNat)
  case atStart => exact ⟨0, by omega, rfl, by rw [part_zero]⟩
  case round =>
    obtain ⟨k, hk, rfl, rfl⟩ := hrel
    by_cases hlt : k < 32
    · have h1 := bitN_le a k
      have h2 := bitN_le b k
      have e1 : bitN m k = (bitN a k + bitN b k + 1) / 2 := by rw [HM.out]; exact bit_or a b k
      have hset : (arr (part m k)).setIfInBounds k (.int .i64 ((((bitN a k : Nat) : Int) + ((bitN b k : Nat) : Int) + 1) / 2)) = arr (part m (k + 1)) := by
        rw [← part_set m k _ hlt rfl, e1]; simp
      have hsz := arr_size (part m k)
      clear e1
      go_wp2_with fail
      refine (bit_any a k ha hlt _).mono ?_; rintro e w' ⟨rfl, rfl⟩
      go_wp2_with fail
      refine (bit_any b k hb hlt _).mono ?_; rintro e w' ⟨rfl, rfl⟩
      generalize bitN a k = x at *
      generalize bitN b k = y at *
      go_wp2
      exact ⟨⟨k + 1, by omega, rfl, rfl⟩, by simp [intOf]; omega⟩
    · obtain rfl : k = 32 := by omega
      have hsz := arr_size (part m 32)
      go_wp2_with (refine wpList_load_row rfl 43 _ rfl w.heap.size rfl 43 _ (0, 0) _ (heap_alloc_new _ _) Try.underlying43 rfl (by rw [arr_size]; exact info43) ?_)
      refine (of_any m hml _).mono ?_; rintro e w' ⟨rfl, hb1⟩
      go_wp2
      go_ret2
      exact ⟨rfl, ((Below.refl _ _).alloc (Nat.le_refl _) _).trans (hb1.mono (by simp))⟩
set_option maxHeartbeats 400000 in
theorem ref_8 (a b : Nat) (ha : a < 4294967296) (hb : b < 4294967296) (w : World) :
    Calls Try.prog 11 #[.int .i64 8, .int .u32 a, .int .u32 b] w fun e w' => e = .returned (.tuple #[.int .u32 (aluN 8 a b : Nat), .int .i64 1]) ∧ Below w.heap.size w w' := by
  obtain ⟨m, hm⟩ : ∃ m, m = aluN 8 a b := ⟨_, rfl⟩
  have HM := Lib.hid hm
  have hml : m < 4294967296 := by rw [hm]; exact aluN_lt _ _ _ ha hb
  rw [← hm]
  clear hm
  go_enter Try.func11, Try.ntmps11
  go_wp2
  go_loopw [9] (fun i wr => ∃ k : Nat, k ≤ 32 ∧ i = .int .i64 k ∧ wr = w.alloc (.cells (arr (part m k)) 43)) (fun i _ => 32 - (intOf i).toNat)
  case atStart => exact ⟨0, by omega, rfl, by rw [part_zero]⟩
  case round =>
    obtain ⟨k, hk, rfl, rfl⟩ := hrel
    by_cases hlt : k < 32
    · have h1 := bitN_le a k
      have h2 := bitN_le b k
      have e1 : bitN m k = (bitN a k + bitN b k) % 2 := by rw [HM.out]; exact bit_xor a b k
      have hset : (arr (part m k)).setIfInBounds k (.int .i64 ((((bitN a k : Nat) : Int) + ((bitN b k : Nat) : Int)) % 2)) = arr (part m (k + 1)) := by
        rw [← part_set m k _ hlt rfl, e1]; simp
      have hsz := arr_size (part m k)
      clear e1
      go_wp2_with fail
      refine (bit_any a k ha hlt _).mono ?_; rintro e w' ⟨rfl, rfl⟩
      go_wp2_with fail
      refine (bit_any b k hb hlt _).mono ?_; rintro e w' ⟨rfl, rfl⟩
      generalize bitN a k = x at *
      generalize bitN b k = y at *
      go_wp2
      exact ⟨⟨k + 1, by omega, rfl, rfl⟩, by simp [intOf]; omega⟩
    · obtain rfl : k = 32 := by omega
      have hsz := arr_size (part m 32)
      go_wp2_with (refine wpList_load_row rfl 43 _ rfl w.heap.size rfl 43 _ (0, 0) _ (heap_alloc_new _ _) Try.underlying43 rfl (by rw [arr_size]; exact info43) ?_)
      refine (of_any m hml _).mono ?_; rintro e w' ⟨rfl, hb1⟩
      go_wp2
      go_ret2
      exact ⟨rfl, ((Below.refl _ _).alloc (Nat.le_refl _) _).trans (hb1.mono (by simp))⟩
theorem ret2 {k l : IntKind} {a b c d : Int} (h : a = b) (h' : c = d) : Ending.returned (.tuple #[.int k a, .int l c]) = .returned (.tuple #[.int k b, .int l d]) := by rw [h, h']
theorem sub_ref (a b : Nat) (hb : b < 4294967296) : aluN 3 a (aluN 4 0 b) = aluN 4 a b := by
  unfold aluN; simp only []; omega
theorem same_less (a b : Nat) : 1 - min (aluN 11 a b + aluN 11 b a) 1 = aluN 12 a b := by
  unfold aluN; simp only []
  split <;> split <;> split <;> omega
set_option maxHeartbeats 400000 in
theorem ref_3 (a b : Nat) (ha : a < 4294967296) (hb : b < 4294967296) (w : World) :
    Calls Try.prog 11 #[.int .i64 3, .int .u32 a, .int .u32 b] w fun e w' => e = .returned (.tuple #[.int .u32 (aluN 3 a b : Nat), .int .i64 1]) ∧ Below w.heap.size w w' := by
  go_enter Try.func11, Try.ntmps11
  go_wp2
  go_loop [9] (fun i => ∃ k : Nat, k ≤ 32 ∧ i = .int .i64 k) (fun i => 32 - (intOf i).toNat)
  case atStart => exact ⟨0, by omega, rfl⟩
  case round =>
    obtain ⟨k, hk, rfl⟩ := hrel
    by_cases hlt : k < 32
    · have h1 := bitN_le a k
      have h2 := bitN_le b k
      go_wp2_with fail
      refine (bit_any a k ha hlt _).mono ?_; rintro e w' ⟨rfl, rfl⟩
      go_wp2_with fail
      refine (bit_any b k hb hlt _).mono ?_; rintro e w' ⟨rfl, rfl⟩
      generalize bitN a k = x at *
      generalize bitN b k = y at *
      go_wp2
      exact ⟨⟨k + 1, by omega, rfl⟩, by simp [intOf]; omega⟩
    · obtain rfl : k = 32 := by omega
      go_wp2_with fail
      refine (add_any a b ha hb _).mono ?_; rintro e w' ⟨rfl, hb1⟩
      go_wp2
      go_ret2
      exact ⟨rfl, ((Below.refl _ _).alloc (Nat.le_refl _) _).trans (hb1.mono (by simp))⟩
set_option maxHeartbeats 400000 in
theorem ref_4 (a b : Nat) (ha : a < 4294967296) (hb : b < 4294967296) (w : World) :
    Calls Try.prog 11 #[.int .i64 4, .int .u32 a, .int .u32 b] w fun e w' => e = .returned (.tuple #[.int .u32 (aluN 4 a b : Nat), .int .i64 1]) ∧ Below w.heap.size w w' := by
  go_enter Try.func11, Try.ntmps11
  go_wp2
  go_loop [9] (fun i => ∃ k : Nat, k ≤ 32 ∧ i = .int .i64 k) (fun i => 32 - (intOf i).toNat)
  case atStart => exact ⟨0, by omega, rfl⟩
  case round =>
    obtain ⟨k, hk, rfl⟩ := hrel
    by_cases hlt : k < 32
    · have h1 := bitN_le a k
      have h2 := bitN_le b k
      go_wp2_with fail
      refine (bit_any a k ha hlt _).mono ?_; rintro e w' ⟨rfl, rfl⟩
      go_wp2_with fail
      refine (bit_any b k hb hlt _).mono ?_; rintro e w' ⟨rfl, rfl⟩
      generalize bitN a k = x at *
      generalize bitN b k = y at *
      go_wp2
      exact ⟨⟨k + 1, by omega, rfl⟩, by simp [intOf]; omega⟩
    · obtain rfl : k = 32 := by omega
      go_wp2_with fail
      refine (minus_any b hb _).mono ?_; rintro e w1 ⟨rfl, hb1⟩
      go_wp2_with fail
      refine (add_any a _ ha (aluN_lt _ _ _ (by omega) hb) _).mono ?_; rintro e w2 ⟨rfl, hb2⟩
      go_wp2
      go_ret2
      have hz := hb1.size
      exact ⟨ret2 (by rw [sub_ref a b hb]) rfl, (((Below.refl _ _).alloc (Nat.le_refl _) _).trans (hb1.mono (by simp))).trans (hb2.mono (by simp at hz; omega))⟩
set_option maxHeartbeats 400000 in
theorem ref_5 (a b : Nat) (ha : a < 4294967296) (hb : b < 4294967296) (w : World) :
    Calls Try.prog 11 #[.int .i64 5, .int .u32 a, .int .u32 b] w fun e w' => e = .returned (.tuple #[.int .u32 (aluN 5 a b : Nat), .int .i64 1]) ∧ Below w.heap.size w w' := by
  go_enter Try.func11, Try.ntmps11
  go_wp2
  go_loop [9] (fun i => ∃ k : Nat, k ≤ 32 ∧ i = .int .i64 k) (fun i => 32 - (intOf i).toNat)
  case atStart => exact ⟨0, by omega, rfl⟩
  case round =>
    obtain ⟨k, hk, rfl⟩ := hrel
    by_cases hlt : k < 32
    · have h1 := bitN_le a k
      have h2 := bitN_le b k
      go_wp2_with fail
      refine (bit_any a k ha hlt _).mono ?_; rintro e w' ⟨rfl, rfl⟩
      go_wp2_with fail
      refine (bit_any b k hb hlt _).mono ?_; rintro e w' ⟨rfl, rfl⟩
      generalize bitN a k = x at *
      generalize bitN b k = y at *
      go_wp2
      exact ⟨⟨k + 1, by omega, rfl⟩, by simp [intOf]; omega⟩
    · obtain rfl : k = 32 := by omega
      go_wp2_with fail
      refine (mul_any a b ha hb _).mono ?_; rintro e w' ⟨rfl, hb1⟩
      go_wp2
      go_ret2
      exact ⟨rfl, ((Below.refl _ _).alloc (Nat.le_refl _) _).trans (hb1.mono (by simp))⟩
set_option maxHeartbeats 400000 in
theorem ref_9 (a b : Nat) (ha : a < 4294967296) (hb : b < 4294967296) (w : World) :
    Calls Try.prog 11 #[.int .i64 9, .int .u32 a, .int .u32 b] w fun e w' => e = .returned (.tuple #[.int .u32 (aluN 9 a b : Nat), .int .i64 1]) ∧ Below w.heap.size w w' := by
  go_enter Try.func11, Try.ntmps11
  go_wp2
  go_loop [9] (fun i => ∃ k : Nat, k ≤ 32 ∧ i = .int .i64 k) (fun i => 32 - (intOf i).toNat)
  case atStart => exact ⟨0, by omega, rfl⟩
  case round =>
    obtain ⟨k, hk, rfl⟩ := hrel
    by_cases hlt : k < 32
    · have h1 := bitN_le a k
      have h2 := bitN_le b k
      go_wp2_with fail
      refine (bit_any a k ha hlt _).mono ?_; rintro e w' ⟨rfl, rfl⟩
      go_wp2_with fail
      refine (bit_any b k hb hlt _).mono ?_; rintro e w' ⟨rfl, rfl⟩
      generalize bitN a k = x at *
      generalize bitN b k = y at *
      go_wp2
      exact ⟨⟨k + 1, by omega, rfl⟩, by simp [intOf]; omega⟩
    · obtain rfl : k = 32 := by omega
      go_wp2_with fail
      refine (move_any a _ ha (by omega) (by omega) _).mono ?_; rintro e w' ⟨rfl, hb1⟩
      go_wp2
      go_ret2
      exact ⟨ret2 (by unfold moveN aluN; rw [if_pos (by omega)]; simp only []; congr 4) rfl, ((Below.refl _ _).alloc (Nat.le_refl _) _).trans (hb1.mono (by simp))⟩
set_option maxHeartbeats 400000 in
theorem ref_10 (a b : Nat) (ha : a < 4294967296) (hb : b < 4294967296) (w : World) :
    Calls Try.prog 11 #[.int .i64 10, .int .u32 a, .int .u32 b] w fun e w' => e = .returned (.tuple #[.int .u32 (aluN 10 a b : Nat), .int .i64 1]) ∧ Below w.heap.size w w' := by
  go_enter Try.func11, Try.ntmps11
  go_wp2
  go_loop [9] (fun i => ∃ k : Nat, k ≤ 32 ∧ i = .int .i64 k) (fun i => 32 - (intOf i).toNat)
  case atStart => exact ⟨0, by omega, rfl⟩
  case round =>
    obtain ⟨k, hk, rfl⟩ := hrel
    by_cases hlt : k < 32
    · have h1 := bitN_le a k
      have h2 := bitN_le b k
      go_wp2_with fail
      refine (bit_any a k ha hlt _).mono ?_; rintro e w' ⟨rfl, rfl⟩
      go_wp2_with fail
      refine (bit_any b k hb hlt _).mono ?_; rintro e w' ⟨rfl, rfl⟩
      generalize bitN a k = x at *
      generalize bitN b k = y at *
      go_wp2
      exact ⟨⟨k + 1, by omega, rfl⟩, by simp [intOf]; omega⟩
    · obtain rfl : k = 32 := by omega
      go_wp2_with fail
      refine (move_any a _ ha (by omega) (by omega) _).mono ?_; rintro e w' ⟨rfl, hb1⟩
      go_wp2
      go_ret2
      refine ⟨ret2 ?_ rfl, ((Below.refl _ _).alloc (Nat.le_refl _) _).trans (hb1.mono (by simp))⟩
      unfold moveN aluN
      by_cases h0 : b % 32 = 0
      · have e : -((b : Int) % 32) = 0 := by omega
        rw [e, h0]; simp; omega
      · rw [if_neg (by omega)]
        have e : (-(-((b : Int) % 32))).toNat = b % 32 := by omega
        rw [e]; rfl
set_option maxHeartbeats 400000 in
theorem ref_11 (a b : Nat) (ha : a < 4294967296) (hb : b < 4294967296) (w : World) :
    Calls Try.prog 11 #[.int .i64 11, .int .u32 a, .int .u32 b] w fun e w' => e = .returned (.tuple #[.int .u32 (aluN 11 a b : Nat), .int .i64 1]) ∧ Below w.heap.size w w' := by
  go_enter Try.func11, Try.ntmps11
  go_wp2
  go_loop [9] (fun i => ∃ k : Nat, k ≤ 32 ∧ i = .int .i64 k) (fun i => 32 - (intOf i).toNat)
  case atStart => exact ⟨0, by omega, rfl⟩
  case round =>
    obtain ⟨k, hk, rfl⟩ := hrel
    by_cases hlt : k < 32
    · have h1 := bitN_le a k
      have h2 := bitN_le b k
      go_wp2_with fail
      refine (bit_any a k ha hlt _).mono ?_; rintro e w' ⟨rfl, rfl⟩
      go_wp2_with fail
      refine (bit_any b k hb hlt _).mono ?_; rintro e w' ⟨rfl, rfl⟩
      generalize bitN a k = x at *
      generalize bitN b k = y at *
      go_wp2
      exact ⟨⟨k + 1, by omega, rfl⟩, by simp [intOf]; omega⟩
    · obtain rfl : k = 32 := by omega
      go_wp2_with fail
      refine (less_any a b ha hb _).mono ?_; rintro e w' ⟨rfl, rfl⟩
      go_wp2
      go_ret2
      exact ⟨rfl, ((Below.refl _ _).alloc (Nat.le_refl _) _)⟩
set_option maxHeartbeats 400000 in
theorem ref_12 (a b : Nat) (ha : a < 4294967296) (hb : b < 4294967296) (w : World) :
    Calls Try.prog 11 #[.int .i64 12, .int .u32 a, .int .u32 b] w fun e w' => e = .returned (.tuple #[.int .u32 (aluN 12 a b : Nat), .int .i64 1]) ∧ Below w.heap.size w w' := by
  go_enter Try.func11, Try.ntmps11
  go_wp2
  go_loop [9] (fun i => ∃ k : Nat, k ≤ 32 ∧ i = .int .i64 k) (fun i => 32 - (intOf i).toNat)
  case atStart => exact ⟨0, by omega, rfl⟩
  case round =>
    obtain ⟨k, hk, rfl⟩ := hrel
    by_cases hlt : k < 32
    · have h1 := bitN_le a k
      have h2 := bitN_le b k
      go_wp2_with fail
      refine (bit_any a k ha hlt _).mono ?_; rintro e w' ⟨rfl, rfl⟩
      go_wp2_with fail
      refine (bit_any b k hb hlt _).mono ?_; rintro e w' ⟨rfl, rfl⟩
      generalize bitN a k = x at *
      generalize bitN b k = y at *
      go_wp2
      exact ⟨⟨k + 1, by omega, rfl⟩, by simp [intOf]; omega⟩
    · obtain rfl : k = 32 := by omega
      have l1 : aluN 11 a b ≤ 1 := by unfold aluN; simp only []; split <;> omega
      have l2 : aluN 11 b a ≤ 1 := by unfold aluN; simp only []; split <;> omega
      have HL := Lib.hid (same_less a b)
      go_wp2_with fail
      refine (less_any a b ha hb _).mono ?_; rintro e w' ⟨rfl, rfl⟩
      go_wp2_with fail
      refine (less_any b a hb ha _).mono ?_; rintro e w' ⟨rfl, rfl⟩
      generalize aluN 11 a b = x at *
      generalize aluN 11 b a = y at *
      go_wp2
      all_goals go_ret2
      all_goals exact ⟨ret2 (by rw [← HL.out]; omega) rfl, ((Below.refl _ _).alloc (Nat.le_refl _) _)⟩
set_option maxHeartbeats 400000 in
theorem ref_other (op : Int) (a b : Nat) (h : op < 3 ∨ 12 < op) (ha : a < 4294967296) (hb : b < 4294967296) (w : World) :
    Calls Try.prog 11 #[.int .i64 op, .int .u32 a, .int .u32 b] w fun e w' => e = .returned (.tuple #[.int .u32 0, .int .i64 0]) ∧ Below w.heap.size w w' := by
  have t3 : (op == 3) = false := beq_eq_false_iff_ne.2 (by omega)
  have t4 : (op == 4) = false := beq_eq_false_iff_ne.2 (by omega)
  have t5 : (op == 5) = false := beq_eq_false_iff_ne.2 (by omega)
  have t6 : (op == 6) = false := beq_eq_false_iff_ne.2 (by omega)
  have t7 : (op == 7) = false := beq_eq_false_iff_ne.2 (by omega)
  have t8 : (op == 8) = false := beq_eq_false_iff_ne.2 (by omega)
  have t9 : (op == 9) = false := beq_eq_false_iff_ne.2 (by omega)
  have t10 : (op == 10) = false := beq_eq_false_iff_ne.2 (by omega)
  have t11 : (op == 11) = false := beq_eq_false_iff_ne.2 (by omega)
  have t12 : (op == 12) = false := beq_eq_false_iff_ne.2 (by omega)
  clear h
  go_enter Try.func11, Try.ntmps11
  go_wp2
  go_loop [9] (fun i => ∃ k : Nat, k ≤ 32 ∧ i = .int .i64 k) (fun i => 32 - (intOf i).toNat)
  case atStart => exact ⟨0, by omega, rfl⟩
  case round =>
    obtain ⟨k, hk, rfl⟩ := hrel
    by_cases hlt : k < 32
    · have h1 := bitN_le a k
      have h2 := bitN_le b k
      go_wp2_with fail
      refine (bit_any a k ha hlt _).mono ?_; rintro e w' ⟨rfl, rfl⟩
      go_wp2_with fail
      refine (bit_any b k hb hlt _).mono ?_; rintro e w' ⟨rfl, rfl⟩
      generalize bitN a k = x at *
      generalize bitN b k = y at *
      go_wp2
      exact ⟨⟨k + 1, by omega, rfl⟩, by simp [intOf]; omega⟩
    · obtain rfl : k = 32 := by omega
      go_wp2
      go_ret2
      exact ⟨rfl, ((Below.refl _ _).alloc (Nat.le_refl _) _)⟩

/-- What Do answers: a word, and whether there is such an operation. -/
def doN (op : Int) (a b : Nat) : Nat := if 3 ≤ op ∧ op ≤ 12 then aluN op.toNat a b else 0
def isB (op : Int) : Bool := decide (3 ≤ op) && decide (op ≤ 12)
theorem doN_lt (op : Int) (a b : Nat) (ha : a < 4294967296) (hb : b < 4294967296) : doN op a b < 4294967296 := by
  unfold doN; split
  · exact aluN_lt _ _ _ ha hb
  · omega
theorem ref_any (op : Int) (a b : Nat) (ha : a < 4294967296) (hb : b < 4294967296) (w : World) :
    Calls Try.prog 11 #[.int .i64 op, .int .u32 a, .int .u32 b] w fun e w' => e = .returned (.tuple #[.int .u32 (doN op a b : Nat), .int .i64 (if isB op then 1 else 0)]) ∧ Below w.heap.size w w' := by
  by_cases h : 3 ≤ op ∧ op ≤ 12
  · have hi : isB op = true := by simp [isB, h]
    unfold doN
    rw [if_pos h, hi]
    obtain ⟨n, rfl⟩ := Int.eq_ofNat_of_zero_le (by omega : 0 ≤ op)
    rw [Int.toNat_natCast]
    have hn : n = 3 ∨ n = 4 ∨ n = 5 ∨ n = 6 ∨ n = 7 ∨ n = 8 ∨ n = 9 ∨ n = 10 ∨ n = 11 ∨ n = 12 := by omega
    rcases hn with rfl | rfl | rfl | rfl | rfl | rfl | rfl | rfl | rfl | rfl
    · exact ref_3 a b ha hb w
    · exact ref_4 a b ha hb w
    · exact ref_5 a b ha hb w
    · exact ref_6 a b ha hb w
    · exact ref_7 a b ha hb w
    · exact ref_8 a b ha hb w
    · exact ref_9 a b ha hb w
    · exact ref_10 a b ha hb w
    · exact ref_11 a b ha hb w
    · exact ref_12 a b ha hb w
  · have hi : isB op = false := by
      simp only [isB, Bool.and_eq_false_iff, decide_eq_false_iff_not]; omega
    unfold doN
    rw [if_neg h, hi]
    exact ref_other op a b (by omega) ha hb w
end Go.Proofs.Ytokokhkjhlechaa.Al
