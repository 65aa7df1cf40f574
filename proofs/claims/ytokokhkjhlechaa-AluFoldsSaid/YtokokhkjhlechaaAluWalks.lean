/- The walks of the packages alu and deadlatchref01 (words of 32 bits): what each function hands back. -/
import Derived.Test.YtokokhkjhlechaaRows
import Derived.Test.YtokokhkjhlechaaAluPlain
import Derived.WalkKit
import Derived.WalkSpells
import Derived.WalkLawsBesides
import Derived.Outline
import Derived.Laws.EntriesVeiled
import Derived.Laws.NewBlocks
import Derived.Laws.Rows
import Derived.Lib.Hide
import Derived.Handy
set_option linter.unusedVariables false
namespace Go.Proofs.Ytokokhkjhlechaa.Al
open Go.RowKit

theorem retint {k : IntKind} {a b : Int} (h : a = b) : Ending.returned (.int k a) = .returned (.int k b) := by rw [h]

theorem bit_any (n i : Nat) (hn : n < 4294967296) (hi : i < 32) (w : World) :
    Calls Try.prog 26 #[.int .u32 n, .int .i64 i] w fun e w' => e = .returned (.int .i64 (bitN n i : Nat)) ∧ w = w' := by
  have hb := bit_walk n i hn
  have h0 := bitN_le n i
  go_enter Try.func26, Try.ntmps26
  go_wp2
  go_ret
  exact ⟨rfl, rfl⟩
theorem bit_int (n : Nat) (i : Int) (hn : n < 4294967296) (h0 : 0 ≤ i) (hi : i < 32) (w : World) :
    Calls Try.prog 26 #[.int .u32 n, .int .i64 i] w fun e w' => e = .returned (.int .i64 (bitN n i.toNat : Nat)) ∧ w = w' := by
  obtain ⟨j, rfl⟩ := Int.eq_ofNat_of_zero_le h0
  exact bit_any n j hn (by omega) w

theorem of_any (m : Nat) (hm : m < 4294967296) (w : World) :
    Calls Try.prog 29 #[.agg (arr (part m 32))] w fun e w' => e = .returned (.int .u32 m) ∧ Below w.heap.size w w' := by
  go_enter Try.func29, Try.ntmps29
  go_wp2
  go_loop [3, 4] (fun n i => ∃ j : Nat, j ≤ 32 ∧ i = .int .i64 ((j : Int) - 1) ∧ n = .int .u32 (m / 2 ^ j : Nat)) (fun _ i => (intOf i + 1).toNat)
  case atStart => exact ⟨32, by omega, rfl, by rw [Nat.div_eq_of_lt (by omega)]; rfl⟩
  case round =>
    obtain ⟨j, hj, rfl, rfl⟩ := hrel
    rcases j with _ | j
    · go_wp2
      go_ret
      exact ⟨by simp, (Below.refl _ _).alloc (Nat.le_refl _) _⟩
    · rw [show (((j + 1 : Nat) : Int) - 1) = (j : Int) from by omega]
      have hw := of_walk m j hm
      have hg : (arr (part m 32))[j]? = some (.int .i64 (bitN m j : Nat)) := by rw [arr_get _ _ (by omega)]; simp [part, show j < 32 by omega]
      have hsz := arr_size (part m 32)
      have hbl := bitN_le m j
      generalize bitN m j = t at *
      go_wp2
      refine ⟨⟨j, by omega, rfl, ?_⟩, by simp [intOf]⟩
      rw [← hw]; simp

theorem info43 : (Try.prog.info? 43).map (·.size) = some 32 := by kernel_rfl

theorem add_any (a b : Nat) (ha : a < 4294967296) (hb : b < 4294967296) (w : World) :
    Calls Try.prog 27 #[.int .u32 a, .int .u32 b] w fun e w' => e = .returned (.int .u32 (aluN 3 a b : Nat)) ∧ Below w.heap.size w w' := by
  show Calls Try.prog 27 #[.int .u32 a, .int .u32 b] w fun e w' => e = .returned (.int .u32 ((a + b) % 4294967296 : Nat)) ∧ Below w.heap.size w w'
  obtain ⟨s, hs⟩ : ∃ s, s = (a + b) % 4294967296 := ⟨_, rfl⟩
  have HS := Lib.hid hs
  have hsl : s < 4294967296 := by omega
  rw [← hs]
  clear hs
  go_enter Try.func27, Try.ntmps27
  go_wp2
  go_loopw [6, 7] (fun c i wr => ∃ k : Nat, k ≤ 32 ∧ i = .int .i64 k ∧ c = .int .i64 (carry a b k : Nat) ∧ wr = w.alloc (.cells (arr (part s k)) 43)) (fun _ i _ => 32 - (intOf i).toNat)
  case atStart => exact ⟨0, by omega, rfl, by rw [carry_zero]; rfl, by rw [part_zero]⟩
  case round =>
    obtain ⟨k, hk, rfl, rfl, rfl⟩ := hrel
    by_cases hlt : k < 32
    · have h1 := bitN_le a k
      have h2 := bitN_le b k
      have h3 := carry_le a b k
      have e1 : bitN s k = (bitN a k + bitN b k + carry a b k) % 2 := by rw [HS.out, bitN_mod _ _ hlt, carry_bit]
      have hset : (arr (part s k)).setIfInBounds k (.int .i64 ((((bitN a k : Nat) : Int) + ((bitN b k : Nat) : Int) + ((carry a b k : Nat) : Int)) % 2)) = arr (part s (k + 1)) := by
        rw [← part_set s k _ hlt rfl, e1]; simp
      have HC := Lib.hid (carry_succ a b k)
      have hsz := arr_size (part s k)
      clear e1
      go_wp2_with fail
      refine (bit_any a k ha hlt _).mono ?_; rintro e w' ⟨rfl, rfl⟩
      go_wp2_with fail
      refine (bit_any b k hb hlt _).mono ?_; rintro e w' ⟨rfl, rfl⟩
      generalize bitN a k = x at *
      generalize bitN b k = y at *
      generalize carry a b k = z at *
      go_wp2
      refine ⟨⟨k + 1, by omega, rfl, ?_, rfl⟩, by simp [intOf]; omega⟩
      rw [HC.out]; simp
    · obtain rfl : k = 32 := by omega
      have hsz := arr_size (part s 32)
      go_wp2_with (refine wpList_load_row rfl 43 _ rfl w.heap.size rfl 43 _ (0, 0) _ (heap_alloc_new _ _) Try.underlying43 rfl (by rw [arr_size]; exact info43) ?_)
      refine (of_any s hsl _).mono ?_; rintro e w' ⟨rfl, hb1⟩
      go_wp2
      go_ret
      exact ⟨rfl, ((Below.refl _ _).alloc (Nat.le_refl _) _).trans (hb1.mono (by simp))⟩

theorem minus_any (n : Nat) (hn : n < 4294967296) (w : World) :
    Calls Try.prog 14 #[.int .u32 n] w fun e w' => e = .returned (.int .u32 (aluN 4 0 n : Nat)) ∧ Below w.heap.size w w' := by
  show Calls Try.prog 14 #[.int .u32 n] w fun e w' => e = .returned (.int .u32 ((0 + 4294967296 - n) % 4294967296 : Nat)) ∧ Below w.heap.size w w'
  obtain ⟨s, hs⟩ : ∃ s, s = 4294967295 - n := ⟨_, rfl⟩
  have HS := Lib.hid hs
  have hsl : s < 4294967296 := by omega
  clear hs
  go_enter Try.func14, Try.ntmps14
  go_wp2
  go_loopw [4] (fun i wr => ∃ k : Nat, k ≤ 32 ∧ i = .int .i64 k ∧ wr = w.alloc (.cells (arr (part s k)) 43)) (fun i _ => 32 - (intOf i).toNat)
  case atStart => exact ⟨0, by omega, rfl, by rw [part_zero]⟩
  case round =>
    obtain ⟨k, hk, rfl, rfl⟩ := hrel
    by_cases hlt : k < 32
    · have h1 := bitN_le n k
      have e1 : bitN s k = 1 - bitN n k := by rw [HS.out, bit_turned n k hn hlt]
      have hset : (arr (part s k)).setIfInBounds k (.int .i64 (1 - ((bitN n k : Nat) : Int))) = arr (part s (k + 1)) := by
        rw [← part_set s k _ hlt rfl, e1]; congr 2; omega
      have hsz := arr_size (part s k)
      clear e1
      go_wp2_with fail
      refine (bit_any n k hn hlt _).mono ?_; rintro e w' ⟨rfl, rfl⟩
      generalize bitN n k = x at *
      go_wp2
      exact ⟨⟨k + 1, by omega, rfl, rfl⟩, by simp [intOf]; omega⟩
    · obtain rfl : k = 32 := by omega
      have hsz := arr_size (part s 32)
      go_wp2_with (refine wpList_load_row rfl 43 _ rfl w.heap.size rfl 43 _ (0, 0) _ (heap_alloc_new _ _) Try.underlying43 rfl (by rw [arr_size]; exact info43) ?_)
      refine (of_any s hsl _).mono ?_; rintro e w1 ⟨rfl, hb1⟩
      go_wp2_with fail
      refine (add_any s 1 hsl (by omega) _).mono ?_; rintro e w2 ⟨rfl, hb2⟩
      go_wp2
      go_ret
      have hz := hb1.size
      exact ⟨retint (by rw [HS.out]; show (((4294967295 - n + 1) % 4294967296 : Nat) : Int) = _; omega), (((Below.refl _ _).alloc (Nat.le_refl _) _).trans (hb1.mono (by simp))).trans (hb2.mono (by simp at hz; omega))⟩


/-- What Move comes to: moved up, or down. -/
def moveN (n : Nat) (by_ : Int) : Nat := if 0 ≤ by_ then n * 2 ^ by_.toNat % 4294967296 else n / 2 ^ (-by_).toNat
theorem moveN_lt (n : Nat) (s : Int) (h : n < 4294967296) : moveN n s < 4294967296 := by
  unfold moveN; split
  · omega
  · exact Nat.lt_of_le_of_lt (Nat.div_le_self _ _) h
theorem moveN_in (n k : Nat) (s : Int) (hk : k < 32) (h0 : 0 ≤ (k : Int) - s) (h1 : (k : Int) - s < 32) : bitN (moveN n s) k = bitN n ((k : Int) - s).toNat := by
  unfold moveN; split
  · rw [bit_up _ _ _ hk, if_pos (by omega)]; congr 1; omega
  · rw [bit_down]; congr 1; omega
theorem moveN_out (n k : Nat) (s : Int) (hn : n < 4294967296) (hk : k < 32) (h : (k : Int) - s < 0 ∨ 32 ≤ (k : Int) - s) : bitN (moveN n s) k = 0 := by
  unfold moveN; split
  · rw [bit_up _ _ _ hk, if_neg (by omega)]
  · rw [bit_down]; exact bit_far _ _ hn (by omega)

set_option maxHeartbeats 400000 in
theorem move_any (n : Nat) (s : Int) (hn : n < 4294967296) (hs0 : -32 < s) (hs1 : s < 32) (w : World) :
    Calls Try.prog 30 #[.int .u32 n, .int .i64 s] w fun e w' => e = .returned (.int .u32 (moveN n s : Nat)) ∧ Below w.heap.size w w' := by
  obtain ⟨m, hm⟩ : ∃ m, m = moveN n s := ⟨_, rfl⟩
  have HM := Lib.hid hm
  have hml : m < 4294967296 := by rw [hm]; exact moveN_lt _ _ hn
  rw [← hm]
  clear hm
  go_enter Try.func30, Try.ntmps30
  go_wp2
  go_loopw [6] (fun i wr => ∃ k : Nat, k ≤ 32 ∧ i = .int .i64 k ∧ wr = w.alloc (.cells (arr (part m k)) 43)) (fun i _ => 32 - (intOf i).toNat)
  case atStart => exact ⟨0, by omega, rfl, by rw [part_zero]⟩
  case round =>
    obtain ⟨k, hk, rfl, rfl⟩ := hrel
    by_cases hlt : k < 32
    · have hsz := arr_size (part m k)
      by_cases hge : 0 ≤ (k : Int) - s
      · by_cases hle : (k : Int) - s < 32
        · have e1 : bitN m k = bitN n ((k : Int) - s).toNat := by rw [HM.out]; exact moveN_in _ _ _ hlt hge hle
          have h1 := bitN_le n ((k : Int) - s).toNat
          have hset : (arr (part m k)).setIfInBounds k (.int .i64 ((bitN n ((k : Int) - s).toNat : Nat) : Int)) = arr (part m (k + 1)) := part_set m k _ hlt e1.symm
          have d1 : decide (0 ≤ (k : Int) - s) = true := by simpa using hge
          have d2 : decide ((k : Int) - s < 32) = true := by simpa using hle
          clear e1
          go_wp2_with fail
          refine (bit_int n _ hn (by omega) (by omega) _).mono ?_; rintro e w' ⟨rfl, rfl⟩
          go_wp2
          exact ⟨⟨k + 1, by omega, rfl, rfl⟩, by simp [intOf]; omega⟩
        · have e1 : bitN m k = 0 := by rw [HM.out]; exact moveN_out _ _ _ hn hlt (by omega)
          have e2 := part_skip m k e1
          have HP := Lib.hid e2
          have d1 : decide (0 ≤ (k : Int) - s) = true := by simpa using hge
          have d2 : decide ((k : Int) - s < 32) = false := by simpa using hle
          clear e1 e2
          go_wp2
          exact ⟨⟨k + 1, by omega, rfl, by rw [HP.out]⟩, by simp [intOf]; omega⟩
      · have e1 : bitN m k = 0 := by rw [HM.out]; exact moveN_out _ _ _ hn hlt (by omega)
        have e2 := part_skip m k e1
        have HP := Lib.hid e2
        have d1 : decide (0 ≤ (k : Int) - s) = false := by simpa using hge
        clear e1 e2
        go_wp2
        exact ⟨⟨k + 1, by omega, rfl, by rw [HP.out]⟩, by simp [intOf]; omega⟩
    · obtain rfl : k = 32 := by omega
      have hsz := arr_size (part m 32)
      go_wp2_with (refine wpList_load_row rfl 43 _ rfl w.heap.size rfl 43 _ (0, 0) _ (heap_alloc_new _ _) Try.underlying43 rfl (by rw [arr_size]; exact info43) ?_)
      refine (of_any m hml _).mono ?_; rintro e w' ⟨rfl, hb1⟩
      go_wp2
      go_ret
      exact ⟨rfl, ((Below.refl _ _).alloc (Nat.le_refl _) _).trans (hb1.mono (by simp))⟩

set_option maxHeartbeats 400000 in
theorem mul_any (a b : Nat) (ha : a < 4294967296) (hb : b < 4294967296) (w : World) :
    Calls Try.prog 28 #[.int .u32 a, .int .u32 b] w fun e w' => e = .returned (.int .u32 (aluN 5 a b : Nat)) ∧ Below w.heap.size w w' := by
  show Calls Try.prog 28 #[.int .u32 a, .int .u32 b] w fun e w' => e = .returned (.int .u32 (a * b % 4294967296 : Nat)) ∧ Below w.heap.size w w'
  go_enter Try.func28, Try.ntmps28
  go_wp2
  go_loopw [5, 6] (fun n i wr => ∃ k x : Nat, k ≤ 32 ∧ i = .int .i64 k ∧ n = .int .u32 x ∧ x < 4294967296 ∧ Hid (x = a * (b % 2 ^ k) % 4294967296) ∧ Below w.heap.size w wr) (fun _ i _ => 32 - (intOf i).toNat)
  case atStart => exact ⟨0, 0, by omega, rfl, rfl, by omega, by show 0 = a * (b % 2 ^ 0) % 4294967296; simp [Nat.mod_one], Below.refl _ _⟩
  case round =>
    obtain ⟨k, x, hk, rfl, rfl, hx, HX, hbl⟩ := hrel
    by_cases hlt : k < 32
    · have hms := Lib.hid (mul_step a b k)
      have h1 := bitN_le b k
      rcases (by omega : bitN b k = 0 ∨ bitN b k = 1) with h0 | h0
      · have H0 := Lib.hid h0
        clear h0
        have hd : (((bitN b k : Nat) : Int) == 1) = false := by rw [H0.out]; rfl
        go_wp2_with fail
        refine (bit_any b k hb hlt _).mono ?_; rintro e w' ⟨rfl, rfl⟩
        go_wp2
        exact ⟨⟨k + 1, x, by omega, rfl, rfl, hx, by show x = _; rw [HX.out, hms.out, H0.out]; simp, hbl⟩, by simp [intOf]; omega⟩
      · have H0 := Lib.hid h0
        clear h0
        have hd : (((bitN b k : Nat) : Int) == 1) = true := by rw [H0.out]; rfl
        go_wp2_with fail
        refine (bit_any b k hb hlt _).mono ?_; rintro e w' ⟨rfl, rfl⟩
        go_wp2_with fail
        refine (move_any a k ha (by omega) (by omega) _).mono ?_; rintro e w1 ⟨rfl, hb1⟩
        go_wp2_with fail
        refine (add_any x _ hx (moveN_lt _ _ ha) _).mono ?_; rintro e w2 ⟨rfl, hb2⟩
        have hz := hbl.size
        have hz1 := hb1.size
        go_wp2
        refine ⟨⟨k + 1, _, by omega, rfl, rfl, aluN_lt 3 _ _ hx (moveN_lt _ _ ha), ?_, (hbl.trans (hb1.mono hz)).trans (hb2.mono (by omega))⟩, by simp [intOf]; omega⟩
        show (x + moveN a k) % 4294967296 = _
        rw [HX.out, hms.out, H0.out]
        unfold moveN
        rw [if_pos (by omega)]
        simp
    · obtain rfl : k = 32 := by omega
      go_wp2
      go_ret
      exact ⟨retint (by rw [HX.out, Nat.mod_eq_of_lt (a := b) (by omega)]), hbl⟩

theorem less_any (a b : Nat) (ha : a < 4294967296) (hb : b < 4294967296) (w : World) :
    Calls Try.prog 31 #[.int .u32 a, .int .u32 b] w fun e w' => e = .returned (.int .u32 (aluN 11 a b : Nat)) ∧ w = w' := by
  show Calls Try.prog 31 #[.int .u32 a, .int .u32 b] w fun e w' => e = .returned (.int .u32 ((if a < b then 1 else 0 : Nat) : Int)) ∧ w = w'
  obtain ⟨r, hr⟩ : ∃ r : Nat, r = if a < b then 1 else 0 := ⟨_, rfl⟩
  rw [← hr]
  have HR := Lib.hid hr
  clear hr
  go_enter Try.func31, Try.ntmps31
  go_wp2
  go_loop [5] (fun i => ∃ k : Nat, k ≤ 32 ∧ i = .int .i64 ((k : Int) - 1) ∧ Hid (a / 2 ^ k = b / 2 ^ k)) (fun i => (intOf i + 1).toNat)
  case atStart => exact ⟨32, by omega, rfl, by show a / 2 ^ 32 = b / 2 ^ 32; rw [Nat.div_eq_of_lt (by omega), Nat.div_eq_of_lt (by omega)]⟩
  case round =>
    obtain ⟨k, hk, rfl, HE⟩ := hrel
    rcases k with _ | k
    · go_wp2
      go_ret
      have e := HE.out
      simp at e
      exact ⟨retint (by rw [HR.out, if_neg (by omega)]; rfl), rfl⟩
    · rw [show (((k + 1 : Nat) : Int) - 1) = (k : Int) from by omega]
      have h1 := bitN_le a k
      have h2 := bitN_le b k
      by_cases he : bitN a k = bitN b k
      · have hd : (((bitN a k : Nat) : Int) != ((bitN b k : Nat) : Int)) = false := by rw [he]; simp
        have hs := Lib.hid (less_same a b k HE.out he)
        clear he
        go_wp2_with fail
        refine (bit_any a k ha (by omega) _).mono ?_; rintro e w' ⟨rfl, rfl⟩
        go_wp2_with fail
        refine (bit_any b k hb (by omega) _).mono ?_; rintro e w' ⟨rfl, rfl⟩
        go_wp2
        exact ⟨⟨k, by omega, rfl, hs⟩, by simp [intOf]⟩
      · have hd : (((bitN a k : Nat) : Int) != ((bitN b k : Nat) : Int)) = true := by rw [bne_iff_ne]; omega
        have hs := Lib.hid (less_unlike a b k HE.out he)
        clear he
        go_wp2_with fail
        refine (bit_any a k ha (by omega) _).mono ?_; rintro e w' ⟨rfl, rfl⟩
        go_wp2_with fail
        refine (bit_any b k hb (by omega) _).mono ?_; rintro e w' ⟨rfl, rfl⟩
        go_wp2_with fail
        refine (bit_any b k hb (by omega) _).mono ?_; rintro e w' ⟨rfl, rfl⟩
        go_wp2
        go_ret
        exact ⟨retint (by rw [HR.out, hs.out]), rfl⟩
end Go.Proofs.Ytokokhkjhlechaa.Al
