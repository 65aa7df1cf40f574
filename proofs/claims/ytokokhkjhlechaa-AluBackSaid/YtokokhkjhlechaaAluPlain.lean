/- Plain numbers: the operations of 32-bit words as functions of natural numbers, and words told by their bits. No program in sight. -/
import Derived.WalkKit
import Derived.Laws.BitsLemmas
namespace Go.Proofs.Ytokokhkjhlechaa.Al
open Go.RowKit

/-- What an operation makes of two words. -/
def aluN (op a b : Nat) : Nat :=
  match op with
  | 3 => (a + b) % 4294967296
  | 4 => (a + 4294967296 - b) % 4294967296
  | 5 => a * b % 4294967296
  | 6 => a &&& b
  | 7 => a ||| b
  | 8 => a ^^^ b
  | 9 => a * 2 ^ (b % 32) % 4294967296
  | 10 => a / 2 ^ (b % 32)
  | 11 => if a < b then 1 else 0
  | 12 => if a = b then 1 else 0
  | _ => 0

theorem aluN_lt (op a b : Nat) (ha : a < 4294967296) (hb : b < 4294967296) : aluN op a b < 4294967296 := by
  unfold aluN
  split
  · omega
  · omega
  · omega
  · exact Nat.lt_of_le_of_lt Nat.and_le_left ha
  · exact Nat.or_lt_two_pow (n := 32) ha hb
  · exact Nat.xor_lt_two_pow (n := 32) ha hb
  · omega
  · exact Nat.lt_of_le_of_lt (Nat.div_le_self _ _) ha
  · split <;> omega
  · split <;> omega
  · omega

theorem bv32 (a : Nat) (ha : a < 4294967296) : (BitVec.ofInt 32 (a : Int)).toNat = a := by
  rw [BitVec.ofInt_natCast, BitVec.toNat_ofNat]; exact Nat.mod_eq_of_lt (by omega)
theorem bits_and_u32 (a b : Nat) (ha : a < 4294967296) (hb : b < 4294967296) : bits .and .u32 (a : Int) (b : Int) = ((a &&& b : Nat) : Int) :=
  (bits_nat .u32 32 (by decide) (fun n h0 h1 => IntWalk.u32_in n ⟨h0, by omega⟩) a b ha hb).1
theorem bits_or_u32 (a b : Nat) (ha : a < 4294967296) (hb : b < 4294967296) : bits .or .u32 (a : Int) (b : Int) = ((a ||| b : Nat) : Int) :=
  (bits_nat .u32 32 (by decide) (fun n h0 h1 => IntWalk.u32_in n ⟨h0, by omega⟩) a b ha hb).2
theorem bits_xor_u32 (a b : Nat) (ha : a < 4294967296) (hb : b < 4294967296) : bits .xor .u32 (a : Int) (b : Int) = ((a ^^^ b : Nat) : Int) := by
  have hx : a ^^^ b < 2 ^ 32 := Nat.xor_lt_two_pow (by omega) (by omega)
  show IntKind.u32.wrap ((BitVec.ofInt 32 (a : Int) ^^^ BitVec.ofInt 32 (b : Int)).toNat : Int) = _
  rw [BitVec.toNat_xor, bv32 a ha, bv32 b hb, IntKind.wrap_u32]
  omega

/-! ### A word's bits, as cells of an array of 32 -/
def bitN (n i : Nat) : Nat := n / 2 ^ i % 2
theorem bitN_le (n i : Nat) : bitN n i ≤ 1 := by unfold bitN; omega
theorem bitN_test (n i : Nat) : bitN n i = (n.testBit i).toNat := by
  unfold bitN; rw [Nat.testBit_eq_decide_div_mod_eq]
  have : n / 2 ^ i % 2 = 0 ∨ n / 2 ^ i % 2 = 1 := by omega
  rcases this with h | h <;> simp [h]
theorem bit_walk (n i : Nat) (hn : n < 4294967296) : bits .and .u32 ((n : Int) / 2 ^ i) 1 = ((bitN n i : Nat) : Int) := by
  have h : ((n : Int) / 2 ^ i) = ((n / 2 ^ i : Nat) : Int) := by simp
  have h1 : (1 : Int) = ((1 : Nat) : Int) := rfl
  rw [h, h1, bits_and_u32 _ 1 (Nat.lt_of_le_of_lt (Nat.div_le_self _ _) hn) (by decide), Nat.and_one_is_mod]
  rfl

/-- The first k bits of m, zeros behind. -/
def part (m k : Nat) : Nat → Nat := fun j => if j < k then bitN m j else 0
/-- 32 cells. -/
def arr (f : Nat → Nat) : Array Value := ((List.range 32).map fun j => Value.int .i64 (f j)).toArray
theorem arr_size (f : Nat → Nat) : (arr f).size = 32 := by simp [arr]
theorem arr_get (f : Nat → Nat) (j : Nat) (h : j < 32) : (arr f)[j]? = some (.int .i64 (f j)) := by
  simp [arr, h]
theorem arr_congr {f g : Nat → Nat} (h : ∀ j, j < 32 → f j = g j) : arr f = arr g := by
  unfold arr
  congr 1
  apply List.map_congr_left
  intro j hj
  rw [h j (by simpa using hj)]
theorem arr_set (f : Nat → Nat) (k v : Nat) (hk : k < 32) : (arr f).setIfInBounds k (.int .i64 (v : Int)) = arr (fun j => if j = k then v else f j) := by
  apply Array.ext_getElem?
  intro j
  rw [Array.getElem?_setIfInBounds]
  by_cases hj : j < 32
  · rw [arr_get _ _ hj, arr_get _ _ hj]
    by_cases e : k = j
    · subst e; simp [arr_size, hk]
    · rw [if_neg e, if_neg (fun e' => e e'.symm)]
  · have h1 : (arr f)[j]? = none := by simp [arr]; omega
    have h2 : (arr (fun j => if j = k then v else f j))[j]? = none := by simp [arr]; omega
    rw [h1, h2, if_neg (by omega)]
theorem part_set (m k v : Nat) (hk : k < 32) (hv : v = bitN m k) : (arr (part m k)).setIfInBounds k (.int .i64 (v : Int)) = arr (part m (k + 1)) := by
  rw [arr_set _ _ _ hk]
  apply arr_congr
  intro j _
  unfold part
  by_cases e : j = k
  · subst e; rw [if_pos rfl, if_pos (by omega), hv]
  · rw [if_neg e]
    by_cases h : j < k
    · rw [if_pos h, if_pos (by omega)]
    · rw [if_neg h, if_neg (by omega)]
/-- A cell that stays 0: the bit is 0. -/
theorem part_skip (m k : Nat) (h : bitN m k = 0) : arr (part m k) = arr (part m (k + 1)) := by
  apply arr_congr
  intro j _
  unfold part
  by_cases e : j = k
  · subst e; rw [if_neg (by omega), if_pos (by omega), h]
  · by_cases h : j < k
    · rw [if_pos h, if_pos (by omega)]
    · rw [if_neg h, if_neg (by omega)]
theorem part_zero (m : Nat) : arr (part m 0) = #[.int .i64 0, .int .i64 0, .int .i64 0, .int .i64 0, .int .i64 0, .int .i64 0, .int .i64 0, .int .i64 0, .int .i64 0, .int .i64 0, .int .i64 0, .int .i64 0, .int .i64 0, .int .i64 0, .int .i64 0, .int .i64 0, .int .i64 0, .int .i64 0, .int .i64 0, .int .i64 0, .int .i64 0, .int .i64 0, .int .i64 0, .int .i64 0, .int .i64 0, .int .i64 0, .int .i64 0, .int .i64 0, .int .i64 0, .int .i64 0, .int .i64 0, .int .i64 0] := rfl

/-! ### What the loops reckon -/
/-- of: one bit more. -/
theorem of_step (m j : Nat) : m / 2 ^ j = 2 * (m / 2 ^ (j + 1)) + bitN m j := by
  unfold bitN
  have : m / 2 ^ (j + 1) = m / 2 ^ j / 2 := by rw [Nat.pow_succ, Nat.div_div_eq_div_mul]
  omega
theorem of_walk (m j : Nat) (hm : m < 4294967296) : bits .or .u32 (((m / 2 ^ (j + 1) : Nat) : Int) * 2 % 4294967296) ((bitN m j : Nat) : Int) = ((m / 2 ^ j : Nat) : Int) := by
  have h1 : m / 2 ^ (j + 1) < 2147483648 := by
    have : m / 2 ^ (j + 1) ≤ m / 2 := by
      have : m / 2 ^ (j + 1) = m / 2 / 2 ^ j := by rw [Nat.pow_succ, Nat.mul_comm, Nat.div_div_eq_div_mul]
      rw [this]; exact Nat.div_le_self _ _
    omega
  have h2 := bitN_le m j
  have e : ((m / 2 ^ (j + 1) : Nat) : Int) * 2 % 4294967296 = ((2 * (m / 2 ^ (j + 1)) : Nat) : Int) := by omega
  rw [e, bits_or_u32 _ _ (by omega) (by omega), of_step m j]
  congr 1
  have : 2 * (m / 2 ^ (j + 1)) = 2 ^ 1 * (m / 2 ^ (j + 1)) := by omega
  rw [this, ← Nat.two_pow_add_eq_or_of_lt (by omega : bitN m j < 2 ^ 1)]
/-- Add: what is carried into place k. -/
def carry (a b k : Nat) : Nat := (a % 2 ^ k + b % 2 ^ k) / 2 ^ k
theorem mod_succ (a k : Nat) : a % 2 ^ (k + 1) = a % 2 ^ k + 2 ^ k * bitN a k := by
  unfold bitN; rw [Nat.pow_succ, Nat.mod_mul]
theorem carry_zero (a b : Nat) : carry a b 0 = 0 := by simp [carry, Nat.mod_one]
theorem carry_le (a b k : Nat) : carry a b k ≤ 1 := by
  unfold carry
  have h1 := Nat.mod_lt a (Nat.two_pow_pos k)
  have h2 := Nat.mod_lt b (Nat.two_pow_pos k)
  have : (a % 2 ^ k + b % 2 ^ k) / 2 ^ k < 2 := by
    rw [Nat.div_lt_iff_lt_mul (Nat.two_pow_pos k)]; omega
  omega
theorem carry_succ (a b k : Nat) : carry a b (k + 1) = (bitN a k + bitN b k + carry a b k) / 2 := by
  have e : carry a b (k + 1) = (a % 2 ^ k + b % 2 ^ k + 2 ^ k * (bitN a k + bitN b k)) / 2 ^ k / 2 := by
    rw [Nat.div_div_eq_div_mul, ← Nat.pow_succ]
    unfold carry
    rw [mod_succ a, mod_succ b, Nat.mul_add]
    congr 1; omega
  rw [e, Nat.add_mul_div_left _ _ (Nat.two_pow_pos k)]
  unfold carry; omega
theorem carry_bit (a b k : Nat) : bitN (a + b) k = (bitN a k + bitN b k + carry a b k) % 2 := by
  have e : (a + b) / 2 ^ k = a / 2 ^ k + b / 2 ^ k + carry a b k := by
    unfold carry
    have h1 := Nat.div_add_mod a (2 ^ k)
    have h2 := Nat.div_add_mod b (2 ^ k)
    have : a + b = a % 2 ^ k + b % 2 ^ k + 2 ^ k * (a / 2 ^ k + b / 2 ^ k) := by rw [Nat.mul_add]; omega
    rw [this, Nat.add_mul_div_left _ _ (Nat.two_pow_pos k)]; omega
  unfold bitN at *
  rw [e]; omega
theorem bitN_mod (n k : Nat) (h : k < 32) : bitN (n % 4294967296) k = bitN n k := by
  rw [bitN_test, bitN_test, show (4294967296 : Nat) = 2 ^ 32 from rfl, Nat.testBit_mod_two_pow]
  simp [h]
/-- Minus: all bits turned. -/
theorem bit_turned (n k : Nat) (hn : n < 4294967296) (h : k < 32) : bitN (4294967295 - n) k = 1 - bitN n k := by
  rw [bitN_test, bitN_test]
  have : 4294967295 - n = 2 ^ 32 - (n + 1) := by omega
  rw [this, Nat.testBit_two_pow_sub_succ (by omega)]
  simp only [h, decide_true, Bool.true_and]
  cases n.testBit k <;> rfl
/-- Move: up by s, within 32 bits. -/
theorem bit_up (n s k : Nat) (h : k < 32) : bitN (n * 2 ^ s % 4294967296) k = if s ≤ k then bitN n (k - s) else 0 := by
  rw [bitN_mod _ _ h]
  by_cases e : s ≤ k
  · rw [if_pos e]
    unfold bitN
    have : 2 ^ k = 2 ^ s * 2 ^ (k - s) := by rw [← Nat.pow_add]; congr 1; omega
    rw [this, ← Nat.div_div_eq_div_mul, Nat.mul_div_cancel _ (Nat.two_pow_pos s)]
  · rw [if_neg e]
    unfold bitN
    have : 2 ^ s = 2 ^ k * (2 * 2 ^ (s - k - 1)) := by rw [← Nat.pow_succ', ← Nat.pow_add]; congr 1; omega
    rw [this, show n * (2 ^ k * (2 * 2 ^ (s - k - 1))) = 2 ^ k * (n * (2 * 2 ^ (s - k - 1))) from by ac_rfl, Nat.mul_div_cancel_left _ (Nat.two_pow_pos k)]
    rw [show n * (2 * 2 ^ (s - k - 1)) = 2 * (n * 2 ^ (s - k - 1)) from by ac_rfl, Nat.mul_mod_right]
/-- Move: down by s. -/
theorem bit_down (n s k : Nat) : bitN (n / 2 ^ s) k = bitN n (k + s) := by
  unfold bitN; rw [Nat.div_div_eq_div_mul, ← Nat.pow_add, Nat.add_comm s k]
theorem bit_far (n k : Nat) (hn : n < 4294967296) (h : 32 ≤ k) : bitN n k = 0 := by
  unfold bitN
  have : n < 2 ^ k := Nat.lt_of_lt_of_le hn (by rw [show (4294967296 : Nat) = 2 ^ 32 from rfl]; exact Nat.pow_le_pow_right (by decide) h)
  rw [Nat.div_eq_of_lt this]
/-- Mul: sums of what is moved up. -/
theorem mul_step (a b k : Nat) : a * (b % 2 ^ (k + 1)) = a * (b % 2 ^ k) + bitN b k * (a * 2 ^ k) := by
  rw [mod_succ, Nat.mul_add]; congr 1; ac_rfl
/-- Less: by the highest bit in which they are unlike. -/
theorem less_same (a b k : Nat) (h : a / 2 ^ (k + 1) = b / 2 ^ (k + 1)) (e : bitN a k = bitN b k) : a / 2 ^ k = b / 2 ^ k := by
  rw [of_step a k, of_step b k, h, e]
theorem less_unlike (a b k : Nat) (h : a / 2 ^ (k + 1) = b / 2 ^ (k + 1)) (e : ¬ bitN a k = bitN b k) : (if a < b then 1 else 0) = bitN b k := by
  have ha := of_step a k
  have hb := of_step b k
  have := bitN_le a k
  have := bitN_le b k
  have lo : ∀ x y : Nat, x / 2 ^ k < y / 2 ^ k → x < y := fun x y hxy => by
    rcases Nat.lt_or_ge x y with h' | h'
    · exact h'
    · exact absurd (Nat.div_le_div_right (c := 2 ^ k) h') (by omega)
  rcases (by omega : bitN a k = 0 ∧ bitN b k = 1 ∨ bitN a k = 1 ∧ bitN b k = 0) with ⟨h0, h1⟩ | ⟨h0, h1⟩
  · rw [h1, if_pos (lo a b (by omega))]
  · rw [h1, if_neg (by have := lo b a (by omega); omega)]
theorem bit_and (a b k : Nat) : bitN (a &&& b) k = (bitN a k + bitN b k) / 2 := by
  rw [bitN_test, bitN_test, bitN_test, Nat.testBit_and]; cases a.testBit k <;> cases b.testBit k <;> rfl
theorem bit_or (a b k : Nat) : bitN (a ||| b) k = (bitN a k + bitN b k + 1) / 2 := by
  rw [bitN_test, bitN_test, bitN_test, Nat.testBit_or]; cases a.testBit k <;> cases b.testBit k <;> rfl
theorem bit_xor (a b k : Nat) : bitN (a ^^^ b) k = (bitN a k + bitN b k) % 2 := by
  rw [bitN_test, bitN_test, bitN_test, Nat.testBit_xor]; cases a.testBit k <;> cases b.testBit k <;> rfl
end Go.Proofs.Ytokokhkjhlechaa.Al
