/- The library's Split and Cut at one byte: what they come to, and their walks. -/
import Derived.Test.YtlopmejmionnpaaDoorPaD
import Derived.Lib.SplitLaws
import Derived.Lib.IndexBytes
set_option linter.unusedVariables false
namespace Go.Proofs.YtlopmejmionnpaaDoor.As
open Go.RowKit

/-! ### Plain -/
theorem split_none (c : UInt8) : ∀ l : B8, c ∉ l → splitB c l = [l]
  | [], _ => rfl
  | d :: r, h => by
    have hd : ¬ d = c := fun e => h (by rw [e]; exact List.mem_cons_self)
    have hr : c ∉ r := fun e => h (List.mem_cons_of_mem _ e)
    rw [splitB, if_neg hd, split_none c r hr]
theorem split_at (c : UInt8) : ∀ (l : B8) (i : Nat), Lib.indexByte l c = i → splitB c l = l.take i :: splitB c (l.drop (i + 1))
  | [], i, h => by simp [Lib.indexByte] at h
  | d :: r, i, h => by
    unfold Lib.indexByte at h
    by_cases hd : d = c
    · rw [if_pos (by simpa using hd)] at h
      obtain rfl : i = 0 := by omega
      rw [splitB, if_pos hd]; rfl
    · rw [if_neg (by simpa using hd)] at h
      split at h
      · omega
      · rename_i hn
        have hge := Lib.indexByte_ge r c
        obtain ⟨j, rfl⟩ : ∃ j, i = j + 1 := ⟨i - 1, by
          have : Lib.indexByte r c ≠ -1 := fun e => hn (by rw [e]; rfl)
          omega⟩
        have hj : Lib.indexByte r c = j := by omega
        rw [splitB, if_neg hd, split_at c r j hj]
        rfl
theorem index_none_mem (l : B8) (c : UInt8) (h : Lib.indexByte l c = -1) : c ∉ l := by
  intro hm
  obtain ⟨k, hk, e⟩ := List.getElem_of_mem hm
  exact Lib.indexByte_none h k (by rw [List.getElem?_eq_getElem hk, e])
theorem index_mem (l : B8) (c : UInt8) (i : Nat) (h : Lib.indexByte l c = i) : c ∈ l := List.mem_of_getElem? (Lib.indexByte_some h).1
theorem count_after (c : UInt8) : ∀ (l : B8) (i : Nat), Lib.indexByte l c = i → l.count c = (l.drop (i + 1)).count c + 1
  | [], i, h => by simp [Lib.indexByte] at h
  | d :: r, i, h => by
    unfold Lib.indexByte at h
    by_cases hd : d = c
    · rw [if_pos (by simpa using hd)] at h
      obtain rfl : i = 0 := by omega
      subst hd; simp
    · rw [if_neg (by simpa using hd)] at h
      split at h
      · omega
      · rename_i hn
        have hge := Lib.indexByte_ge r c
        obtain ⟨j, rfl⟩ : ∃ j, i = j + 1 := ⟨i - 1, by
          have : Lib.indexByte r c ≠ -1 := fun e => hn (by rw [e]; rfl)
          omega⟩
        have hj : Lib.indexByte r c = j := by omega
        rw [List.count_cons_of_ne (by simpa using hd), count_after c r j hj]
        rfl
theorem splitK_eq (c : UInt8) : ∀ (k : Nat) (l : B8), l.count c = k → Lib.splitK [c] 0 k l = splitB c l
  | 0, l, h => by
    rw [split_none c l (List.count_eq_zero.1 h)]; rfl
  | k + 1, l, h => by
    have hm : c ∈ l := List.count_pos_iff.1 (by omega)
    have hge := Lib.indexByte_ge l c
    obtain ⟨i, hi⟩ : ∃ i : Nat, Lib.indexByte l c = i := ⟨(Lib.indexByte l c).toNat, by
      have : Lib.indexByte l c ≠ -1 := fun e => index_none_mem l c e hm
      omega⟩
    have hix : Lib.index l [c] = i := by rw [Lib.index_one, hi]
    have hc := count_after c l i hi
    rw [Lib.splitK, hix, if_neg (by simp), split_at c l i hi, splitK_eq c k _ (by show (l.drop ((i : Int).toNat + 1)).count c = k; rw [Int.toNat_natCast]; omega)]
    simp
theorem idxOf_byte (c : UInt8) : ∀ (l : B8), c ∈ l → Lib.indexByte l c = (l.idxOf c : Int)
  | [], h => by cases h
  | d :: r, h => by
    unfold Lib.indexByte
    by_cases hd : d = c
    · rw [if_pos (by simpa using hd)]; subst hd; simp
    · rw [if_neg (by simpa using hd)]
      have hr : c ∈ r := by rcases List.mem_cons.1 h with e | e; exact absurd e.symm hd; exact e
      rw [if_neg (by rw [idxOf_byte c r hr]; simp), idxOf_byte c r hr, List.idxOf_cons, show (d == c) = false from by simpa using hd]
      rfl
theorem idx_byte_none (c : UInt8) (l : B8) (h : c ∉ l) : Lib.indexByte l c = -1 := by
  have hge := Lib.indexByte_ge l c
  by_cases e : Lib.indexByte l c = -1
  · exact e
  · exact absurd (index_mem l c (Lib.indexByte l c).toNat (by omega)) h
theorem splitLib (c : UInt8) (s : ByteArray) : (Lib.splitB ⟨#[c]⟩ 0 (Lib.countB s ⟨#[c]⟩) s).map Value.string = (splitB c s.data.toList).map str := by
  have h := Lib.splitB_data ⟨#[c]⟩ 0 (Lib.countB s ⟨#[c]⟩) s
  have e : Lib.countB s ⟨#[c]⟩ = s.data.toList.count c := Lib.count_one c _
  rw [e] at h ⊢
  rw [splitK_eq c _ _ rfl] at h
  rw [← h, List.map_map]
  rfl

/-! ### The walks -/
theorem info_str : (Tryd.prog.info? 9).map (fun i => (i.zero, i.size, i.bytes)) = some (some (.string ByteArray.empty), 1, 16) := by kernel_rfl
/-- strings.Split by one byte. -/
def SplitP (c : UInt8) (l : B8) (w : World) (e : Ending) (w' : World) : Prop :=
  e = .returned (.slice (some ⟨w.heap.size, 0, none⟩) (splitB c l).length (splitB c l).length) ∧ w' = w.alloc (.cells ((splitB c l).map str).toArray 9)
set_option maxHeartbeats 1000000 in
theorem split_one (w : World) (s : ByteArray) (c : UInt8) (hs : s.size ≤ 1000000) :
    Calls Tryd.prog 29 #[.string s, .string ⟨#[c]⟩] w (SplitP c s.data.toList w) := by
  have hle := Lib.countB_le ⟨#[c]⟩ (Nat.le_refl 1) s.size s (Nat.le_refl _)
  have hlen := Lib.splitB_all ⟨#[c]⟩ (Nat.le_refl 1) 0 _ s rfl
  have hsp := splitLib c s
  have c0 := Any.strings_genSplit_core (P := Tryd.prog) Tryd.lays221 info_str s ⟨#[c]⟩ 0 (-1) (Lib.countB s ⟨#[c]⟩ + 1) w (by omega) (Nat.le_refl 1) (Nat.zero_le _)
    (fun x cs hx => (Tryd.strings_Index_one x c _).mono fun e w' ⟨he, hw⟩ => ⟨by rw [he, show Lib.indexB x ⟨#[c]⟩ = Lib.indexByte x.data.toList c from Lib.index_one _ _], hw⟩)
    ((Tryd.strings_Count_one s c w).mono fun e w' ⟨he, hw⟩ => ⟨by rw [he, show Lib.countB s ⟨#[c]⟩ = Lib.countByte s.data.toList c from Lib.count_one _ _], hw⟩)
    (by decide) (by decide) (by rw [if_pos (by decide)]; omega)
  rw [Nat.add_sub_cancel, hlen] at c0
  have e2 : Lib.cellsOf (Lib.splitB ⟨#[c]⟩ 0 (Lib.countB s ⟨#[c]⟩) s) (Lib.countB s ⟨#[c]⟩ + 1) = ((splitB c s.data.toList).map str).toArray := by rw [← hlen, Lib.cellsOf_full, hsp]
  have e3 : Lib.countB s ⟨#[c]⟩ + 1 = (splitB c s.data.toList).length := by
    rw [← hlen]; have := congrArg List.length hsp; simpa using this
  rw [e2, e3] at c0
  have C := Lib.hid (show Calls Tryd.prog 43 #[.string s, .string ⟨#[c]⟩, .int .i64 0, .int .i64 (-1)] w (SplitP c s.data.toList w) from c0)
  clear hle hlen hsp c0 e2 e3 hs
  go_enter Tryd.func29, Tryd.ntmps29
  go_wp2_with fail
  refine C.out.mono ?_
  rintro e w' ⟨rfl, hw⟩
  rw [hw]
  go_wp2_with fail
  go_ret
  exact ⟨rfl, rfl⟩
/-- strings.Cut by one byte. -/
theorem cut_no (w : World) (s : ByteArray) (c : UInt8) (h : c ∉ s.data.toList) :
    Calls Tryd.prog 84 #[.string s, .string ⟨#[c]⟩] w fun e w' => e = .returned (.tuple #[.string s, .string ByteArray.empty, .bool false]) ∧ w' = w := by
  have C := Lib.hid (show Calls Tryd.prog 80 #[.string s, .string ⟨#[c]⟩] w fun e w' => e = .returned (.int .i64 (-1)) ∧ w' = w from
    (Tryd.stringslite_Index_one s c w).mono fun e w' ⟨he, hw⟩ => ⟨by rw [he, idx_byte_none c _ h], hw⟩)
  clear h
  have C2 : Calls Tryd.prog 99 #[.string s, .string ⟨#[c]⟩] w fun e w' => e = .returned (.tuple #[.string s, .string ByteArray.empty, .bool false]) ∧ w' = w := by
    go_enter Tryd.func99, Tryd.ntmps99
    go_wp2_with fail
    refine C.out.mono ?_
    rintro e w' ⟨rfl, hw⟩
    subst hw
    go_wp2_with fail
    go_ret3
    exact ⟨rfl, rfl⟩
  have C3 := Lib.hid C2
  clear C2
  go_enter Tryd.func84, Tryd.ntmps84
  go_wp2_with fail
  refine C3.out.mono ?_
  rintro e w' ⟨rfl, hw⟩
  subst hw
  go_wp2_with fail
  go_ret3
  exact ⟨rfl, rfl⟩
theorem cut_yes (w : World) (s : ByteArray) (c : UInt8) (h : c ∈ s.data.toList) (hs : s.size ≤ 1000000) :
    Calls Tryd.prog 84 #[.string s, .string ⟨#[c]⟩] w fun e w' => e = .returned (.tuple #[str (s.data.toList.take (s.data.toList.idxOf c)), str (s.data.toList.drop (s.data.toList.idxOf c + 1)), .bool true]) ∧ Below w.heap.size w w' := by
  obtain ⟨i, hi⟩ : ∃ i, s.data.toList.idxOf c = i := ⟨_, rfl⟩
  have hlt : i < s.size := by rw [← hi, ← toList_len s]; exact List.idxOf_lt_length_of_mem h
  rw [hi]
  have C := Lib.hid (show Calls Tryd.prog 80 #[.string s, .string ⟨#[c]⟩] w fun e w' => e = .returned (.int .i64 i) ∧ w' = w from
    (Tryd.stringslite_Index_one s c w).mono fun e w' ⟨he, hw⟩ => ⟨by rw [he, idxOf_byte c _ h, hi], hw⟩)
  clear h hi
  rw [← ext_take, ← ext_drop]
  have c1 : (0 : Int) ≤ ↑i := by omega
  have c2 : (↑i : Int) ≤ ↑s.size := by omega
  have c3 : (0 : Int) ≤ ↑i + 1 := by omega
  have c4 : (↑i + 1 : Int) ≤ ↑s.size := by omega
  have C2 : Calls Tryd.prog 99 #[.string s, .string ⟨#[c]⟩] w fun e w' => e = .returned (.tuple #[.string (s.extract 0 i), .string (s.extract (i + 1) s.size), .bool true]) ∧ w' = w.drew := by
    go_enter Tryd.func99, Tryd.ntmps99
    go_wp2_with fail
    refine C.out.mono ?_
    rintro e w' ⟨rfl, hw⟩
    subst hw
    go_wp2_with fail
    go_region
    go_wp2
    go_ret3
    exact ⟨rfl, rfl⟩
  have C3 := Lib.hid C2
  clear C2
  go_enter Tryd.func84, Tryd.ntmps84
  go_wp2_with fail
  refine C3.out.mono ?_
  rintro e w' ⟨rfl, hw⟩
  subst hw
  go_wp2_with fail
  go_ret3
  exact ⟨rfl, below_dn (Below.refl _ _) 1⟩
end Go.Proofs.YtlopmejmionnpaaDoor.As
