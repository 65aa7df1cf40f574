/- The walks of the package asm: a number's digits. -/
import Derived.Test.YtlopmejmionnpaaDoorPaA
import Derived.Test.YtlopmejmionnpaaDoorShelf
import Derived.IntWalk
set_option linter.unusedVariables false
namespace Go.Proofs.YtlopmejmionnpaaDoor.As
open Go.RowKit Go.Sort Go.Lib

theorem putRow_size (enc : UInt8 → Value) (w : World) (blk off : Nat) (d : Array UInt8) : (putRow enc w blk off d).heap.size = w.heap.size := by
  unfold putRow Go.Sort.mapBlock; simp
theorem putRow_other (enc : UInt8 → Value) (w : World) (blk off : Nat) (d : Array UInt8) (k : Nat) (h : k ≠ blk) : (putRow enc w blk off d).heap[k]? = w.heap[k]? := by
  unfold putRow Go.Sort.mapBlock; simp [Array.getElem?_modify, Ne.symm h]
theorem putRow_below {B : Nat} {a w : World} (h : Below B a w) (enc : UInt8 → Value) (blk off : Nat) (d : Array UInt8) (hb : B ≤ blk) : Below B a (putRow enc w blk off d) :=
  ⟨h.os, h.tape, h.output, by rw [putRow_size]; exact h.size, fun k hk => by rw [putRow_other _ _ _ _ _ _ (by omega)]; exact h.block k hk⟩
theorem below_dn {B : Nat} {a w : World} (h : Below B a w) (n : Nat) : Below B a (w.drewN n) := ⟨h.os, h.tape, h.output, h.size, h.block⟩
theorem holds_zero0 (w : World) (T : TypeId) (nd : Nat) (hs : nd ≤ 24) : Holds (fun (b : UInt8) => Value.int .u8 (b.toNat : Int)) (w.alloc (.cells Lib.zeros24 T)) w.heap.size 0 (Array.replicate nd (0 : UInt8)) := fun j hj => by
  have hj' : j < nd := by simpa using hj
  refine ⟨?_, World.frozen?_alloc_new _ _ _ _⟩
  rw [World.cell?_alloc_new, Lib.zeros24_at _ (by omega), getElem!_pos _ j hj]
  simp

def Pow (w : World) : Prop := Lib.TabIs Tryd.prog w "internal/strconv.uint64pow10" .u64 Lib.pow10Tab
/-- A digits' text; new blocks alone. -/
def DigP (u : Nat) (w : World) (e : Ending) (w' : World) : Prop := e = .returned (.string ⟨(Lib.decDigits u).toArray⟩) ∧ Below w.heap.size w w'
set_option maxHeartbeats 6400000 in
set_option maxRecDepth 100000 in
theorem fmtu_in (u : Nat) (hu64 : u < 18446744073709551616) (w : World) (htab : Pow w) :
    Calls Tryd.prog 75 #[.int .u64 u, .int .i64 10] w (DigP u w) := by
  by_cases hs : u < 100
  · have hc : (u : Int) < 100 := by omega
    have hcv : ∀ W, (convert 101 3 (.int .u64 u)).run Tryd.prog W = .ok (.int .i64 u) W := fun W => by go_simp; exact IntWalk.i64_in _ (by omega)
    go_enter Tryd.func75, Tryd.ntmps75
    go_wp2_with (go_at_call 87; refine (Tryd.internal_strconv_small u hs _).mono ?_; rintro e w' ⟨rfl, rfl⟩)
    go_ret
    exact ⟨rfl, Below.refl _ _⟩
  · have hu1 : 1 ≤ u := by omega
    have hc : ¬ (u : Int) < 100 := by omega
    have hnd20 : Lib.nDigits u ≤ 20 := by have := Lib.numDigits_eq u hu1 hu64; split at this <;> omega
    have hal : Tryd.prog.arrayLen 123 = 24 := by simp [Program.arrayLen, Tryd.underlying123]
    have hsl1 : ∀ W, (Instr.sliceAt 123 (.pointer (some ⟨w.heap.size, 0, none⟩)) none (some (.int .i64 (Lib.nDigits u : Int))) none).run Tryd.prog W = .ok (.slice (some ⟨w.heap.size, 0, none⟩) (Lib.nDigits u) 24) W := fun W => by
      rw [run_sliceAt_array_h W 123 ⟨w.heap.size, 0, none⟩ (by simp [Program.arrayLen, Program.elem, Tryd.underlying123]) .i64 (Lib.nDigits u : Int) (by omega) (by rw [hal]; omega)]
      go_simp
    have hH0 := holds_zero0 w 123 (Lib.nDigits u) (by omega)
    have hfmt := Tryd.internal_strconv_formatBase10 w.heap.size 0 24 u (Array.replicate (Lib.nDigits u) 0) (w.alloc (.cells Lib.zeros24 123)) hH0 (by rw [Array.size_replicate]; exact Lib.lt_pow_nDigits u) hu64 (by rw [Array.size_replicate]; omega)
    rw [Array.size_replicate] at hfmt
    have HH0 := Lib.hid hH0
    have HT := Lib.hid htab
    have HF := Lib.hid hfmt
    clear hH0 hal htab hs hfmt
    go_enter Tryd.func75, Tryd.ntmps75
    go_wp2_with (first
      | (go_at_call 88; refine (Tryd.internal_strconv_numDigits u hu1 hu64 _ (Lib.tabIs_alloc HT.out _)).mono ?_; rintro e w' ⟨rfl, rfl⟩))
    refine HF.out.mono ?_
    rintro e w' ⟨rfl, k, v', dk, rfl, hF⟩
    have hcv : (convert 73 9 (.slice (some ⟨w.heap.size, 0, none⟩) (Lib.nDigits u) 24)).run Tryd.prog ((putRow (fun (b : UInt8) => Value.int .u8 (b.toNat : Int)) (w.alloc (.cells Lib.zeros24 123)) w.heap.size 0 dk).drewN k) = .ok (.string ⟨(Lib.decDigits u).toArray⟩) ((putRow (fun (b : UInt8) => Value.int .u8 (b.toNat : Int)) (w.alloc (.cells Lib.zeros24 123)) w.heap.size 0 dk).drewN k) := by
      have h := run_convert_bytes_back (P := Tryd.prog) ((putRow (fun (b : UInt8) => Value.int .u8 (b.toNat : Int)) (w.alloc (.cells Lib.zeros24 123)) w.heap.size 0 dk).drewN k) 73 9 5 ⟨w.heap.size, 0, none⟩ 24 (Lib.decDigits u) Tryd.underlying73 Tryd.underlying5 Tryd.underlying9 (fun j hj => by
        rw [Lib.row_is_numeral hF j hj, Lib.add_plain, World.cell?_drewN]
        exact cell?_putRow (fun (b : UInt8) => Value.int .u8 (b.toNat : Int)) _ w.heap.size 0 _ dk HH0.out (by rw [hF.size, Array.size_replicate]) j (by rw [hF.size]; rw [Lib.decDigits_length] at hj; exact hj))
      rw [Lib.decDigits_length] at h
      exact h
    go_wp2
    go_ret
    refine ⟨rfl, below_dn (putRow_below ((Below.refl _ _).alloc (Nat.le_refl _) _) _ _ _ _ (Nat.le_refl _)) _⟩
theorem fmtu_any (u : Nat) (hu64 : u < 18446744073709551616) (w : World) (htab : Pow w) :
    Calls Tryd.prog 60 #[.int .u64 u, .int .i64 10] w (DigP u w) := by
  have HT := Lib.hid htab
  clear htab
  have hu2 := Lib.hid hu64
  clear hu64
  go_enter Tryd.func60, Tryd.ntmps60
  go_wp2_with fail
  refine (fmtu_in u hu2.out _ HT.out).mono ?_
  rintro e w' ⟨rfl, hb⟩
  go_wp2
  go_ret
  exact ⟨rfl, hb⟩
end Go.Proofs.YtlopmejmionnpaaDoor.As
