/- The walk of isa.Check: a program of one code. -/
import Derived.Test.YtackbadmcgjncaaGreatDoorAlM
import Derived.Test.YtackbadmcgjncaaGreatDoorCoI
set_option linter.unusedVariables false
set_option linter.unusedSimpArgs false
set_option maxRecDepth 20000
namespace Go.Proofs.YtackbadmcgjncaaGreatDoor.As
open Go.RowKit

set_option maxHeartbeats 2000000 in
theorem check_any (w : World) (T : TabI w) (cb ccap g len cap mlen mcap : Nat) (L : List Ins) (ma : Option Addr) (hcb : w.cell? ⟨cb, 0, none⟩ = some (.slice (some ⟨g, 0, none⟩) len cap)) (hL : InS w (.slice (some ⟨g, 0, none⟩) len cap) len L) (hr : ∀ x ∈ L, rightI x len = true) (hlen : len ≤ 4000) (hm : mlen ≤ 1024) :
    Calls Tryz.prog 34 #[.agg #[.slice (some ⟨cb, 0, none⟩) 1 ccap, .slice ma mlen mcap, .int .i64 1]] w fun e w' => e = .returned (.tuple #[.int .i64 0, .int .i64 0, .int .i64 0]) ∧ Below w.heap.size w w' := by
  have HT := Lib.hid T
  have HL := Lib.hid hL
  have HR := Lib.hid hr
  have hm' : ¬ (1024 : Int) < (mlen : Int) := by omega
  have hl' : ¬ (4000 : Int) < (len : Int) := by omega
  clear T hL hr
  go_enter Tryz.func34, Tryz.ntmps34
  go_wp2_with fail
  go_loopw [36] (fun iv wr => (iv = .int .i64 0 ∧ Hid (Below w.heap.size w wr)) ∨ (iv = .int .i64 1 ∧ Hid (Below w.heap.size w wr))) (fun i _ => 1 - (intOf i).toNat)
  case atStart => exact .inl ⟨rfl, Lib.hid ((Below.refl _ w).alloc (Nat.le_refl _) _)⟩
  case round =>
    rcases hrel with ⟨rfl, HB⟩ | ⟨rfl, HB⟩
    · have hcw : wr.cell? ⟨cb, 0, none⟩ = some (.slice (some ⟨g, 0, none⟩) len cap) := (HB.out.cell (p := ⟨cb, 0, none⟩) (block_lt_of_cell hcb)).trans hcb
      go_wp2_with fail
      go_loopw [47] (fun iv wq => ∃ k : Nat, k ≤ len ∧ iv = .int .i64 k ∧ Hid (Below w.heap.size w wq)) (fun i _ => len - (intOf i).toNat)
      case atStart => exact ⟨0, Nat.zero_le _, rfl, HB⟩
      case round =>
        clear HB hcw
        obtain ⟨k, hk, rfl, HB⟩ := hrel
        by_cases hlt : k < len
        · have hlt' : (k : Int) < len := by omega
          have hq := HL.out.1
          obtain ⟨x, hx⟩ : ∃ x, L[k]? = some x := ⟨_, List.getElem?_eq_getElem (by omega)⟩
          have hxr := HR.out x (List.mem_of_getElem? hx)
          obtain ⟨b, off, hA, hbl, a0, a1, a2, a3, a4⟩ := InS.at (HL.out.below HB.out (Nat.le_refl _)) hx
          injection hA with hA
          injection hA with e1 e2
          subst e1; subst e2
          rw [Nat.zero_add] at a0 a1 a2 a3 a4
          have hR2 := fun W (hW : Below w.heap.size w W) => right_isa W (HT.out.below hW (Nat.le_refl _)) x len (by omega) (by omega) hxr
          clear hx hq hxr
          go_wp2_with (go_at_call 68; refine (hR2 _ (HB.out.alloc HB.out.size _)).mono ?_; rintro r w2 ⟨rfl, hb2⟩)
          exact ⟨⟨k + 1, by omega, by simp, Lib.hid ((HB.out.alloc HB.out.size _).trans (hb2.mono (by simp; have := HB.out.size; omega)))⟩, by simp [intOf]; omega⟩
        · have hlt' : ¬ (k : Int) < len := by omega
          go_wp2_with fail
          exact ⟨.inr ⟨rfl, HB⟩, by simp [intOf]⟩
    · go_wp2_with fail
      go_ret3
      exact ⟨rfl, HB.out⟩
end Go.Proofs.YtackbadmcgjncaaGreatDoor.As
