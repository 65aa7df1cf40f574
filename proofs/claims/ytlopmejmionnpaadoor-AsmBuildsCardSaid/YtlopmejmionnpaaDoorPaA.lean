/- The walks of the package asm: a line's words: giving up; a register. -/
import Derived.Test.YtlopmejmionnpaaDoorPaP
import Derived.Test.YtlopmejmionnpaaDoorRd
import Derived.Test.YtlopmejmionnpaaDoorAsmName
import Derived.Test.YtlopmejmionnpaaDoorRefC
set_option linter.unusedVariables false
namespace Go.Proofs.YtlopmejmionnpaaDoor.As
open Go.RowKit

/-- How a line is given up. -/
def gaveUp : Ending := .panicked [{ v := .iface 111 (.agg #[]), recovered := false }]
theorem must_yes (w : World) : Calls Tryd.prog 48 #[.bool true] w fun e w' => e = .returned (.tuple #[]) ∧ w = w' := by
  go_enter Tryd.func48, Tryd.ntmps48
  go_wp2
  go_end0
  exact ⟨rfl, rfl⟩
theorem must_no (w : World) : Calls Tryd.prog 48 #[.bool false] w fun e w' => e = gaveUp ∧ w = w' := by
  go_enter Tryd.func48, Tryd.ntmps48
  go_wp2
  exact ⟨rfl, rfl, rfl⟩

def regV (l : B8) : Int := if 0 ≤ regB l then regB l else 0
def regP (l : B8) (w : World) (e : Ending) (w' : World) : Prop := e = .returned (.tuple #[.int .i64 (regV l), .bool (decide (0 ≤ regB l))]) ∧ w = w'
theorem reg_any (w : World) (s : ByteArray) (hs : s.size ≤ maxLen) :
    Calls Tryd.prog 85 #[.string s] w (regP s.data.toList w) := by
  have hlen := toList_len s
  by_cases h2 : s.size = 2
  · obtain ⟨a, b, hab⟩ : ∃ a b, s.data.toList = [a, b] := by
      match hs : s.data.toList, hlen with
      | [], h => simp at h; omega
      | [_], h => simp at h; omega
      | [a, b], _ => exact ⟨a, b, rfl⟩
      | _ :: _ :: _ :: _, h => simp at h; omega
    have d0 : ((s.size : Int) != 2) = false := by rw [h2]; rfl
    obtain ⟨i0, e0⟩ := at_byte (s := s) (i := 0) (c := a) (by rw [hab]; rfl)
    obtain ⟨i1, e1⟩ := at_byte (s := s) (i := 1) (c := b) (by rw [hab]; rfl)
    rw [hab]
    have ev : regB [a, b] = if a = 114 ∧ 48 ≤ b.toNat ∧ b.toNat ≤ 55 then (b.toNat : Int) - 48 else -1 := rfl
    have EV := Lib.hid ev
    clear ev hab hlen h2 hs
    by_cases ha : a = 114
    · have d1 : ((a.toNat : Int) != 114) = false := by rw [ha]; rfl
      have HA := Lib.hid ha
      clear ha
      by_cases q1 : 48 ≤ b.toNat
      · by_cases q2 : b.toNat ≤ 55
        · go_enter Tryd.func85, Tryd.ntmps85
          go_wp2
          go_ret2
          have hv : regB [a, b] = (b.toNat : Int) - 48 := by rw [EV.out, if_pos ⟨HA.out, q1, q2⟩]
          refine ⟨?_, rfl⟩
          unfold regV
          rw [hv, if_pos (by omega), show decide (0 ≤ (b.toNat : Int) - 48) = true from decide_eq_true (by omega)]; rfl
        · go_enter Tryd.func85, Tryd.ntmps85
          go_wp2
          go_ret2
          have hv : regB [a, b] = -1 := by rw [EV.out, if_neg (fun h => q2 h.2.2)]
          refine ⟨?_, rfl⟩
          unfold regV
          rw [hv]; rfl
      · go_enter Tryd.func85, Tryd.ntmps85
        go_wp2
        go_ret2
        have hv : regB [a, b] = -1 := by rw [EV.out, if_neg (fun h => q1 h.2.1)]
        refine ⟨?_, rfl⟩
        unfold regV
        rw [hv]; rfl
    · have d1 : ((a.toNat : Int) != 114) = true := by
        rw [bne_iff_ne]; intro h; exact ha (UInt8.toNat_inj.1 (by have : (114 : UInt8).toNat = 114 := rfl; omega))
      go_enter Tryd.func85, Tryd.ntmps85
      go_wp2
      go_ret2
      have hv : regB [a, b] = -1 := by rw [EV.out, if_neg (fun h => ha h.1)]
      refine ⟨?_, rfl⟩
      unfold regV
      rw [hv]; rfl
  · have d0 : ((s.size : Int) != 2) = true := by rw [bne_iff_ne]; omega
    have hv : regB s.data.toList = -1 := by
      match hq : s.data.toList, hlen with
      | [], h => rfl
      | [_], h => rfl
      | [a, b], h => simp at h; omega
      | _ :: _ :: _ :: _, h => rfl
    have HV := Lib.hid hv
    clear hv h2 hlen
    go_enter Tryd.func85, Tryd.ntmps85
    go_wp2
    go_ret2
    refine ⟨?_, rfl⟩
    unfold regV
    rw [HV.out]; rfl
end Go.Proofs.YtlopmejmionnpaaDoor.As
