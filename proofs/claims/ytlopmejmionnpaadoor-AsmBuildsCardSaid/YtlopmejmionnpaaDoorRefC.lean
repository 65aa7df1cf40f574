/- The walks of the package deadlatchref04: registers, names, what asks memory. -/
import Derived.Test.YtlopmejmionnpaaDoorRefB
set_option linter.unusedVariables false
namespace Go.Proofs.YtlopmejmionnpaaDoor.As
open Go.RowKit

theorem ext_take (s : ByteArray) (i : Nat) : (.string (s.extract 0 i) : Value) = str (s.data.toList.take i) := by
  unfold str
  have h := Lib.extract_data s 0 i
  rw [List.drop_zero, Nat.sub_zero] at h
  rw [← h]
theorem ext_drop (s : ByteArray) (i : Nat) : (.string (s.extract i s.size) : Value) = str (s.data.toList.drop i) := by
  unfold str
  rw [← List.take_of_length_le (show (s.data.toList.drop i).length ≤ s.size - i from by rw [List.length_drop, toList_len]; omega), ← Lib.extract_data]
theorem ext_mid (s : ByteArray) (i j : Nat) : (.string (s.extract i j) : Value) = str ((s.data.toList.drop i).take (j - i)) := by
  unfold str
  rw [← Lib.extract_data]
theorem str_of (s : ByteArray) : (.string s : Value) = str s.data.toList := rfl
theorem byte_ne {c d : UInt8} (h : ¬ c = d) : ((c.toNat : Int) == (d.toNat : Int)) = false := by
  rw [beq_eq_false_iff_ne]; intro e; exact h (UInt8.toNat_inj.1 (by omega))
theorem below_drewN {B : Nat} {w W : World} (n : Nat) (h : Below B w W) : Below B w (W.drewN n) := h.trans ⟨rfl, rfl, rfl, Nat.le_refl _, fun _ _ => rfl⟩

theorem register_any (w : World) (s : ByteArray) (hm : s.size ≤ 1000000) :
    Calls Tryd.prog 53 #[.string s] w fun e w' => e = .returned (.int .i64 (regB s.data.toList)) ∧ w' = w := by
  have hlen := toList_len s
  by_cases h2 : s.size = 2
  · obtain ⟨a, b, hab⟩ : ∃ a b, s.data.toList = [a, b] := by
      match hs : s.data.toList, hlen with
      | [], h => simp at h; omega
      | [_], h => simp at h; omega
      | [a, b], _ => exact ⟨a, b, rfl⟩
      | _ :: _ :: _ :: _, h => simp at h; omega
    have d0 : ((s.size : Int) == 2) = true := by rw [h2]; rfl
    obtain ⟨i0, e0⟩ := at_byte (s := s) (i := 0) (c := a) (by rw [hab]; rfl)
    obtain ⟨i1, e1⟩ := at_byte (s := s) (i := 1) (c := b) (by rw [hab]; rfl)
    rw [hab]
    have ev : regB [a, b] = if a = 114 ∧ 48 ≤ b.toNat ∧ b.toNat ≤ 55 then (b.toNat : Int) - 48 else -1 := rfl
    have EV := Lib.hid ev
    clear ev hab
    generalize regB [a, b] = r at EV ⊢
    by_cases ha : a = 114
    · have d1 : ((a.toNat : Int) == 114) = true := by rw [ha]; rfl
      by_cases q1 : 48 ≤ b.toNat
      · by_cases q2 : b.toNat ≤ 55
        · go_enter Tryd.func53, Tryd.ntmps53
          go_wp2
          go_ret
          exact ⟨by rw [EV.out, if_pos ⟨ha, q1, q2⟩] <;> rfl, rfl⟩
        · go_enter Tryd.func53, Tryd.ntmps53
          go_wp2
          go_ret
          exact ⟨by rw [EV.out, if_neg (fun h => q2 h.2.2)] <;> rfl, rfl⟩
      · go_enter Tryd.func53, Tryd.ntmps53
        go_wp2
        go_ret
        exact ⟨by rw [EV.out, if_neg (fun h => q1 h.2.1)] <;> rfl, rfl⟩
    · have d1 : ((a.toNat : Int) == 114) = false := by
        rw [beq_eq_false_iff_ne]; intro h; exact ha (UInt8.toNat_inj.1 (by have : (114 : UInt8).toNat = 114 := rfl; omega))
      go_enter Tryd.func53, Tryd.ntmps53
      go_wp2
      go_ret
      exact ⟨by rw [EV.out, if_neg (fun h => ha h.1)] <;> rfl, rfl⟩
  · have d0 : ((s.size : Int) == 2) = false := by rw [beq_eq_false_iff_ne]; omega
    have e : regB s.data.toList = -1 := by
      match hs : s.data.toList, hlen with
      | [], h => rfl
      | [_], h => rfl
      | [a, b], h => simp at h; omega
      | _ :: _ :: _ :: _, h => rfl
    rw [e]
    go_enter Tryd.func53, Tryd.ntmps53
    go_wp2
    go_ret
    exact ⟨rfl, rfl⟩

theorem ifMem_any (w : World) (s : ByteArray) (hm : s.size ≤ 1000000) :
    Calls Tryd.prog 52 #[.string s] w fun e w' => e = .returned (.int .i64 (ifMemB s.data.toList)) ∧ w' = w := by
  have hlen := toList_len s
  obtain ⟨r, hr⟩ : ∃ r, r = ifMemB s.data.toList := ⟨_, rfl⟩
  rw [← hr]
  have HR := Lib.hid hr
  clear hr
  go_enter Tryd.func52, Tryd.ntmps52
  go_wp2
  go_loopw [3] (fun iv wr => ∃ (i : Nat), wr = w ∧ i ≤ s.size ∧ iv = .int .i64 i ∧ Hid (∀ c ∈ s.data.toList.take i, c ≠ 77)) (fun i _ => s.size - (intOf i).toNat)
  case atStart => exact ⟨0, rfl, by omega, rfl, fun c hc => by simp at hc⟩
  case round =>
    obtain ⟨i, rfl, hil, rfl, HD⟩ := hrel
    by_cases hlt : i < s.size
    · obtain ⟨c, hc⟩ : ∃ c, s.data.toList[i]? = some c := ⟨_, List.getElem?_eq_getElem (by omega)⟩
      obtain ⟨hi, hcc⟩ := at_byte hc
      have HC := Lib.hid hc
      clear hc
      by_cases hd : c = 77
      · have d0 : ((c.toNat : Int) == 77) = true := by rw [hd]; rfl
        have hall : ifMemB s.data.toList = 1 := by
          unfold ifMemB
          rw [if_pos]
          rw [List.contains_iff_mem]
          rw [← hd]; exact List.mem_of_getElem? HC.out
        have HV := Lib.hid hall
        clear hall
        go_wp2
        go_ret
        exact ⟨by rw [HR.out, HV.out] <;> rfl, rfl⟩
      · have d0 : ((c.toNat : Int) == 77) = false := by
          rw [beq_eq_false_iff_ne]; intro h; exact hd (UInt8.toNat_inj.1 (by have : (77 : UInt8).toNat = 77 := rfl; omega))
        go_wp2
        have ht := take_succ_at HC.out
        refine ⟨⟨i + 1, True.intro, by omega, by simp, ?_⟩, by simp [intOf]; omega⟩
        rw [ht]
        intro x hx
        rcases List.mem_append.1 hx with hx | hx
        · exact HD.out x hx
        · have : x = c := by simpa using hx
          rw [this]; exact hd
    · have hta : s.data.toList.take i = s.data.toList := List.take_of_length_le (by omega)
      have hall : ifMemB s.data.toList = 0 := by
        unfold ifMemB
        rw [if_neg]
        rw [List.contains_iff_mem]
        intro h
        exact HD.out 77 (by rw [hta]; exact h) rfl
      have HV := Lib.hid hall
      clear hall
      go_wp2
      go_ret
      exact ⟨by rw [HR.out, HV.out] <;> rfl, rfl⟩

end Go.Proofs.YtlopmejmionnpaaDoor.As
