/- The walks of the package deadlatchref04: numbers, registers, names. -/
import Derived.Test.YtlopmejmionnpaaDoorRefA
set_option linter.unusedVariables false
namespace Go.Proofs.YtlopmejmionnpaaDoor.As
open Go.RowKit

theorem at_byte {s : ByteArray} {i : Nat} {c : UInt8} (h : s.data.toList[i]? = some c) : ∃ hi : i < s.size, s[i]'hi = c := by
  have hl : i < s.data.toList.length := (List.getElem?_eq_some_iff.1 h).1
  refine ⟨by simpa using hl, ?_⟩
  exact (List.getElem?_eq_some_iff.1 h).2
theorem toList_len (s : ByteArray) : s.data.toList.length = s.size := Array.length_toList
theorem valB_snoc (l : B8) (c : UInt8) : valB (l ++ [c]) = 10 * valB l + (c.toNat - 48) := by simp [valB]
theorem valB_lt_go (l : B8) (h : ∀ c ∈ l, isDig c = true) : ∀ n m, n < 10 ^ m → l.foldl (fun n c => 10 * n + (c.toNat - 48)) n < 10 ^ (m + l.length) := by
  induction l with
  | nil => intro n m hn; simpa using hn
  | cons c l ih =>
    intro n m hn
    have h2 := (dig_iff c).1 (h c (by simp))
    have := ih (fun x hx => h x (by simp [hx])) (10 * n + (c.toNat - 48)) (m + 1) (by rw [Nat.pow_succ]; omega)
    rw [List.foldl_cons, List.length_cons, show m + (l.length + 1) = m + 1 + l.length from by omega]
    exact this
theorem valB_lt (l : B8) (h : ∀ c ∈ l, isDig c = true) : valB l < 10 ^ l.length := by
  have := valB_lt_go l h 0 0 (by simp)
  simpa [valB] using this
theorem take_succ_at {l : B8} {i : Nat} {c : UInt8} (h : l[i]? = some c) : l.take (i + 1) = l.take i ++ [c] := by
  have := take_next l 0 i c h (Nat.zero_le _)
  simpa using this
theorem pow_le10 (n : Nat) (h : n ≤ 10) : 10 ^ n ≤ 10000000000 := Nat.pow_le_pow_right (by omega) h

set_option maxHeartbeats 800000 in
theorem number_any (w : World) (s : ByteArray) (hm : s.size ≤ 1000000) :
    Calls Tryd.prog 55 #[.string s] w fun e w' => e = .returned (.int .i64 (numB s.data.toList)) ∧ w' = w := by
  have hlen := toList_len s
  obtain ⟨r, hr⟩ : ∃ r, r = numB s.data.toList := ⟨_, rfl⟩
  rw [← hr]
  have HR := Lib.hid hr
  clear hr
  by_cases h0 : s.size = 0
  · have e : r = -1 := by rw [HR.out]; unfold numB; rw [if_pos (.inl (by omega))]
    have d0 : ((s.size : Int) == 0) = true := by rw [h0]; rfl
    have E := Lib.hid e
    clear e h0
    go_enter Tryd.func55, Tryd.ntmps55
    go_wp2
    go_ret
    exact ⟨by rw [E.out] <;> rfl, rfl⟩
  · have d0 : ((s.size : Int) == 0) = false := by rw [beq_eq_false_iff_ne]; omega
    by_cases h10 : 10 < s.size
    · have e : r = -1 := by rw [HR.out]; unfold numB; rw [if_pos (.inr (.inl (by omega)))]
      have E := Lib.hid e
      clear e
      go_enter Tryd.func55, Tryd.ntmps55
      go_wp2
      go_ret
      exact ⟨by rw [E.out] <;> rfl, rfl⟩
    · by_cases hz : 1 < s.size ∧ s.data.toList[0]? = some 48
      · have e : r = -1 := by rw [HR.out]; unfold numB; rw [if_pos (.inr (.inr ⟨by omega, hz.2⟩))]
        obtain ⟨h1, hz⟩ := hz
        obtain ⟨hi, hz'⟩ := at_byte hz
        have E := Lib.hid e
        clear e hz
        go_enter Tryd.func55, Tryd.ntmps55
        go_wp2
        go_ret
        exact ⟨by rw [E.out] <;> rfl, rfl⟩
      · have e : r = if s.data.toList.all isDig then (if 4294967295 < valB s.data.toList then -1 else (valB s.data.toList : Int)) else -1 := by
          rw [HR.out]; unfold numB; rw [if_neg (by intro h; rcases h with h | h | h; omega; omega; exact hz ⟨by omega, h.2⟩)]
        have E := Lib.hid e
        clear e HR
        have hcase : (∃ hg : 1 < s.size, (((s[0]'(by omega)).toNat : Int) == 48) = false) ∨ s.size ≤ 1 := by
          by_cases hg : 1 < s.size
          · refine .inl ⟨hg, ?_⟩
            rw [beq_eq_false_iff_ne]
            intro h
            apply hz
            refine ⟨hg, ?_⟩
            rw [byte_at s 0 (by omega)]
            congr 1
            apply UInt8.toNat_inj.1
            have : (48 : UInt8).toNat = 48 := rfl
            omega
          · exact .inr (by omega)
        clear hz
        rcases hcase with ⟨hg, hn48⟩ | hg
        all_goals
          go_enter Tryd.func55, Tryd.ntmps55
          go_wp2
          go_loopw [3, 4] (fun nv iv wr => ∃ (i : Nat), wr = w ∧ i ≤ s.size ∧ iv = .int .i64 i ∧ nv = .int .i64 (valB (s.data.toList.take i)) ∧ Hid (∀ c ∈ s.data.toList.take i, isDig c = true)) (fun _ i _ => s.size - (intOf i).toNat)
          case atStart => exact ⟨0, rfl, by omega, rfl, rfl, fun c hc => by simp at hc⟩
          case round =>
            obtain ⟨i, rfl, hil, rfl, rfl, HD⟩ := hrel
            by_cases hlt : i < s.size
            · obtain ⟨c, hc⟩ : ∃ c, s.data.toList[i]? = some c := ⟨_, List.getElem?_eq_getElem (by omega)⟩
              obtain ⟨hi, hcc⟩ := at_byte hc
              have hv := valB_lt _ HD.out
              rw [List.length_take] at hv
              have hv2 := pow_le10 (min i s.data.toList.length) (by omega)
              have hvv : valB (s.data.toList.take i) < 10000000000 := by omega
              have HC := Lib.hid hc
              clear hc hv hv2
              by_cases hd : isDig c = true
              · obtain ⟨q1, q2⟩ := (dig_iff c).1 hd
                have HDD := Lib.hid hd
                clear hd
                generalize hV : valB (s.data.toList.take i) = V at hvv ⊢
                have HV := Lib.hid hV
                clear hV
                go_wp2
                have ht := take_succ_at HC.out
                refine ⟨⟨i + 1, True.intro, by omega, by simp, ?_, ?_⟩, by simp [intOf]; omega⟩
                · rw [ht, valB_snoc, HV.out]
                  congr 1
                  omega
                · rw [ht]
                  intro x hx
                  rcases List.mem_append.1 hx with hx | hx
                  · exact HD.out x hx
                  · have : x = c := by simpa using hx
                    rw [this]; exact HDD.out
              · have hd' : isDig c = false := by simpa using hd
                have hno : ¬ (48 ≤ c.toNat ∧ c.toNat ≤ 57) := fun h => hd ((dig_iff c).2 h)
                have hall : s.data.toList.all isDig = false := by
                  rw [List.all_eq_false]; exact ⟨c, List.mem_of_getElem? HC.out, by simp [hd']⟩
                have HA := Lib.hid hall
                clear hd hd' hall
                by_cases q1 : c.toNat < 48
                · go_wp2
                  go_ret
                  exact ⟨by rw [E.out, HA.out] <;> rfl, rfl⟩
                · have q2 : 57 < c.toNat := by omega
                  go_wp2
                  go_ret
                  exact ⟨by rw [E.out, HA.out] <;> rfl, rfl⟩
            · have hie : i = s.size := by omega
              have hta : s.data.toList.take i = s.data.toList := List.take_of_length_le (by omega)
              have hall : s.data.toList.all isDig = true := by
                rw [List.all_eq_true]; intro c hc; exact HD.out c (by rw [hta]; exact hc)
              rw [hta]
              have hv := E.out
              rw [hall] at hv
              simp only [if_true] at hv
              have hv2 := valB_lt s.data.toList (by rw [← hta]; exact HD.out)
              have hv3 := pow_le10 s.data.toList.length (by omega)
              have hvv : valB s.data.toList < 10000000000 := by omega
              clear hv2 hv3 hta hall HD E
              generalize valB s.data.toList = V at hv hvv ⊢
              have HV := Lib.hid hv
              clear hv
              by_cases hb : 4294967295 < V
              · go_wp2
                go_ret
                exact ⟨by rw [HV.out, if_pos hb] <;> rfl, rfl⟩
              · go_wp2
                go_ret
                exact ⟨by rw [HV.out, if_neg hb] <;> rfl, rfl⟩
end Go.Proofs.YtlopmejmionnpaaDoor.As
