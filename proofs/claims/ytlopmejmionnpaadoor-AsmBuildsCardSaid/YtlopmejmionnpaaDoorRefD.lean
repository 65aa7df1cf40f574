/- The walks of the package deadlatchref04: names of places. -/
import Derived.Test.YtlopmejmionnpaaDoorRefB
set_option linter.unusedVariables false
namespace Go.Proofs.YtlopmejmionnpaaDoor.As
open Go.RowKit

set_option maxHeartbeats 800000 in
theorem rname_any (w : World) (s : ByteArray) (hm : s.size ≤ 1000000) :
    Calls Tryd.prog 15 #[.string s] w fun e w' => e = .returned (.bool (nameOk s.data.toList)) ∧ w' = w := by
  have hlen := toList_len s
  obtain ⟨r, hr⟩ : ∃ r, r = nameOk s.data.toList := ⟨_, rfl⟩
  rw [← hr]
  have HR := Lib.hid hr
  clear hr
  go_enter Tryd.func15, Tryd.ntmps15
  go_wp2
  go_loopw [3] (fun iv wr => ∃ (i : Nat), wr = w ∧ i ≤ s.size ∧ iv = .int .i64 i ∧ Hid (∀ j, j < i → okAt s.data.toList j)) (fun i _ => s.size - (intOf i).toNat)
  case atStart => exact ⟨0, rfl, by omega, rfl, fun c hc => absurd hc (by omega)⟩
  case round =>
    obtain ⟨i, rfl, hil, rfl, HOK⟩ := hrel
    by_cases hlt : i < s.size
    · obtain ⟨c, hc⟩ : ∃ c, s.data.toList[i]? = some c := ⟨_, List.getElem?_eq_getElem (by omega)⟩
      obtain ⟨hi, hcc⟩ := at_byte hc
      have HC := Lib.hid hc
      clear hc
      have step : isLet c = true ∨ (0 < i ∧ isDig c = true) → ∀ j, j < i + 1 → okAt s.data.toList j := by
        intro h j hj
        by_cases e : j = i
        · subst e
          intro x hx
          rw [HC.out] at hx
          injection hx with hx
          subst hx
          exact h
        · exact HOK.out j (by omega)
      have STEP := Lib.hid step
      clear step
      by_cases hle : 97 ≤ c.toNat ∧ c.toNat ≤ 122
      · have hq := Lib.hid ((let_iff c).2 hle)
        obtain ⟨q1, q2⟩ := hle
        go_wp2
        exact ⟨⟨i + 1, True.intro, by omega, by simp, STEP.out (.inl hq.out)⟩, by simp [intOf]; omega⟩
      · have hq := Lib.hid (let_no c hle)
        have hsp : c.toNat < 97 ∨ (97 ≤ c.toNat ∧ 122 < c.toNat) := by omega
        clear hle
        by_cases hdg : (48 ≤ c.toNat ∧ c.toNat ≤ 57)
        · have hq2 := Lib.hid ((dig_iff c).2 hdg)
          obtain ⟨q1, q2⟩ := hdg
          have q3 : c.toNat < 97 := by omega
          clear hsp
          by_cases h00 : i = 0
          · have hbad := Lib.hid (nameOk_bad _ _ _ HC.out hq.out (.inl h00))
            have d0 : ((i : Int) == 0) = true := by rw [h00]; rfl
            clear h00
            go_wp2
            go_ret
            exact ⟨by rw [HR.out, hbad.out] <;> rfl, rfl⟩
          · have d0 : ((i : Int) == 0) = false := by rw [beq_eq_false_iff_ne]; omega
            go_wp2
            exact ⟨⟨i + 1, True.intro, by omega, by simp, STEP.out (.inr ⟨by omega, hq2.out⟩)⟩, by simp [intOf]; omega⟩
        · have hbad := Lib.hid (nameOk_bad _ _ _ HC.out hq.out (.inr (dig_no _ hdg)))
          have hsp2 : c.toNat < 48 ∨ (48 ≤ c.toNat ∧ 57 < c.toNat) := by omega
          clear hdg
          rcases hsp with q1 | ⟨q1, q2⟩
          · rcases hsp2 with q3 | ⟨q3, q4⟩
            · go_wp2
              go_ret
              exact ⟨by rw [HR.out, hbad.out] <;> rfl, rfl⟩
            · go_wp2
              go_ret
              exact ⟨by rw [HR.out, hbad.out] <;> rfl, rfl⟩
          · have q3 : 48 ≤ c.toNat := by omega
            have q4 : 57 < c.toNat := by omega
            have d1 : decide ((c.toNat : Int) ≤ 122) = false := by simp; omega
            clear hsp2
            go_wp2
            go_ret
            exact ⟨by rw [HR.out, hbad.out] <;> rfl, rfl⟩
    · have hie : i = s.size := by omega
      by_cases h0 : s.size = 0
      · have hv : nameOk s.data.toList = false := by rw [nm_nil s h0]; rfl
        have HV := Lib.hid hv
        clear hv
        go_wp2
        go_ret
        exact ⟨by rw [HR.out, HV.out] <;> rfl, rfl⟩
      · by_cases h20 : s.size ≤ 20
        · have d1 : decide ((s.size : Int) ≤ 20) = true := by simp; omega
          have hv : nameOk s.data.toList = true := nameOk_yes s.data.toList (by intro e; rw [e] at hlen; simp at hlen; omega) (by omega) (fun j => by
            by_cases hj : j < i
            · exact HOK.out j hj
            · intro c hc
              have := (List.getElem?_eq_some_iff.1 hc).1
              omega)
          have HV := Lib.hid hv
          clear hv
          go_wp2
          go_ret
          exact ⟨by rw [HR.out, HV.out] <;> rfl, rfl⟩
        · have d1 : decide ((s.size : Int) ≤ 20) = false := by simp; omega
          have hv : nameOk s.data.toList = false := nameOk_long _ (by omega)
          have HV := Lib.hid hv
          clear hv
          go_wp2
          go_ret
          exact ⟨by rw [HR.out, HV.out] <;> rfl, rfl⟩
end Go.Proofs.YtlopmejmionnpaaDoor.As
