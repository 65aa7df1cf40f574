/- The walks of the package deadlatchref04: addresses. -/
import Derived.Test.YtlopmejmionnpaaDoorRefC
import Derived.BigQuiet
import Derived.Deep.QuietTactic
set_option linter.unusedVariables false
namespace Go.Proofs.YtlopmejmionnpaaDoor.As
open Go.RowKit

theorem idx_at (l : B8) (b : UInt8) (i : Nat) (h : l[i]? = some b) (hn : ∀ c ∈ l.take i, c ≠ b) : l.contains b = true ∧ l.idxOf b = i := by
  refine ⟨List.contains_iff_mem.2 (List.mem_of_getElem? h), ?_⟩
  induction l generalizing i with
  | nil => simp at h
  | cons y l ih =>
    cases i with
    | zero =>
      have : y = b := by simpa using h
      rw [this]; simp
    | succ i =>
      have h0 : y ≠ b := hn y (by simp)
      have := ih i (by simpa using h) (fun j hj => hn j (by simp [hj]))
      have hb : (y == b) = false := beq_eq_false_iff_ne.2 h0
      simp [List.idxOf_cons, hb, this]
theorem not_there (l : B8) (b : UInt8) (hn : ∀ c ∈ l, c ≠ b) : l.contains b = false := by
  cases e : l.contains b with
  | false => rfl
  | true => exact absurd rfl (hn b (List.contains_iff_mem.1 e))
set_option maxHeartbeats 800000 in
theorem address_any (w : World) (s : ByteArray) (hm : s.size ≤ 1000000) :
    Calls Tryd.prog 54 #[.string s] w fun e w' => e = .returned (.tuple #[.int .i64 (addrB s.data.toList).1, .int .i64 (addrB s.data.toList).2]) ∧ Below w.heap.size w w' := by
  have hlen := toList_len s
  by_cases h3 : s.size < 3
  · have e : addrB s.data.toList = (-1, -1) := by unfold addrB; rw [if_pos (.inl (by omega))]
    rw [e]
    clear e
    go_enter Tryd.func54, Tryd.ntmps54
    go_wp2_with fail
    go_ret2
    exact ⟨rfl, Below.refl _ _⟩
  · obtain ⟨a, ha⟩ : ∃ c, s.data.toList[0]? = some c := ⟨_, List.getElem?_eq_getElem (by omega)⟩
    obtain ⟨z, hz⟩ : ∃ c, s.data.toList[s.size - 1]? = some c := ⟨_, List.getElem?_eq_getElem (by omega)⟩
    obtain ⟨i0, e0⟩ := at_byte ha
    obtain ⟨i1, e1⟩ := at_byte hz
    by_cases q0 : a = 91
    · by_cases q1 : z = 93
      · obtain ⟨t, ht⟩ : ∃ t, t = s.extract 1 (s.size - 1) := ⟨_, rfl⟩
        have htl : t.data.toList = (s.data.toList.drop 1).take (s.size - 2) := by
          rw [ht, Lib.extract_data]
          congr 1
        have htn := toList_len t
        have hts : t.size ≤ 1000000 := by
          rw [← htn, htl, List.length_take]; omega
        have e : addrB s.data.toList = if t.data.toList.contains 43 then
              if regB (t.data.toList.take (t.data.toList.idxOf 43)) < 0 then (-1, -1) else (regB (t.data.toList.take (t.data.toList.idxOf 43)), numB (t.data.toList.drop (t.data.toList.idxOf 43 + 1)))
            else (8, numB t.data.toList) := by
          unfold addrB
          rw [if_neg (by rw [hlen, ha, hz]; simp [q0, q1]; omega), htl, hlen]
        have d0 : ((a.toNat : Int) != 91) = false := by rw [q0]; rfl
        have d1 : ((z.toNat : Int) != 93) = false := by rw [q1]; rfl
        generalize addrB s.data.toList = r at e ⊢
        have E := Lib.hid e
        clear e ha hz q0 q1 htl
        go_enter Tryd.func54, Tryd.ntmps54
        go_wp2_with fail
        rw [← ht]
        clear ht
        go_loopw [4] (fun iv wr => ∃ (i : Nat), wr = w ∧ i ≤ t.size ∧ iv = .int .i64 i ∧ Hid (∀ c ∈ t.data.toList.take i, c ≠ 43)) (fun i _ => t.size - (intOf i).toNat)
        case atStart => exact ⟨0, rfl, by omega, rfl, fun c hc => by simp at hc⟩
        case round =>
          obtain ⟨i, rfl, hil, rfl, HD⟩ := hrel
          by_cases hlt : i < t.size
          · obtain ⟨c, hc⟩ : ∃ c, t.data.toList[i]? = some c := ⟨_, List.getElem?_eq_getElem (by omega)⟩
            obtain ⟨hi, hcc⟩ := at_byte hc
            have HC := Lib.hid hc
            clear hc
            by_cases hd : c = 43
            · have d2 : ((c.toNat : Int) == 43) = true := by rw [hd]; rfl
              have hx := idx_at t.data.toList 43 i (by rw [HC.out, hd]) HD.out
              have HX := Lib.hid hx
              clear hx
              have hq1 : (t.extract 0 i).size ≤ 1000000 := by rw [← toList_len, Lib.extract_data, List.length_take, List.length_drop]; omega
              have hq2 : (t.extract (i + 1) t.size).size ≤ 1000000 := by rw [← toList_len, Lib.extract_data, List.length_take, List.length_drop]; omega
              have hw : IntKind.i64.wrap ((i : Int) + 1) = (i : Int) + 1 := by rw [IntKind.wrap_i64]; omega
              have hb1 : (0 : Int) ≤ (i : Int) + 1 := by omega
              have hb2 : (i : Int) + 1 ≤ (t.size : Int) := by omega
              have hb3 : ((i : Int) + 1).toNat = i + 1 := by omega
              go_wp2_with fail
              go_quiet (first | (go_at_call 53; exact Calls.quiet_of_same (register_any _ _ hq1)) | (go_at_call 55; exact Calls.quiet_of_same (number_any _ _ hq2)))
              have ex1 : (t.extract 0 i).data.toList = t.data.toList.take i := by rw [Lib.extract_data, List.drop_zero, Nat.sub_zero]
              have ex2 : (t.extract (i + 1) t.size).data.toList = t.data.toList.drop (i + 1) := by
                rw [Lib.extract_data]; exact List.take_of_length_le (by rw [List.length_drop]; omega)
              rw [ex1, ex2]
              have hE := E.out
              rw [HX.out.1, HX.out.2] at hE
              clear ex1 ex2 hb1 hb2 hb3 hw hq1 hq2
              generalize regB (t.data.toList.take i) = rb at hE ⊢
              generalize numB (t.data.toList.drop (i + 1)) = nb at hE ⊢
              have HE := Lib.hid hE
              clear hE
              by_cases hrb : rb < 0
              · go_wp2_with fail
                go_ret2
                refine ⟨?_, below_drewN nq (Below.refl _ _)⟩
                rw [HE.out, if_pos True.intro, if_pos hrb]
                rfl
              · go_wp2_with fail
                go_ret2
                refine ⟨?_, below_drewN nq (Below.refl _ _)⟩
                rw [HE.out, if_pos True.intro, if_neg (by omega)]
                rfl
            · have d2 : ((c.toNat : Int) == 43) = false := byte_ne hd
              go_wp2_with fail
              have ht := take_succ_at HC.out
              refine ⟨⟨i + 1, True.intro, by omega, by simp, ?_⟩, by simp [intOf]; omega⟩
              rw [ht]
              intro x hx
              rcases List.mem_append.1 hx with hx | hx
              · exact HD.out x hx
              · have : x = c := by simpa using hx
                rw [this]; exact hd
          · have hta : t.data.toList.take i = t.data.toList := List.take_of_length_le (by omega)
            have hx := not_there t.data.toList 43 (by rw [← hta]; exact HD.out)
            have HX := Lib.hid hx
            clear hx hta
            go_wp2_with fail
            refine (number_any _ _ hts).mono ?_; rintro e w' ⟨rfl, rfl⟩
            go_wp2_with fail
            go_ret2
            refine ⟨?_, Below.refl _ _⟩
            rw [E.out, HX.out]
            rfl
      · have e : addrB s.data.toList = (-1, -1) := by unfold addrB; rw [if_pos (.inr (.inr (by rw [hlen, hz]; simp [q1])))]
        rw [e]
        have d0 : ((a.toNat : Int) != 91) = false := by rw [q0]; rfl
        have d1 : ((z.toNat : Int) != 93) = true := by have := byte_ne q1; exact (congrArg not this : _)
        clear e ha hz q0 q1
        go_enter Tryd.func54, Tryd.ntmps54
        go_wp2_with fail
        go_ret2
        exact ⟨rfl, Below.refl _ _⟩
    · have e : addrB s.data.toList = (-1, -1) := by unfold addrB; rw [if_pos (.inr (.inl (by rw [ha]; simp [q0])))]
      rw [e]
      have d0 : ((a.toNat : Int) != 91) = true := by have := byte_ne q0; exact (congrArg not this : _)
      clear e ha hz q0
      go_enter Tryd.func54, Tryd.ntmps54
      go_wp2_with fail
      go_ret2
      exact ⟨rfl, Below.refl _ _⟩
end Go.Proofs.YtlopmejmionnpaaDoor.As
