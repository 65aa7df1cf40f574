/- The walks of the package asm: a place's name; what a builder gathers. -/
import Derived.Test.YtlopmejmionnpaaDoorAsmMem
set_option linter.unusedVariables false
namespace Go.Proofs.YtlopmejmionnpaaDoor.As
open Go.RowKit

/-! ### A place's name -/
def okAt (l : B8) (i : Nat) : Prop := ∀ c, l[i]? = some c → isLet c = true ∨ (0 < i ∧ isDig c = true)
theorem nameOk_yes (l : B8) (h0 : l ≠ []) (h1 : l.length ≤ 20) (h2 : ∀ i, okAt l i) : nameOk l = true := by
  cases l with
  | nil => exact absurd rfl h0
  | cons c r =>
    have e0 : isLet c = true := by
      rcases h2 0 c rfl with e | e
      · exact e
      · exact absurd e.1 (by omega)
    have e1 : r.all (fun x => isLet x || isDig x) = true := by
      rw [List.all_eq_true]
      intro x hx
      obtain ⟨i, hi⟩ := List.getElem?_of_mem hx
      rcases h2 (i + 1) x (by simpa using hi) with e | e
      · simp [e]
      · simp [e.2]
    have e2 : decide (r.length < 20) = true := by simp at h1 ⊢; omega
    simp only [nameOk, e0, e1, e2, Bool.and_self]
theorem nameOk_long (l : B8) (h : 20 < l.length) : nameOk l = false := by
  cases l with
  | nil => rfl
  | cons c r =>
    have : decide (r.length < 20) = false := by simp at h ⊢; omega
    simp [nameOk, this]
theorem nameOk_bad (l : B8) (i : Nat) (c : UInt8) (h : l[i]? = some c) (h1 : isLet c = false) (h2 : i = 0 ∨ isDig c = false) : nameOk l = false := by
  cases l with
  | nil => rfl
  | cons d r =>
    cases i with
    | zero =>
      have : d = c := by simpa using h
      simp [nameOk, this, h1]
    | succ i =>
      have h' : r[i]? = some c := by simpa using h
      have hd : isDig c = false := by rcases h2 with e | e; omega; exact e
      have : r.all (fun x => isLet x || isDig x) = false := by
        rw [List.all_eq_false]
        exact ⟨c, List.mem_of_getElem? h', by simp [h1, hd]⟩
      simp [nameOk, this]
theorem byte_at (s : ByteArray) (i : Nat) (h : i < s.size) : s.data.toList[i]? = some (s[i]'h) := by
  rw [Array.getElem?_toList]
  exact Array.getElem?_eq_getElem h
theorem nm_nil (s : ByteArray) (h : s.size = 0) : s.data.toList = [] := List.eq_nil_of_length_eq_zero (by simpa using h)

theorem name_empty (w : World) (s : ByteArray) (h : s.size = 0) :
    Calls Tryd.prog 14 #[.string s] w fun e w' => e = .returned (.bool (nameOk s.data.toList)) ∧ Below w.heap.size w w' := by
  have h0 : s.toList.isEmpty = true := by rw [ByteArray.toList_eq, nm_nil s h]; rfl
  have h1 : s.data.toList = [] := nm_nil s h
  rw [h1]
  go_enter Tryd.func14, Tryd.ntmps14
  go_wp2
  go_ret
  exact ⟨rfl, Below.refl _ _⟩
theorem name_long (w : World) (s : ByteArray) (h : 20 < s.size) (hm : s.size ≤ maxLen) :
    Calls Tryd.prog 14 #[.string s] w fun e w' => e = .returned (.bool (nameOk s.data.toList)) ∧ Below w.heap.size w w' := by
  have hl : s.data.toList.length = s.size := by simp
  rw [nameOk_long _ (by rw [hl]; exact h)]
  have h0 : s.toList.isEmpty = false := by
    rw [ByteArray.toList_eq, List.isEmpty_eq_false_iff]; intro e; rw [e] at hl; simp at hl; omega
  clear hl
  go_enter Tryd.func14, Tryd.ntmps14
  go_wp2
  go_ret
  exact ⟨rfl, Below.refl _ _⟩
theorem let_iff (c : UInt8) : isLet c = true ↔ 97 ≤ c.toNat ∧ c.toNat ≤ 122 := by simp [isLet, UInt8.le_iff_toNat_le]
theorem dig_iff (c : UInt8) : isDig c = true ↔ 48 ≤ c.toNat ∧ c.toNat ≤ 57 := by simp [isDig, UInt8.le_iff_toNat_le]
theorem let_no (c : UInt8) (h : ¬ (97 ≤ c.toNat ∧ c.toNat ≤ 122)) : isLet c = false := by
  cases e : isLet c with
  | false => rfl
  | true => exact absurd ((let_iff c).1 e) h
theorem dig_no (c : UInt8) (h : ¬ (48 ≤ c.toNat ∧ c.toNat ≤ 57)) : isDig c = false := by
  cases e : isDig c with
  | false => rfl
  | true => exact absurd ((dig_iff c).1 e) h
set_option maxHeartbeats 800000 in
theorem name_some (w : World) (s : ByteArray) (h0 : 0 < s.size) (h20 : s.size ≤ 20) :
    Calls Tryd.prog 14 #[.string s] w fun e w' => e = .returned (.bool (nameOk s.data.toList)) ∧ Below w.heap.size w w' := by
  obtain ⟨r, hr⟩ : ∃ r, r = nameOk s.data.toList := ⟨_, rfl⟩
  rw [← hr]
  have HR := Lib.hid hr
  clear hr
  have hl : s.data.toList.length = s.size := by simp
  have hne : s.data.toList ≠ [] := by intro e; rw [e] at hl; simp at hl; omega
  have HNE := Lib.hid hne
  have HL := Lib.hid hl
  have hem : s.toList.isEmpty = false := by rw [ByteArray.toList_eq, List.isEmpty_eq_false_iff]; exact hne
  clear hl
  go_enter Tryd.func14, Tryd.ntmps14
  go_wp2
  go_loopw [] (fun wr => ∃ pos : Nat, wr = w.iter s pos ∧ pos ≤ s.size ∧ Hid (∀ i, i < pos → okAt s.data.toList i)) (fun wr => s.size - wr.iterPos w.heap.size)
  case atStart => exact ⟨0, rfl, by omega, fun i hi => absurd hi (by omega)⟩
  case round =>
    obtain ⟨pos, rfl, hp, HOK⟩ := hrel
    by_cases hlt : pos < s.size
    · have hb := byte_at s pos hlt
      have HB := Lib.hid hb
      clear hb
      by_cases ha : (s[pos]'hlt).toNat < 128
      · have hnx : ∀ ty, (Instr.next (.pointer (some ⟨w.heap.size, 0, none⟩)) true ty).run Tryd.prog (w.iter s pos) = _ := fun ty => run_next_ascii w s pos ty hlt ha
        obtain ⟨c, hc⟩ : ∃ c, c = s[pos]'hlt := ⟨_, rfl⟩
        rw [← hc] at ha
        simp only [← hc] at hnx
        have HC := Lib.hid hc
        clear hc
        have HB2 : Hid (s.data.toList[pos]? = some c) := by rw [HC.out]; exact HB.out
        by_cases hle : 97 ≤ c.toNat ∧ c.toNat ≤ 122
        · have hq := Lib.hid ((let_iff c).2 hle)
          obtain ⟨q1, q2⟩ := hle
          go_wp2
          refine ⟨⟨pos + 1, rfl, by omega, ?_⟩, by simp; omega⟩
          intro i hi
          by_cases e : i = pos
          · subst e
            intro x hx
            rw [HB2.out] at hx
            injection hx with hx
            subst hx
            exact .inl hq.out
          · exact HOK.out i (by omega)
        · have hq := Lib.hid (let_no c hle)
          by_cases h00 : pos = 0
          · have hbad := Lib.hid (nameOk_bad _ _ _ HB2.out hq.out (.inl h00))
            have d0 : ((pos : Int) == 0) = true := by rw [h00]; rfl
            clear h00
            by_cases q1 : c.toNat < 97
            · go_wp2
              go_ret
              exact ⟨by rw [HR.out, hbad.out] <;> rfl, (Below.refl _ _).alloc (Nat.le_refl _) _⟩
            · have q2 : 122 < c.toNat := by omega
              go_wp2
              go_ret
              exact ⟨by rw [HR.out, hbad.out] <;> rfl, (Below.refl _ _).alloc (Nat.le_refl _) _⟩
          · have d0 : ((pos : Int) == 0) = false := by rw [beq_eq_false_iff_ne]; omega
            by_cases hdg : 48 ≤ c.toNat ∧ c.toNat ≤ 57
            · have hq2 := Lib.hid ((dig_iff c).2 hdg)
              obtain ⟨q1, q2⟩ := hdg
              go_wp2
              refine ⟨⟨pos + 1, rfl, by omega, ?_⟩, by simp; omega⟩
              intro i hi
              by_cases e : i = pos
              · subst e
                intro x hx
                rw [HB2.out] at hx
                injection hx with hx
                subst hx
                exact .inr ⟨by omega, hq2.out⟩
              · exact HOK.out i (by omega)
            · have hbad := Lib.hid (nameOk_bad _ _ _ HB2.out hq.out (.inr (dig_no c hdg)))
              by_cases q1 : c.toNat < 48
              · go_wp2
                go_ret
                exact ⟨by rw [HR.out, hbad.out] <;> rfl, (Below.refl _ _).alloc (Nat.le_refl _) _⟩
              · have q2 : 57 < c.toNat := by omega
                by_cases q3 : c.toNat < 97
                · go_wp2
                  go_ret
                  exact ⟨by rw [HR.out, hbad.out] <;> rfl, (Below.refl _ _).alloc (Nat.le_refl _) _⟩
                · have q4 : 122 < c.toNat := by omega
                  go_wp2
                  go_ret
                  exact ⟨by rw [HR.out, hbad.out] <;> rfl, (Below.refl _ _).alloc (Nat.le_refl _) _⟩
      · have hnx : ∀ ty, (Instr.next (.pointer (some ⟨w.heap.size, 0, none⟩)) true ty).run Tryd.prog (w.iter s pos) = _ := fun ty => run_next_any w s pos ty hlt
        have hh := (decode_high s pos hlt (by omega)).1
        have hbad := Lib.hid (nameOk_bad _ _ _ HB.out (let_no _ (by omega)) (.inr (dig_no _ (by omega))))
        obtain ⟨d, hd⟩ : ∃ d, d = (Utf8.decode s pos).1 := ⟨_, rfl⟩
        obtain ⟨d2, hd2⟩ : ∃ d2, d2 = (Utf8.decode s pos).2 := ⟨_, rfl⟩
        rw [← hd] at hh
        simp only [← hd, ← hd2] at hnx
        clear hd hd2 ha HB
        have q4 : 122 < d := by omega
        have q5 : 57 < d := by omega
        by_cases h00 : pos = 0
        · have d0 : ((pos : Int) == 0) = true := by rw [h00]; rfl
          clear h00
          go_wp2
          go_ret
          exact ⟨by rw [HR.out, hbad.out] <;> rfl, (Below.refl _ _).alloc (Nat.le_refl _) _⟩
        · have d0 : ((pos : Int) == 0) = false := by rw [beq_eq_false_iff_ne]; omega
          go_wp2
          go_ret
          exact ⟨by rw [HR.out, hbad.out] <;> rfl, (Below.refl _ _).alloc (Nat.le_refl _) _⟩
    · have hnx : ∀ ty, (Instr.next (.pointer (some ⟨w.heap.size, 0, none⟩)) true ty).run Tryd.prog (w.iter s pos) = _ := fun ty => run_next_end w s pos ty hlt
      have hyes := Lib.hid (nameOk_yes s.data.toList HNE.out (by rw [HL.out]; exact h20) (fun i => by
        by_cases hi : i < pos
        · exact HOK.out i hi
        · intro c hc
          have := (List.getElem?_eq_some_iff.1 hc).1
          rw [HL.out] at this; omega))
      go_wp2
      go_ret
      exact ⟨by rw [HR.out, hyes.out] <;> rfl, (Below.refl _ _).alloc (Nat.le_refl _) _⟩
theorem name_any (w : World) (s : ByteArray) (hm : s.size ≤ maxLen) :
    Calls Tryd.prog 14 #[.string s] w fun e w' => e = .returned (.bool (nameOk s.data.toList)) ∧ Below w.heap.size w w' := by
  by_cases h0 : s.size = 0
  · exact name_empty w s h0
  · by_cases h : 20 < s.size
    · exact name_long w s h hm
    · exact name_some w s (by omega) (by omega)
end Go.Proofs.YtlopmejmionnpaaDoor.As
