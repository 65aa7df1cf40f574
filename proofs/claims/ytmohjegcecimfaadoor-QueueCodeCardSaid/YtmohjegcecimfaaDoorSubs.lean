/- Plain Lean: a word that is put in for another one. No program in sight. The walks of the package deadlatchref16: a word that is put in for another one. -/
import Derived.Test.YtmohjegcecimfaaDoorFill2
import Derived.Test.YtmohjegcecimfaaDoorFill15
set_option linter.unusedVariables false
set_option linter.unusedSimpArgs false
namespace Go.Proofs.YtmohjegcecimfaaDoor.As

def subGo (word by_ : B8) : Nat → B8 → B8
  | 0, _ => []
  | _ + 1, [] => []
  | n + 1, c :: r => if word.isPrefixOf (c :: r) = true then by_ ++ subGo word by_ n ((c :: r).drop word.length) else c :: subGo word by_ n r
/-- A text, in which one word stands for each place of another one. -/
def subB (word by_ s : B8) : B8 := subGo word by_ s.length s
theorem subGo_more (word by_ : B8) (hw : 0 < word.length) : ∀ (n m : Nat) (s : B8), s.length ≤ n → s.length ≤ m → subGo word by_ n s = subGo word by_ m s
  | 0, m, s, h, _ => by
    have : s = [] := List.length_eq_zero_iff.1 (by omega)
    rw [this]; cases m <;> rfl
  | n + 1, 0, s, _, h => by
    have : s = [] := List.length_eq_zero_iff.1 (by omega)
    rw [this]; rfl
  | n + 1, m + 1, [], _, _ => rfl
  | n + 1, m + 1, c :: r, h1, h2 => by
    rw [List.length_cons] at h1 h2
    have hd : ((c :: r).drop word.length).length ≤ r.length := by rw [List.length_drop, List.length_cons]; omega
    rw [subGo, subGo, subGo_more word by_ hw n m r (by omega) (by omega), subGo_more word by_ hw n m ((c :: r).drop word.length) (by omega) (by omega)]
theorem subB_nil (word by_ : B8) : subB word by_ [] = [] := rfl
theorem subB_cons (word by_ : B8) (hw : 0 < word.length) (c : UInt8) (r : B8) : subB word by_ (c :: r) = if word.isPrefixOf (c :: r) = true then by_ ++ subB word by_ ((c :: r).drop word.length) else c :: subB word by_ r := by
  have hd : ((c :: r).drop word.length).length ≤ r.length := by rw [List.length_drop, List.length_cons]; omega
  unfold subB
  rw [List.length_cons, subGo, subGo_more word by_ hw r.length ((c :: r).drop word.length).length ((c :: r).drop word.length) hd (Nat.le_refl _)]
theorem subB_len (word by_ : B8) (hw : 0 < word.length) (hb : by_.length ≤ 10) : ∀ (n : Nat) (s : B8), s.length ≤ n → (subB word by_ s).length ≤ 10 * n := by
  intro n
  induction n with
  | zero =>
    intro s hs
    have : s = [] := List.length_eq_zero_iff.1 (by omega)
    rw [this]; simp [subB_nil]
  | succ n ih =>
    intro s hs
    match s, hs with
    | [], _ => simp [subB_nil]
    | c :: r, hs =>
      have hr : r.length ≤ n := by simpa using hs
      rw [subB_cons word by_ hw]
      split
      · have h1 := ih ((c :: r).drop word.length) (by rw [List.length_drop, List.length_cons]; omega)
        rw [List.length_append]; omega
      · have h1 := ih r hr
        rw [List.length_cons]; omega
theorem prefix_sep (x : UInt8) (R : B8) : ∀ (word A : B8), x ∉ word → word.isPrefixOf (A ++ x :: R) = word.isPrefixOf A
  | [], A, _ => by simp [List.isPrefixOf]
  | c :: w, [], h => by
    have : (c == x) = false := by rw [beq_eq_false_iff_ne]; intro e; exact h (by simp [e])
    simp [List.isPrefixOf, this]
  | c :: w, a :: A, h => by
    have ih := prefix_sep x R w A (fun e => h (by simp [e]))
    simp only [List.cons_append, List.isPrefixOf, ih]
theorem prefix_len : ∀ {word A : B8}, word.isPrefixOf A = true → word.length ≤ A.length
  | [], A, _ => by simp
  | c :: w, [], h => by simp [List.isPrefixOf] at h
  | c :: w, a :: A, h => by
    simp only [List.isPrefixOf, Bool.and_eq_true] at h
    have := prefix_len h.2
    simp; omega
/-- A byte that the word lacks parts the text. -/
theorem subB_sep (word by_ : B8) (hw : 0 < word.length) (x : UInt8) (hx : x ∉ word) (R : B8) : ∀ (n : Nat) (A : B8), A.length ≤ n → subB word by_ (A ++ x :: R) = subB word by_ A ++ x :: subB word by_ R := by
  have hnil : word.isPrefixOf (x :: R) = false := by
    have := prefix_sep x R word [] hx
    rw [List.nil_append] at this
    rw [this]
    cases word with
    | nil => simp at hw
    | cons c w => rfl
  intro n
  induction n with
  | zero =>
    intro A hA
    have : A = [] := List.length_eq_zero_iff.1 (by omega)
    rw [this, List.nil_append, subB_cons word by_ hw, hnil]; rfl
  | succ n ih =>
    intro A hA
    match A, hA with
    | [], _ => rw [List.nil_append, subB_cons word by_ hw, hnil]; rfl
    | c :: A, hA =>
      have hA' : A.length ≤ n := by simpa using hA
      have hp := prefix_sep x R word (c :: A) hx
      rw [List.cons_append] at hp ⊢
      rw [subB_cons word by_ hw, subB_cons word by_ hw c A, hp]
      by_cases h : word.isPrefixOf (c :: A) = true
      · rw [if_pos h, if_pos h]
        have hl := prefix_len h
        have hd : (c :: (A ++ x :: R)).drop word.length = (c :: A).drop word.length ++ x :: R := by
          rw [show c :: (A ++ x :: R) = (c :: A) ++ x :: R from rfl, List.drop_append_of_le_length hl]
        rw [hd, ih ((c :: A).drop word.length) (by rw [List.length_drop, List.length_cons]; omega), List.append_assoc]
      · rw [if_neg h, if_neg h, ih A hA', List.cons_append]
/-- Bytes that the word lacks stay. -/
theorem subB_mid (word by_ : B8) (hw : 0 < word.length) (R : B8) : ∀ (d A : B8), (∀ x ∈ d, x ∉ word) → d ≠ [] → subB word by_ (A ++ (d ++ R)) = subB word by_ A ++ (d ++ subB word by_ R)
  | [], A, _, h => absurd rfl h
  | [x], A, h, _ => subB_sep word by_ hw x (h x (by simp)) R A.length A (Nat.le_refl _)
  | x :: y :: d, A, h, _ => by
    have ih := subB_mid word by_ hw R (y :: d) [] (fun z hz => h z (by simp at hz ⊢; exact .inr hz)) (by simp)
    rw [List.cons_append, subB_sep word by_ hw x (h x (by simp)) _ A.length A (Nat.le_refl _)]
    rw [List.nil_append, subB_nil, List.nil_append] at ih
    rw [ih]; rfl
theorem subB_unl (word by_ : B8) (hw : 0 < word.length) (h10 : (10 : UInt8) ∉ word) : ∀ ls : List B8, subB word by_ (unl ls) = unl (ls.map (subB word by_))
  | [] => rfl
  | l :: r => by
    rw [unl, subB_sep word by_ hw 10 h10 _ l.length l (Nat.le_refl _), subB_unl word by_ hw h10 r]; rfl
end Go.Proofs.YtmohjegcecimfaaDoor.As

namespace Go.Proofs.YtmohjegcecimfaaDoor.As
open Go.RowKit

theorem prefix_take (word A : B8) : word.isPrefixOf A = true ↔ A.take word.length = word := by
  rw [List.isPrefixOf_iff_prefix, List.prefix_iff_eq_take]
  exact eq_comm
set_option maxHeartbeats 8000000 in
theorem sub16_any (w : World) (s word by_ : ByteArray) (hs : s.size ≤ 100000000000000) (hw0 : 1 ≤ word.size) (hw1 : word.size ≤ 10) (hb : by_.size ≤ 10) :
    Calls Tryd.prog 63 #[.string s, .string word, .string by_] w fun e w' => (∃ o : ByteArray, e = .returned (.string o) ∧ o.data.toList = subB word.data.toList by_.data.toList s.data.toList) ∧ ∃ m, w' = w.drewN m := by
  have hsz : s.data.toList.length = s.size := Array.length_toList
  have hwz : word.data.toList.length = word.size := Array.length_toList
  obtain ⟨r, hr⟩ : ∃ r, r = subB word.data.toList by_.data.toList s.data.toList := ⟨_, rfl⟩
  rw [← hr]
  have HR := Lib.hid hr
  clear hr
  go_enter Tryd.func63, Tryd.ntmps63
  go_wp2_with fail
  go_loopw [7, 8] (fun ov iv wr => ∃ (i : Nat) (o : ByteArray), i ≤ s.size ∧ iv = .int .i64 i ∧ ov = .string o ∧ o.size ≤ 10 * i ∧ Hid (r = o.data.toList ++ subB word.data.toList by_.data.toList (s.data.toList.drop i)) ∧ ∃ m, wr = w.drewN m) (fun _ i _ => s.size - (intOf i).toNat)
  case atStart => exact ⟨0, _, by omega, rfl, rfl, by decide, HR, 0, rfl⟩
  case round =>
    obtain ⟨i, o, hil, rfl, rfl, hol, HE, m, rfl⟩ := hrel
    by_cases hlt : i < s.size
    · obtain ⟨c, hc⟩ : ∃ c, s.data.toList[i]? = some c := ⟨_, List.getElem?_eq_getElem (by omega)⟩
      have hE := HE.out
      have hdr := drop_at _ i c hc
      rw [hdr, subB_cons _ _ (by omega), ← hdr] at hE
      have f1 : IntKind.i64.wrap ((i : Int) + (word.size : Int)) = ((i + word.size : Nat) : Int) := by rw [IntKind.wrap_i64]; omega
      have f2 : IntKind.i64.wrap (((i + word.size : Nat) : Int) - 1) = ((i + word.size - 1 : Nat) : Int) := by rw [IntKind.wrap_i64]; omega
      have f3 : IntKind.i64.wrap (((i + word.size - 1 : Nat) : Int) + 1) = ((i + word.size : Nat) : Int) := by rw [IntKind.wrap_i64]; omega
      have f4 : IntKind.i64.wrap ((i : Int) + 1) = ((i + 1 : Nat) : Int) := by rw [IntKind.wrap_i64]; omega
      by_cases h : word.data.toList.isPrefixOf (s.data.toList.drop i) = true
      · rw [if_pos h] at hE
        have hl := prefix_len h
        rw [List.length_drop, hsz, hwz] at hl
        have h1 : i + word.size ≤ s.size := by omega
        have he : ((s.extract i (i + word.size)).toList == word.toList) = true := by
          rw [ByteArray.toList_eq, ByteArray.toList_eq, mid_toList, show i + word.size - i = word.size from by omega, ← hwz, (prefix_take _ _).1 h]
          exact beq_self_eq_true _
        have hoz : (o ++ by_).size ≤ 10 * (i + word.size) := by rw [ByteArray.size_append]; omega
        rw [hwz, List.drop_drop, ← List.append_assoc, ← app_toList] at hE
        have HE1 := Lib.hid hE
        clear hE HE hc hdr h
        go_wp2_with fail
        exact ⟨⟨i + word.size, _, h1, congrArg (Value.int IntKind.i64) (by omega), rfl, hoz, HE1, m, rfl⟩, by simp [intOf]; omega⟩
      · rw [if_neg h] at hE
        have hoz : (o ++ s.extract i (i + 1)).size ≤ 10 * (i + 1) := by
          rw [ByteArray.size_append, size_toList (s.extract i (i + 1)), mid_toList, List.length_take]; omega
        have HE1 : Hid (r = (o ++ s.extract i (i + 1)).data.toList ++ subB word.data.toList by_.data.toList (s.data.toList.drop (i + 1))) := by
          show _ = _
          rw [hE, app_toList, mid_toList, hdr, show i + 1 - i = 1 from by omega]
          simp
        by_cases h1 : i + word.size ≤ s.size
        · have he : ((s.extract i (i + word.size)).toList == word.toList) = false := by
            rw [ByteArray.toList_eq, ByteArray.toList_eq, mid_toList, show i + word.size - i = word.size from by omega]
            refine beq_eq_false_iff_ne.2 (fun e => h ((prefix_take _ _).2 ?_))
            rw [hwz]; exact e
          clear hE HE hc hdr h
          go_wp2_with fail
          exact ⟨⟨i + 1, _, by omega, by simp, rfl, hoz, HE1, m, rfl⟩, by simp [intOf]; omega⟩
        · clear hE HE hc hdr h
          go_wp2_with fail
          exact ⟨⟨i + 1, _, by omega, by simp, rfl, hoz, HE1, m, rfl⟩, by simp [intOf]; omega⟩
    · have hie : i = s.size := by omega
      have hE := HE.out
      rw [List.drop_eq_nil_of_le (by omega), subB_nil, List.append_nil] at hE
      have HE1 := Lib.hid hE
      clear hE HE
      go_wp2_with fail
      go_ret
      exact ⟨⟨o, rfl, HE1.out.symm⟩, m, rfl⟩
end Go.Proofs.YtmohjegcecimfaaDoor.As
