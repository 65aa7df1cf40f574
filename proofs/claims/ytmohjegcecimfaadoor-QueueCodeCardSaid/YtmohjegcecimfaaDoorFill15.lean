/- The walks of the package deadlatchref15: what is filled in. -/
import Derived.Test.YtmohjegcecimfaaDoorNum15
import Derived.Test.YtmohjegcecimfaaDoorRefC
import Derived.Test.YtmohjegcecimfaaDoorFill
set_option linter.unusedVariables false
namespace Go.Proofs.YtmohjegcecimfaaDoor.As
open Go.RowKit

theorem app_toList (a b : ByteArray) : (a ++ b).data.toList = a.data.toList ++ b.data.toList := by rw [ByteArray.data_append, Array.toList_append]
theorem mid_toList (s : ByteArray) (i j : Nat) : (s.extract i j).data.toList = (s.data.toList.drop i).take (j - i) := by rw [Lib.extract_data]
theorem size_toList (a : ByteArray) : a.size = a.data.toList.length := (Array.length_toList).symm
theorem inBr_short {l : B8} (h : l.length ≤ 1) : inBr l = true → False := by
  match l, h with
  | [], _ => intro e; cases e
  | [x], _ => intro e; simp [inBr] at e
set_option maxHeartbeats 8000000 in
theorem fill15_any (w : World) (s : ByteArray) (base t : Nat) (hs : s.size ≤ 100000) (hb : base ≤ 1000000) (ht : t ≤ 1000000) :
    Calls Tryd.prog 45 #[.string s, .int .i64 base, .int .i64 t] w fun e w' => (∃ o : ByteArray, e = .returned (.string o) ∧ o.data.toList = fillB base t s.data.toList) ∧ Below w.heap.size w w' := by
  have hsz : s.data.toList.length = s.size := Array.length_toList
  obtain ⟨r, hr⟩ : ∃ r, r = fillB base t s.data.toList := ⟨_, rfl⟩
  rw [← hr]
  have HR := Lib.hid hr
  clear hr
  have g1 : IntKind.i64.wrap ((t : Int) + 1) = ((t + 1 : Nat) : Int) := by rw [IntKind.wrap_i64]; omega
  go_enter Tryd.func45, Tryd.ntmps45
  go_wp2_with fail
  go_loopw [7, 8] (fun ov iv wr => ∃ (i : Nat) (o : ByteArray), i ≤ s.size ∧ iv = .int .i64 i ∧ ov = .string o ∧ o.size ≤ 15 * i ∧ Hid (r = o.data.toList ++ fillB base t (s.data.toList.drop i)) ∧ Hid (Below w.heap.size w wr)) (fun _ i _ => s.size - (intOf i).toNat)
  case atStart => exact ⟨0, _, by omega, rfl, rfl, by decide, HR, Below.refl _ _⟩
  case round =>
    obtain ⟨i, o, hil, rfl, rfl, hol, HE, HB⟩ := hrel
    have hHB := HB.out.size
    by_cases hlt : i < s.size
    · obtain ⟨c, hc⟩ : ∃ c, s.data.toList[i]? = some c := ⟨_, List.getElem?_eq_getElem (by omega)⟩
      obtain ⟨hi', hcc⟩ := at_byte hc
      have hE := HE.out
      rw [drop_at _ i c hc, fillB_cons] at hE
      by_cases h36 : c = 36
      · rw [if_pos h36] at hE
        have d1 : ((c.toNat : Int) == 36) = true := by rw [h36]; rfl
        obtain ⟨p, hp⟩ : ∃ p : ByteArray, p = ⟨(decB (t + 1)).toArray⟩ := ⟨_, rfl⟩
        have hpz : p.size ≤ 10 := by rw [hp]; exact decB_len 9 (t + 1) (by omega)
        have hpl : p.data.toList = decB (t + 1) := by rw [hp]
        rw [← hpl, ← List.append_assoc, ← app_toList] at hE
        have HE1 := Lib.hid hE
        have hnum := fun w => num15_any (t + 1) w (by omega)
        rw [← hp] at hnum
        have hoz : (o ++ p).size ≤ 15 * (i + 1) := by rw [ByteArray.size_append]; omega
        clear hp hE hc HE hpl
        go_wp2_with (go_at_call 64; refine (hnum _).mono ?_; rintro e w' ⟨rfl, hb'⟩)
        exact ⟨⟨i + 1, _, by omega, by simp, rfl, hoz, HE1, HB.out.trans (hb'.mono hHB)⟩, by simp [intOf]; omega⟩
      · rw [if_neg h36] at hE
        have d1 : ((c.toNat : Int) == 36) = false := byte_ne (d := 36) h36
        have f2 : IntKind.i64.wrap ((i : Int) + 2) = ((i + 2 : Nat) : Int) := by rw [IntKind.wrap_i64]; omega
        have f3 : IntKind.i64.wrap ((i : Int) + 1) = ((i + 1 : Nat) : Int) := by rw [IntKind.wrap_i64]; omega
        have hoz : (o ++ s.extract i (i + 1)).size ≤ 15 * (i + 1) := by
          rw [ByteArray.size_append, size_toList (s.extract i (i + 1)), mid_toList, List.length_take]; omega
        have hlast : fillB base t (s.data.toList.drop (i + 1)) = fillB base t (s.data.toList.drop (i + 1)) → ¬ (c = 91 ∧ inBr (s.data.toList.drop (i + 1)) = true) → r = (o ++ s.extract i (i + 1)).data.toList ++ fillB base t (s.data.toList.drop (i + 1)) := by
          intro _ hn
          rw [if_neg hn] at hE
          rw [hE, app_toList, mid_toList, drop_at _ i c hc, show i + 1 - i = 1 from by omega]
          simp
        by_cases h91 : c = 91
        · have d2 : ((c.toNat : Int) == 91) = true := by rw [h91]; rfl
          by_cases h2 : i + 2 < s.size
          · have d3 : (((i + 2 : Nat) : Int) < (s.size : Int)) = True := by simp; omega
            obtain ⟨x, hx⟩ : ∃ x, s.data.toList[i + 1]? = some x := ⟨_, List.getElem?_eq_getElem (by omega)⟩
            obtain ⟨y, hy⟩ : ∃ y, s.data.toList[i + 2]? = some y := ⟨_, List.getElem?_eq_getElem (by omega)⟩
            obtain ⟨hix, hcx⟩ := at_byte hx
            obtain ⟨hiy, hcy⟩ := at_byte hy
            have hdr : s.data.toList.drop (i + 1) = x :: y :: s.data.toList.drop (i + 1 + 2) := by rw [drop_at _ _ x hx, drop_at _ _ y hy]
            have hbr : inBr (s.data.toList.drop (i + 1)) = (decide (97 ≤ x.toNat) && (decide (x.toNat ≤ 113) && decide (y = 93))) := by rw [hdr]; rfl
            by_cases h97 : 97 ≤ x.toNat
            · have d4 : decide ((97 : Int) ≤ (x.toNat : Int)) = true := decide_eq_true (by omega)
              by_cases h113 : x.toNat ≤ 113
              · have d5 : decide ((x.toNat : Int) ≤ (113 : Int)) = true := decide_eq_true (by omega)
                by_cases h93 : y = 93
                · have d6 : ((y.toNat : Int) == 93) = true := by rw [h93]; rfl
                  rw [if_pos ⟨h91, by rw [hbr]; simp [h97, h113, h93]⟩, hdr] at hE
                  have q1 : IntKind.u8.wrap ((x.toNat : Int) - 97) = ((x.toNat - 97 : Nat) : Int) := by rw [IntKind.wrap_u8]; omega
                  have q2 : IntKind.i64.wrap ((x.toNat - 97 : Nat) : Int) = ((x.toNat - 97 : Nat) : Int) := by rw [IntKind.wrap_i64]; omega
                  have q3 : IntKind.i64.wrap ((base : Int) + ((x.toNat - 97 : Nat) : Int)) = ((base + (x.toNat - 97) : Nat) : Int) := by rw [IntKind.wrap_i64]; omega
                  have q4 : IntKind.i64.wrap (((i + 2 : Nat) : Int) + 1) = ((i + 3 : Nat) : Int) := by rw [IntKind.wrap_i64]; omega
                  obtain ⟨p, hp⟩ : ∃ p : ByteArray, p = ⟨(decB (base + (x.toNat - 97))).toArray⟩ := ⟨_, rfl⟩
                  have hpz : p.size ≤ 10 := by rw [hp]; exact decB_len 9 _ (by omega)
                  have hpl : p.data.toList = decB (base + (x.toNat - 97)) := by rw [hp]
                  have hnum := fun w => num15_any (base + (x.toNat - 97)) w (by omega)
                  rw [← hp] at hnum
                  have HE1 : Hid (r = (o ++ ⟨#[91]⟩ ++ p ++ ⟨#[93]⟩).data.toList ++ fillB base t (s.data.toList.drop (i + 3))) := by
                    show _ = _
                    rw [hE, app_toList, app_toList, app_toList, hpl]
                    simp [List.append_assoc]
                  have hz1 : ByteArray.size ⟨#[91]⟩ = 1 := rfl
                  have hz2 : ByteArray.size ⟨#[93]⟩ = 1 := rfl
                  have z1 : (o ++ ⟨#[91]⟩ : ByteArray).size = o.size + 1 := by rw [ByteArray.size_append, hz1]
                  have z2 : (o ++ ⟨#[91]⟩ ++ p : ByteArray).size = o.size + 1 + p.size := by rw [ByteArray.size_append, z1]
                  have hoz3 : (o ++ ⟨#[91]⟩ ++ p ++ ⟨#[93]⟩).size ≤ 15 * (i + 3) := by rw [ByteArray.size_append, z2, hz2]; omega
                  clear hp hE hc HE hpl hlast hx hy hdr hbr hoz hz1 hz2
                  go_wp2_with (go_at_call 64; refine (hnum _).mono ?_; rintro e w' ⟨rfl, hb'⟩)
                  exact ⟨⟨i + 3, _, by omega, congrArg (Value.int IntKind.i64) (by omega), rfl, hoz3, HE1, HB.out.trans (hb'.mono hHB)⟩, by simp [intOf]; omega⟩
                · have HE1 := Lib.hid (hlast rfl (by rintro ⟨_, e⟩; rw [hbr] at e; simp [h93] at e))
                  have d6 : ((y.toNat : Int) == 93) = false := byte_ne (d := 93) h93
                  clear hE hc HE hlast hx hy hdr hbr
                  go_wp2_with fail
                  all_goals exact ⟨⟨i + 1, _, by omega, by simp, rfl, hoz, HE1, HB⟩, by simp [intOf]; omega⟩
              · have HE1 := Lib.hid (hlast rfl (by rintro ⟨_, e⟩; rw [hbr] at e; simp at e; omega))
                have d5 : decide ((x.toNat : Int) ≤ (113 : Int)) = false := decide_eq_false (by omega)
                clear hE hc HE hlast hx hy hdr hbr
                go_wp2_with fail
                all_goals exact ⟨⟨i + 1, _, by omega, by simp, rfl, hoz, HE1, HB⟩, by simp [intOf]; omega⟩
            · have HE1 := Lib.hid (hlast rfl (by rintro ⟨_, e⟩; rw [hbr] at e; simp at e; omega))
              have d4 : decide ((97 : Int) ≤ (x.toNat : Int)) = false := decide_eq_false (by omega)
              clear hE hc HE hlast hx hy hdr hbr
              go_wp2_with fail
              all_goals exact ⟨⟨i + 1, _, by omega, by simp, rfl, hoz, HE1, HB⟩, by simp [intOf]; omega⟩
          · have HE1 := Lib.hid (hlast rfl (by rintro ⟨_, e⟩; exact inBr_short (by rw [List.length_drop]; omega) e))
            clear hE hc HE hlast
            go_wp2_with fail
            all_goals exact ⟨⟨i + 1, _, by omega, by simp, rfl, hoz, HE1, HB⟩, by simp [intOf]; omega⟩
        · have HE1 := Lib.hid (hlast rfl (fun e => h91 e.1))
          have d2 : ((c.toNat : Int) == 91) = false := byte_ne (d := 91) h91
          clear hE hc HE hlast
          go_wp2_with fail
          all_goals exact ⟨⟨i + 1, _, by omega, by simp, rfl, hoz, HE1, HB⟩, by simp [intOf]; omega⟩
    · have hie : i = s.size := by omega
      have hE := HE.out
      rw [List.drop_eq_nil_of_le (by omega), fillB_nil, List.append_nil] at hE
      have HE1 := Lib.hid hE
      clear hE HE
      go_wp2_with fail
      go_ret
      exact ⟨⟨o, rfl, HE1.out.symm⟩, HB.out⟩
end Go.Proofs.YtmohjegcecimfaaDoor.As
