/- The walk of hist.fits: has an act answered what it should have? -/
import Derived.Test.YtfemeiopfpblaaaDoorHjM2
import Derived.Test.YtfemeiopfpblaaaDoorHjJ2
set_option linter.unusedVariables false
set_option linter.unusedSimpArgs false
set_option maxRecDepth 20000
namespace Go.Proofs.YtfemeiopfpblaaaDoor.As
open Go.RowKit

set_option maxHeartbeats 2000000 in
theorem fits_any (w : World) (a : Act) (dA eA : Option Addr) (dc ec : Nat) (rr : Int) (dd : List Int) (hU : InU w (.slice dA a.data.length dc) a.data.length a.data) (hV : InU w (.slice eA dd.length ec) dd.length dd) (hl : a.data.length ≤ 20) :
    Calls Tryd.prog 10 #[.agg #[.int .i64 a.x.who, .int .i64 a.x.obj, .int .i64 a.x.call, .int .i64 a.x.part, .int .u32 a.x.arg, .int .u32 a.x.val, .int .i64 a.site, .int .i64 a.at_, .bool a.ended, .int .u32 a.res, .slice dA a.data.length dc], .agg #[.int .u32 rr, .slice eA dd.length ec]] w fun e w' => e = .returned (.bool (decide (fitsP a (rr, dd)))) ∧ Below w.heap.size w w' := by
  obtain ⟨r, hr⟩ : ∃ r, r = decide (fitsP a (rr, dd)) := ⟨_, rfl⟩
  rw [← hr]
  have HR := Lib.hid hr
  have h20 : (a.data.length : Int) ≤ 20 := by omega
  have HUU := Lib.hid hU
  have HVV := Lib.hid hV
  obtain ⟨bX, bZ, bB, bS⟩ := blk2 w (.cells #[.int .i64 a.x.who, .int .i64 a.x.obj, .int .i64 a.x.call, .int .i64 a.x.part, .int .u32 a.x.arg, .int .u32 a.x.val, .int .i64 a.site, .int .i64 a.at_, .bool a.ended, .int .u32 a.res, .slice dA a.data.length dc] 35) (.cells #[.int .u32 rr, .slice eA dd.length ec] 50)
  have HB := Lib.hid bB
  have HX := Lib.hid bX
  have HZ := Lib.hid bZ
  clear hr hU hV bX bZ bB bS
  cases he : a.ended with
  | false =>
    have HE := Lib.hid he
    go_enter Tryd.func10, Tryd.ntmps10
    clear he
    go_wp2_with fail
    go_ret
    exact ⟨by rw [HR.out, decide_eq_true (.inl HE.out)] <;> rfl, by rw [HE.out] at HB; exact HB.out⟩
  | true =>
    have HE := Lib.hid he
    rw [he] at HB HX HZ
    by_cases p1 : a.x.part = 1
    · have g1 : (a.x.part == 1) = true := by simp [p1]
      have P1 := Lib.hid p1
      clear p1
      go_enter Tryd.func10, Tryd.ntmps10
      clear he
      go_wp2_with fail
      go_ret
      exact ⟨by rw [HR.out, decide_eq_true (.inr (.inl P1.out))] <;> rfl, HB.out⟩
    · have g1 : (a.x.part == 1) = false := by simp [p1]
      have P1 := Lib.hid p1
      clear p1
      by_cases p2 : a.x.part = 2
      · have g2 : (a.x.part == 2) = true := by simp [p2]
        have P2 := Lib.hid p2
        clear p2
        go_enter Tryd.func10, Tryd.ntmps10
        clear he
        go_wp2_with fail
        go_ret
        exact ⟨by rw [HR.out, decide_eq_true (.inr (.inr (.inl P2.out)))] <;> rfl, HB.out⟩
      · have g2 : (a.x.part == 2) = false := by simp [p2]
        have P2 := Lib.hid p2
        clear p2
        by_cases hres : a.res = rr
        · have g3 : (a.res != rr) = false := by simp [hres]
          have HRES := Lib.hid hres
          clear hres
          by_cases hlen : a.data.length = dd.length
          · have g4 : ((a.data.length : Int) != (dd.length : Int)) = false := by simp [hlen]
            have g5 : (a.data.length != dd.length) = false := by simp [hlen]
            have HLEN := Lib.hid hlen
            have HR2 : Hid (r = decide (a.data = dd)) := by
              show r = _
              rw [HR.out]
              by_cases hd : a.data = dd
              · rw [decide_eq_true hd, decide_eq_true (.inr (.inr (.inr ⟨HRES.out, hd⟩)))]
              · rw [decide_eq_false hd, decide_eq_false (fun e => by rcases e with e | e | e | e; (rw [HE.out] at e; cases e); exact P1.out e; exact P2.out e; exact hd e.2)]
            clear hlen HR
            go_enter Tryd.func10, Tryd.ntmps10
            clear he
            go_wp2_with fail
            clear g1 g2 g3 g4 g5
            go_loopw [39] (fun jv w2 => ∃ k : Nat, k ≤ a.data.length ∧ jv = .int .i64 k ∧ Hid (∀ t, t < k → a.data[t]? = dd[t]?) ∧ ((w.alloc (.cells #[.int .i64 a.x.who, .int .i64 a.x.obj, .int .i64 a.x.call, .int .i64 a.x.part, .int .u32 a.x.arg, .int .u32 a.x.val, .int .i64 a.site, .int .i64 a.at_, .bool true, .int .u32 a.res, .slice dA a.data.length dc] 35)).alloc (.cells #[.int .u32 rr, .slice eA dd.length ec] 50)) = w2) (fun i _ => a.data.length - (intOf i).toNat)
            case atStart => exact ⟨0, by omega, rfl, (fun t ht => by omega), rfl⟩
            case round =>
              obtain ⟨k, hk, rfl, HQ, rfl⟩ := hrel
              by_cases hlt : k < a.data.length
              · obtain ⟨p, hp⟩ : ∃ p, a.data[k]? = some p := ⟨_, List.getElem?_eq_getElem hlt⟩
                obtain ⟨q, hq⟩ : ∃ q, dd[k]? = some q := ⟨_, List.getElem?_eq_getElem (by rw [← HLEN.out]; exact hlt)⟩
                obtain ⟨b1, f1, rfl, hb1, u1⟩ := InU.at HUU.out hp
                obtain ⟨b2, f2, rfl, hb2, u2⟩ := InU.at HVV.out hq
                have hkd : k < dd.length := by rw [← HLEN.out]; exact hlt
                by_cases hpq : p = q
                · have gq : (p != q) = false := by simp [hpq]
                  have HQ1 : Hid (∀ t, t < k + 1 → a.data[t]? = dd[t]?) := by
                    intro t ht
                    by_cases e : t = k
                    · subst e; rw [hp, hq, hpq]
                    · exact HQ.out t (by omega)
                  clear hp hq hpq
                  go_wp2_with fail
                  exact ⟨⟨k + 1, by omega, by simp, HQ1, (by first | rfl | trivial)⟩, by simp [intOf]; omega⟩
                · have gq : (p != q) = true := by simp [hpq]
                  have HR3 : Hid (r = false) := by
                    show r = _
                    rw [HR2.out, decide_eq_false (fun e => by rw [e, hq] at hp; injection hp with hp; exact hpq hp.symm)]
                  clear hp hq hpq HR2
                  go_wp2_with fail
                  go_ret
                  exact ⟨by rw [HR3.out] <;> rfl, HB.out⟩
              · have HR3 : Hid (r = true) := by
                  show r = _
                  rw [HR2.out, decide_eq_true]
                  apply Classical.byContradiction
                  intro hn
                  obtain ⟨t, ht, e⟩ := ne_list HLEN.out hn
                  exact e (HQ.out t (by omega))
                clear HR2
                go_wp2_with fail
                go_ret
                exact ⟨by rw [HR3.out] <;> rfl, HB.out⟩
          · have g4 : ((a.data.length : Int) != (dd.length : Int)) = true := by simp; omega
            have g5 : (a.data.length != dd.length) = true := by simp [hlen]
            have HLEN := Lib.hid hlen
            clear hlen
            go_enter Tryd.func10, Tryd.ntmps10
            clear he
            go_wp2_with fail
            go_ret
            exact ⟨by rw [HR.out, decide_eq_false (fun e => by rcases e with e | e | e | e; (rw [HE.out] at e; cases e); exact P1.out e; exact P2.out e; exact HLEN.out (by rw [e.2]))] <;> rfl, HB.out⟩
        · have g3 : (a.res != rr) = true := by simp [hres]
          have HRES := Lib.hid hres
          clear hres
          go_enter Tryd.func10, Tryd.ntmps10
          clear he
          go_wp2_with fail
          go_ret
          exact ⟨by rw [HR.out, decide_eq_false (fun e => by rcases e with e | e | e | e; (rw [HE.out] at e; cases e); exact P1.out e; exact P2.out e; exact HRES.out e.1)] <;> rfl, HB.out⟩

end Go.Proofs.YtfemeiopfpblaaaDoor.As
