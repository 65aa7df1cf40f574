/- The walk of the law HistJudges. -/
import Derived.Test.YtfemeiopfpblaaaDoorHjO
import Derived.Test.YtfemeiopfpblaaaDoorHjQ
set_option linter.unusedVariables false
set_option linter.unusedSimpArgs false
set_option maxRecDepth 20000
namespace Go.Proofs.YtfemeiopfpblaaaDoor.As
open Go.RowKit

theorem infoOps : (Tryd.prog.info? 100).map (fun i => (i.zero, i.size, i.bytes)) = some (some (.slice none 0 0), 1, 24) := by kernel_rfl
theorem infoK : (Tryd.prog.info? 38).map (fun i => (i.zero, i.size, i.bytes)) = some (some (.agg #[.int .i64 0, .int .i64 0, .int .i64 0, .int .i64 0, .int .u32 0, .int .u32 0, .int .i64 0, .int .i64 0, .bool false, .int .u32 0, .slice none 0 0]), 11, 88) := by kernel_rfl
theorem RdP.at2 {w w' : World} {A : Option Addr} {n cap i : Nat} {l : List (Act × Value)} {y : Act × Value} (h : RdP w (.slice A n cap) n l) (hy : l[i]? = some y) (hb : Below w.heap.size w w') :
    ∃ b off dA dc, A = some ⟨b, off, none⟩ ∧ b < w'.heap.size ∧ y.2 = .slice dA y.1.data.length dc ∧ InU w y.2 y.1.data.length y.1.data ∧ w'.cell? ⟨b, off + i * 11, none⟩ = some (.int .i64 y.1.x.who) ∧ w'.cell? ⟨b, off + i * 11 + 1, none⟩ = some (.int .i64 y.1.x.obj) ∧ w'.cell? ⟨b, off + i * 11 + 2, none⟩ = some (.int .i64 y.1.x.call) ∧ w'.cell? ⟨b, off + i * 11 + 3, none⟩ = some (.int .i64 y.1.x.part) ∧ w'.cell? ⟨b, off + i * 11 + 4, none⟩ = some (.int .u32 y.1.x.arg) ∧ w'.cell? ⟨b, off + i * 11 + 5, none⟩ = some (.int .u32 y.1.x.val) ∧ w'.cell? ⟨b, off + i * 11 + 6, none⟩ = some (.int .i64 y.1.site) ∧ w'.cell? ⟨b, off + i * 11 + 7, none⟩ = some (.int .i64 y.1.at_) ∧ w'.cell? ⟨b, off + i * 11 + 8, none⟩ = some (.bool y.1.ended) ∧ w'.cell? ⟨b, off + i * 11 + 9, none⟩ = some (.int .u32 y.1.res) ∧ w'.cell? ⟨b, off + i * 11 + 10, none⟩ = some y.2 := by
  obtain ⟨hl, A', cap', e, h⟩ := h
  injection e with e1 e2 e3
  subst e1
  have hi : i < l.length := (List.getElem?_eq_some_iff.1 hy).1
  obtain ⟨b, off, rfl, hlt, hc⟩ := h (by omega)
  obtain ⟨hU, h2⟩ := hc i y hy
  have k := fun j => hb.cell (p := ⟨b, j, none⟩) hlt
  have hU0 := hU
  obtain ⟨_, dA, dc, e2, _⟩ := hU0
  exact ⟨b, off, dA, dc, rfl, Nat.lt_of_lt_of_le hlt hb.size, e2, hU, (k _).trans (h2 0 _ rfl), (k _).trans (h2 1 _ rfl), (k _).trans (h2 2 _ rfl), (k _).trans (h2 3 _ rfl), (k _).trans (h2 4 _ rfl), (k _).trans (h2 5 _ rfl), (k _).trans (h2 6 _ rfl), (k _).trans (h2 7 _ rfl), (k _).trans (h2 8 _ rfl), (k _).trans (h2 9 _ rfl), (k _).trans (h2 10 _ rfl)⟩
set_option maxHeartbeats 4000000 in
theorem histJudges_far (w : World) (T : TabO w) (ov kv : Value) (tb m n : Nat) (obs : List Ob) (L : List (Act × Value)) (hI : InO w ov m obs) (hK : RdP w kv n L) (hf : 20 < m ∨ 300 < n) :
    Calls Tryd.prog 3 #[ov, .int .u8 tb, kv] w fun e w' => e = .returned (.bool true) ∧ Below w.heap.size w w' := by
  obtain ⟨hml, oA, oc, rfl, hI9⟩ := hI
  obtain ⟨hkl, kA, kc, rfl, hK9⟩ := hK
  clear hI9 hK9
  by_cases h20 : (20 : Int) < (m : Int)
  · have d1 : decide ((20 : Int) < (m : Int)) = true := decide_eq_true h20
    clear h20
    go_enter Tryd.func3, Tryd.ntmps3
    go_wp2_with fail
    refine (awake26_any w T).mono ?_; rintro e w1 ⟨rfl, hb1⟩
    go_wp2_with fail
    refine (awake26_any w1 (T.below hb1 (Nat.le_refl _))).mono ?_; rintro e w2 ⟨rfl, hb2⟩
    go_wp2_with fail
    go_ret
    exact ⟨rfl, hb1.trans (hb2.mono hb1.size)⟩
  · have d1 : decide ((20 : Int) < (m : Int)) = false := decide_eq_false h20
    have d2 : decide ((300 : Int) < (n : Int)) = true := decide_eq_true (by omega)
    clear h20
    go_enter Tryd.func3, Tryd.ntmps3
    go_wp2_with fail
    refine (awake26_any w T).mono ?_; rintro e w1 ⟨rfl, hb1⟩
    go_wp2_with fail
    refine (awake26_any w1 (T.below hb1 (Nat.le_refl _))).mono ?_; rintro e w2 ⟨rfl, hb2⟩
    go_wp2_with fail
    go_ret
    exact ⟨rfl, hb1.trans (hb2.mono hb1.size)⟩
set_option maxHeartbeats 1500000 in
theorem histJudges_near (w : World) (T : TabO w) (ov kv : Value) (tb m n : Nat) (obs : List Ob) (L : List (Act × Value)) (hI : InO w ov m obs) (hK : RdP w kv n L) (hx : ∀ y ∈ L, 0 ≤ y.1.x.arg ∧ y.1.x.arg ≤ 4294967295) (hm : m ≤ 20) (hn : n ≤ 300) (htb : tb ≤ 255) :
    Calls Tryd.prog 3 #[ov, .int .u8 tb, kv] w fun e w' => e = .returned (.bool true) ∧ Below w.heap.size w w' := by
  have HI := Lib.hid hI
  have HK := Lib.hid hK
  have HX := Lib.hid hx
  obtain ⟨hml, oA, oc, rfl, hI9⟩ := hI
  obtain ⟨hkl, kA, kc, rfl, hK9⟩ := hK
  clear hI9 hK9
  clear hx
  have d1 : decide ((20 : Int) < (m : Int)) = false := decide_eq_false (by omega)
  have d2 : decide ((300 : Int) < (n : Int)) = false := decide_eq_false (by omega)
  go_enter Tryd.func3, Tryd.ntmps3
  go_wp2_with fail
  refine (awake26_any w T).mono ?_; rintro e w1 ⟨rfl, hb1⟩
  have HB1 := Lib.hid hb1
  have HT1 := Lib.hid (T.below hb1 (Nat.le_refl _))
  clear T hb1
  obtain ⟨th, hth⟩ : ∃ th : Nat, th = 1 + tb % 8 := ⟨_, rfl⟩
  have h8 : 1 + (tb : Int) % 8 = (th : Int) := by omega
  have hth8 : th ≤ 8 := by omega
  have hth1 : 1 ≤ th := by omega
  clear hth
  obtain ⟨i0, hi, hz0, hz1, hz2⟩ := info_parts infoOps
  go_wp2_with (at_make; refine wpList_make_full w1 rfl (.tmp 30) (.tmp 30) 25 rfl w1.heap.size 100 i0 _ 1 Tryd.underlying25 hi hz0 hz1 .i64 .i64 _ _ th rfl rfl rfl rfl (by rw [hz2]; omega) (by unfold maxLen; omega) (Nat.le_refl _) ?_; intro w2 ho2 hgr2)
  have hb2 : Below w1.heap.size w1 w2 := (Below.refl _ w1).grown hgr2 (Nat.le_refl _) (fun k hk => by cases hk)
  have HB2 := Lib.hid (HB1.out.trans (hb2.mono HB1.out.size))
  have HT2 := Lib.hid (HT1.out.below hb2 (Nat.le_refl _))
  have HB3 := Lib.hid ((Below.refl w2.heap.size w2).alloc (Nat.le_refl _) (.cells #[.slice oA m oc, .int .i64 0, .slice none 0 0, .int .i64 1, .slice (some ⟨w1.heap.size, 0, none⟩) th th] 28))
  have HC3 := Lib.hid (heap_alloc_new w2 (.cells #[.slice oA m oc, .int .i64 0, .slice none 0 0, .int .i64 1, .slice (some ⟨w1.heap.size, 0, none⟩) th th] 28))
  obtain ⟨k0, hk, hy0, hy1, hy2⟩ := info_parts infoK
  clear ho2 hgr2 hb2
  go_loopw [8, 9] (fun wv iv wr => ∃ i : Nat, i ≤ n ∧ iv = .int .i64 i ∧ Hid (wr.ownsRow (w2.heap.size + 1) 38 11 wv i (flatK (L.take i))) ∧ Hid (Below (w2.heap.size + 1) (w2.alloc (.cells #[.slice oA m oc, .int .i64 0, .slice none 0 0, .int .i64 1, .slice (some ⟨w1.heap.size, 0, none⟩) th th] 28)) wr) ∧ Hid (∀ y ∈ L.take i, y.1.data.length ≤ 20)) (fun _ i _ => n - (intOf i).toNat)
  case atStart => exact ⟨0, by omega, rfl, World.ownsRow_nil _ _ _ _, Below.refl _ _, (fun y hy => by simp at hy)⟩
  case round =>
    obtain ⟨i, hin, rfl, HO, HB, HD⟩ := hrel
    have hwr : w2.heap.size + 1 ≤ wr.heap.size := by have := HB.out.size; simpa using this
    have hw1 : w2.heap.size < wr.heap.size := by omega
    have hCr : wr.heap[w2.heap.size]? = some (.cells #[.slice oA m oc, .int .i64 0, .slice none 0 0, .int .i64 1, .slice (some ⟨w1.heap.size, 0, none⟩) th th] 28 (0, 0)) := (HB.out.block _ (by omega)).trans HC3.out
    have HBw := Lib.hid (HB2.out.trans ((HB3.out.trans (HB.out.mono (Nat.le_succ _))).mono HB2.out.size))
    obtain ⟨A, cap, rfl⟩ := (Rd.of_own HO.out).form
    by_cases hlt : i < n
    · obtain ⟨y, hy⟩ : ∃ y, L[i]? = some y := ⟨_, List.getElem?_eq_getElem (by omega)⟩
      obtain ⟨⟨a, dv⟩, rfl⟩ : ∃ q : Act × Value, y = q := ⟨y, rfl⟩
      obtain ⟨b0, o0, dA, dc, rfl, hb0, e2, hU, a0, a1, a2, a3, a4, a5, a6, a7, a8, a9, a10⟩ := RdP.at2 HK.out hy HBw.out
      dsimp only at e2 hU a0 a1 a2 a3 a4 a5 a6 a7 a8 a9 a10
      subst e2
      have HY := Lib.hid hy
      clear hy hCr hU
      by_cases h20 : a.data.length ≤ 20
      · have dD : decide ((20 : Int) < (a.data.length : Int)) = false := decide_eq_false (by omega)
        have HD1 : Hid (∀ y ∈ L.take (i + 1), y.1.data.length ≤ 20) := by
          intro q hq
          rw [List.take_add_one, HY.out] at hq
          rcases List.mem_append.1 hq with hq | hq
          · exact HD.out q hq
          · simp at hq; subst hq; exact h20
        clear h20
        go_wp2_with fail
        refine (plain_any wr a dA a.data.length dc).mono ?_
        rintro e wP ⟨rfl, hbP⟩
        have hOP : wP.ownsRow (w2.heap.size + 1) 38 11 (.slice A i cap) i (flatK (L.take i)) := own_only HO.out (Only.of_below (F := fun _ => False) hbP (Nat.le_refl _)) (fun _ _ e => e)
        have HOP := Lib.hid hOP
        have HBP := Lib.hid (HB.out.trans (hbP.mono hwr))
        have hwP : w2.heap.size + 1 ≤ wP.heap.size := by have := hbP.size; omega
        clear hOP hbP a0 a1 a2 a3 a4 a5 a6 a7 a8 a9 a10
        go_wp2_with (at_builtin; refine wpList_append_own _ rfl (.tmp 46) (.tmp 52) 29 rfl (w2.heap.size + 1) 38 k0 _ 11 88 Tryd.underlying29 hk hy0 hy1 hy2 rfl (by decide) _ _ _ rfl (HOP.out.alloc _) ⟨wP.heap.size, 0, none⟩ 1 1 [.int .i64 a.x.who, .int .i64 a.x.obj, .int .i64 a.x.call, .int .i64 a.x.part, .int .u32 a.x.arg, .int .u32 a.x.val, .int .i64 a.site, .int .i64 a.at_, .bool a.ended, .int .u32 a.res, .slice dA a.data.length dc] rfl rfl (World.news_of_block (heap_alloc_new _ _)) (by simp [Value.oneCell']) (by unfold maxLen; omega) (by omega) (by simp; omega) ?_; intro v' w6 ho hgr hat)
        refine ⟨⟨i + 1, by omega, by simp, ?_, ?_, HD1⟩, by simp [intOf]; omega⟩
        · show World.ownsRow _ _ _ _ _ _ _
          rw [List.take_add_one, HY.out, Option.toList_some, flatK_snoc]
          exact ho
        · exact (HBP.out.alloc hwP _).grown hgr (by simp; omega) (fun k hk => by have := (HOP.out.lt k hk).1; simpa using this)
      · have dD : decide ((20 : Int) < (a.data.length : Int)) = true := decide_eq_true (by omega)
        clear h20
        go_wp2_with fail
        go_ret
        exact ⟨rfl, HBw.out⟩
    · have hie : i = n := by omega
      subst hie
      have hO : wr.ownsRow (w2.heap.size + 1) 38 11 (.slice A i cap) i (flatK L) := by have h := HO.out; rwa [List.take_of_length_le (by omega)] at h
      have hD : ∀ y ∈ L, y.1.data.length ≤ 20 := by have h := HD.out; rwa [List.take_of_length_le (by omega)] at h
      have HO := Lib.hid hO
      have HD := Lib.hid hD
      clear hO hD
      have hx2 : ∀ a ∈ L.map (·.1), 0 ≤ a.x.arg ∧ a.x.arg ≤ 4294967295 ∧ a.data.length ≤ 20 := by
        intro a ha
        obtain ⟨y, hy, rfl⟩ := List.mem_map.1 ha
        exact ⟨(HX.out y hy).1, (HX.out y hy).2, HD.out y hy⟩
      have HX2 := Lib.hid hx2
      have HCR := Lib.hid hCr
      obtain ⟨v0, v1, v2, v3, v4⟩ := cells5 hCr
      obtain ⟨r, hr⟩ : ∃ r, r = (if NewOk (th : Int) obs then judgeM (th : Int) (obs.map St.new) (L.map (·.1)) 0 else 0) := ⟨_, rfl⟩
      have hj : Calls Tryd.prog 6 #[.agg #[.slice oA m oc, .int .i64 0, .slice none 0 0, .int .i64 1, .slice (some ⟨w1.heap.size, 0, none⟩) th th], .slice kA i kc] wr fun e w' => e = .returned (.int .i64 r) ∧ Below wr.heap.size wr w' := by
        rw [hr]
        have hb := HB3.out.trans (HB.out.mono (Nat.le_succ _))
        exact judge_any wr (HT2.out.below hb (Nat.le_refl _)) _ (.slice none 0 0) _ 0 1 (some ⟨w1.heap.size, 0, none⟩) th th m i obs _ (HI.out.below HBw.out (Nat.le_refl _)) (by omega) ((RdP.rdK HK.out).below HBw.out (Nat.le_refl _)) (by omega) hx2 (by omega)
      have HJ := Lib.hid hj
      have HR := Lib.hid hr
      clear hj hr hx2 hCr
      go_wp2_with fail
      refine HJ.out.mono ?_
      rintro e w4 ⟨rfl, hb4⟩
      have HB4 := Lib.hid (HBw.out.trans (hb4.mono HBw.out.size))
      have hC4 : w4.heap[w2.heap.size]? = some (.cells #[.slice oA m oc, .int .i64 0, .slice none 0 0, .int .i64 1, .slice (some ⟨w1.heap.size, 0, none⟩) th th] 28 (0, 0)) := (hb4.block _ hw1).trans HCR.out
      have HT4 := Lib.hid ((HT2.out.below (HB3.out.trans (HB.out.mono (Nat.le_succ _))) (Nat.le_refl _)).below hb4 (Nat.le_refl _))
      clear v0 v1 v2 v3 v4
      obtain ⟨v0, v1, v2, v3, v4⟩ := cells5 hC4
      have HC4 := Lib.hid hC4
      have HBr4 := Lib.hid hb4
      clear hC4 hb4
      have hnew := newCode_any w4 HT4.out (.slice oA m oc) m obs (HI.out.below HB4.out (Nat.le_refl _)) (by omega) (th : Int)
      by_cases hok : NewOk (th : Int) obs
      · rw [if_pos hok] at hnew
        have HR1 : Hid (r = judgeR (th : Int) obs [] (L.map (·.1)) 0) := by
          show r = _
          rw [HR.out, if_pos hok, judge_same hok.2.2]
        clear hok
        have hrf : ∀ W, Below w4.heap.size w4 W → Calls Tryd.prog 8 #[.agg #[.slice oA m oc, .int .i64 0, .slice none 0 0, .int .i64 1, .slice (some ⟨w1.heap.size, 0, none⟩) th th], .slice A i cap] W fun e w' => e = .returned (.int .i64 r) ∧ Below W.heap.size W w' := fun W hW => by
          rw [HR1.out]
          have h4 := HBr4.out.trans (hW.mono HBr4.out.size)
          have hbW := HBw.out.trans (h4.mono HBw.out.size)
          exact judge26_any W _ (.slice none 0 0) _ 0 1 (some ⟨w1.heap.size, 0, none⟩) th th m i obs _ (HI.out.below hbW (Nat.le_refl _)) (by omega) (rdK_of_rd hkl ((Rd.of_own HO.out).below h4 (Nat.le_refl _)) (fun y hy => by
            obtain ⟨j, hj⟩ := List.mem_iff_getElem?.1 hy
            obtain ⟨_, _, _, _, _, _, _, hU, _⟩ := RdP.at2 HK.out hj hbW
            exact hU.below hbW (Nat.le_refl _))) (by omega) HX2.out (by omega)
        have HRF := Lib.hid hrf
        clear hrf
        go_wp2_with (first
          | (go_at_call 7; refine hnew.mono ?_; rintro e w5 ⟨⟨p, rfl⟩, hb5⟩; obtain ⟨y0, y1, y2, y3, y4⟩ := cells5 ((hb5.block _ (Nat.lt_of_lt_of_le hw1 HBr4.out.size)).trans HC4.out))
          | (go_at_call 8; refine (HRF.out _ hb5).mono ?_; rintro e w6 ⟨rfl, hb6⟩))
        go_ret
        have h5 := HB4.out.trans (hb5.mono HB4.out.size)
        exact ⟨by simp, h5.trans (hb6.mono h5.size)⟩
      · rw [if_neg hok] at hnew
        have hr0 : r = 0 := by rw [HR.out, if_neg hok]
        subst hr0
        clear hok
        go_wp2_with (go_at_call 7; refine hnew.mono ?_; rintro e w5 ⟨⟨p, rfl⟩, hb5⟩)
        go_ret
        exact ⟨rfl, HB4.out.trans (hb5.mono HB4.out.size)⟩
theorem histJudges_any (w : World) (T : TabO w) (ov kv : Value) (tb m n : Nat) (obs : List Ob) (L : List (Act × Value)) (hI : InO w ov m obs) (hK : RdP w kv n L) (hx : ∀ y ∈ L, 0 ≤ y.1.x.arg ∧ y.1.x.arg ≤ 4294967295) (htb : tb ≤ 255) :
    Calls Tryd.prog 3 #[ov, .int .u8 tb, kv] w fun e w' => e = .returned (.bool true) ∧ Below w.heap.size w w' := by
  by_cases h : 20 < m ∨ 300 < n
  · exact histJudges_far w T ov kv tb m n obs L hI hK h
  · exact histJudges_near w T ov kv tb m n obs L hI hK hx (by omega) (by omega) htb

end Go.Proofs.YtfemeiopfpblaaaDoor.As
