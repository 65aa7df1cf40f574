/- The walk of the package asm: a builder's At. -/
import Derived.Test.YtlopmejmionnpaaDoorAsmB2
import Derived.Test.YtlopmejmionnpaaDoorAsmMem2
set_option linter.unusedVariables false
namespace Go.Proofs.YtlopmejmionnpaaDoor.As
open Go.RowKit

theorem lawS : Maps.Keyed Tryd.prog 9 := Maps.string_keyed Tryd.underlying9
theorem zeroE (w : World) : (zeroValue 3).run Tryd.prog w = .ok (.int .i64 0) w := by kernel_rfl

theorem at_yes (s : BS) (nm : B8) (h : (s.find nm).isSome = true) : s.at_ nm = { s with bad := true } := by unfold BS.at_; rw [if_pos (by simp [h])]
theorem at_bad (s : BS) (nm : B8) (h : nameOk nm = false) : s.at_ nm = { s with bad := true } := by unfold BS.at_; rw [if_pos (by simp [h])]
theorem at_put (s : BS) (nm : B8) (h : s.find nm = none) (h' : nameOk nm = true) : s.at_ nm = { s with places := s.places ++ [(nm, s.code.length)] } := by unfold BS.at_; rw [if_neg (by simp [h, h'])]

set_option maxRecDepth 100000 in
set_option maxHeartbeats 1000000 in
/-- The map is there. -/
theorem at_some (w : World) (g mb n : Nat) (s : BS) (F : Nat → Prop) (nm : ByteArray) (hnm : nm.size ≤ maxLen) (cv lv : Value) (D : DataW Unit) (HG : Hid s.Good) (hn : s.code.length < 1000000) (hp : s.places.length < 1000000)
    (HGG : Hid (w.heap[g]? = some (.cells #[cv, .map (some mb), lv, .bool s.bad] 43 (0, 0)))) (HO : Hid (w.ownsRow 0 34 5 cv s.code.length (flat s.code)))
    (HL : Hid (w.ownsRow 0 77 2 lv s.links.length (flatL s.links))) (HM : Hid (w.ownsMap Tryd.prog 9 (plainElem Tryd.prog 3) mb n D)) (HNP : Hid (n ≤ s.places.length)) (HD : Hid (DReads D s.find))
    (HF : Hid (∀ k, F k ↔ (k = g ∨ cv.ownBlock = some k ∨ lv.ownBlock = some k ∨ mapBlock (.map (some mb)) = some k))) :
    Calls Tryd.prog 20 #[.pointer (some ⟨g, 0, none⟩), .string nm] w (BPost w g F (s.at_ nm.data.toList)) := by
  have hnp0 := HNP.out
  have MEM := Lib.hid (show Mem w g s F from ⟨cv, .map (some (mb)), lv, HGG.out, HO.out, HL.out, .inr ⟨mb, n, D, rfl, HM.out, HNP.out, HD.out⟩, HF.out⟩)
  have c0 := cell_of_row w g 0 _ _ _ HGG.out
  have c1 := cell_of_row w g 1 _ _ _ HGG.out
  have c3 := cell_of_row w g 3 _ _ _ HGG.out
  have f1 := frozen_of_row w g 1 _ _ HGG.out
  have f3 := frozen_of_row w g 3 _ _ HGG.out
  simp at c0 c1 c3
  have hltW : g < w.heap.size := (Array.getElem?_eq_some_iff.1 HGG.out).1
  have hhas := (HD.out.2 nm.data.toList).1
  cases hf : s.find nm.data.toList with
  | some k =>
    have HA := Lib.hid (at_yes s nm.data.toList (by rw [hf]; rfl))
    rw [hf] at hhas
    simp only [Option.isSome] at hhas
    clear hf
    go_enter Tryd.func20, Tryd.ntmps20
    have hne : ∀ W, (binOp .eql 40 (.map (some mb)) (.map none)).run Tryd.prog W = .ok (.bool false) W := fun W => run_eql_map_nil W _ _ _ (some mb) Tryd.underlying40
    rw [HA.out]
    go_wp2_with (at_lookup; refine wpList_lookup_own_ok_int _ rfl _ _ 40 rfl 9 3 .i64 lawS Tryd.underlying40 Tryd.underlying3 (zeroE _) (mb) (n) (D) rfl HM.out _ _ rfl (_root_.Go.WideMaps.keyOf_string_mk Tryd.underlying9 hnm) ?_; intro c hat hwc)
    clear hat hwc
    go_wp2_with fail
    go_end0
    obtain ⟨hm3, hs3⟩ := mem_bad MEM.out
    exact ⟨rfl, _, ⟨good_bad s HG.out, hm3⟩, hs3⟩
  | none =>
    have hfn := Lib.hid hf
    rw [hf] at hhas
    simp only [Option.isSome] at hhas
    clear hf
    cases hok : nameOk nm.data.toList with
    | false =>
      have HA := Lib.hid (at_bad s nm.data.toList hok)
      have HK := Lib.hid hok
      clear hok
      go_enter Tryd.func20, Tryd.ntmps20
      have hne : ∀ W, (binOp .eql 40 (.map (some mb)) (.map none)).run Tryd.prog W = .ok (.bool false) W := fun W => run_eql_map_nil W _ _ _ (some mb) Tryd.underlying40
      rw [HA.out]
      go_wp2_with (at_lookup; refine wpList_lookup_own_ok_int _ rfl _ _ 40 rfl 9 3 .i64 lawS Tryd.underlying40 Tryd.underlying3 (zeroE _) (mb) (n) (D) rfl HM.out _ _ rfl (_root_.Go.WideMaps.keyOf_string_mk Tryd.underlying9 hnm) ?_; intro c hat hwc)
      clear hat hwc
      go_wp2_with fail
      refine (name_any _ nm hnm).mono ?_; rintro e w1 ⟨rfl, hb1⟩
      rw [HK.out]
      have k3 := (hb1.cell (p := ⟨g, 3, none⟩) hltW).trans c3
      have k4 := (hb1.frozen (p := ⟨g, 3, none⟩) hltW).trans f3
      have MEM1 := Lib.hid (mem_below MEM.out hb1 (Nat.le_refl _))
      go_wp2_with fail
      go_end0
      obtain ⟨hm3, hs3⟩ := mem_bad MEM1.out
      exact ⟨rfl, _, ⟨good_bad s HG.out, hm3⟩, (Step.of_below hb1 (Nat.le_refl _)).trans hs3⟩
    | true =>
      have HA := Lib.hid (at_put s nm.data.toList hfn.out hok)
      have HK := Lib.hid hok
      clear hok
      go_enter Tryd.func20, Tryd.ntmps20
      have hne : ∀ W, (binOp .eql 40 (.map (some mb)) (.map none)).run Tryd.prog W = .ok (.bool false) W := fun W => run_eql_map_nil W _ _ _ (some mb) Tryd.underlying40
      rw [HA.out]
      go_wp2_with (at_lookup; refine wpList_lookup_own_ok_int _ rfl _ _ 40 rfl 9 3 .i64 lawS Tryd.underlying40 Tryd.underlying3 (zeroE _) (mb) (n) (D) rfl HM.out _ _ rfl (_root_.Go.WideMaps.keyOf_string_mk Tryd.underlying9 hnm) ?_; intro c hat hwc)
      clear hat hwc
      go_wp2_with fail
      refine (name_any _ nm hnm).mono ?_; rintro e w1 ⟨rfl, hb1⟩
      rw [HK.out]
      have k0 := (hb1.cell (p := ⟨g, 0, none⟩) hltW).trans c0
      have k1 := (hb1.cell (p := ⟨g, 1, none⟩) hltW).trans c1
      have HO1 := Lib.hid (own_only HO.out (Only.of_below (F := fun _ => False) hb1 (Nat.le_refl _)) (fun _ _ => id))
      have HL1 := Lib.hid (own_only HL.out (Only.of_below (F := fun _ => False) hb1 (Nat.le_refl _)) (fun _ _ => id))
      have hm1 : w1.ownsMap (H := Unit) Tryd.prog 9 (plainElem Tryd.prog 3) (mb) (n) (D) := by
        obtain ⟨es, cl, hb, r⟩ := HM.out
        exact ⟨es, cl, (hb1.block (mb) (Array.getElem?_eq_some_iff.1 hb).1).trans hb, r⟩
      have HGG1 := Lib.hid ((hb1.block g hltW).trans HGG.out)
      have hnn : (n) < maxLen := by unfold maxLen; omega
      obtain ⟨ca, cc, rfl⟩ : ∃ ca cc, cv = .slice ca s.code.length cc := by
        rcases HO.out.2 with ⟨rfl, hm0⟩ | ⟨g', cap, cur, rfl, _⟩
        · exact ⟨none, 0, by rw [hm0]⟩
        · exact ⟨_, _, rfl⟩
      go_wp2_with fail
      go_still_tail 10, (by kernel_rfl)
      change wpList _ _ _ _ _ w1.drew
      refine wpList_mapUpdate_own _ rfl _ _ _ 40 rfl 9 3 lawS Tryd.underlying40 _ (mb) (n) (D) rfl hm1.drew hnn _ _ _ rfl rfl (_root_.Go.WideMaps.keyOf_string_mk Tryd.underlying9 hnm) _ [] (plainElem_int Tryd.underlying3 (WalkArith.wf_i64 (by omega))) ?_
      intro w2 hm2 hgr
      go_wp2_with fail
      go_end0
      obtain ⟨hM, hS⟩ := mem_put HGG1.out HO1.out HL1.out hm1 HNP.out HD.out hfn.out HF.out hm2 ⟨hgr.os, hgr.tape, hgr.output, hgr.size, hgr.block⟩
      exact ⟨rfl, _, ⟨good_put s _ HG.out, hM⟩, (Step.of_below hb1 (Nat.le_refl _)).trans hS⟩
set_option maxRecDepth 100000 in
set_option maxHeartbeats 1000000 in
/-- No map yet: one is made. -/
theorem at_none (w : World) (g : Nat) (s : BS) (F : Nat → Prop) (nm : ByteArray) (hnm : nm.size ≤ maxLen) (cv lv : Value) (HG : Hid s.Good) (hn : s.code.length < 1000000) (hp : s.places = [])
    (hg : w.heap[g]? = some (.cells #[cv, .map none, lv, .bool s.bad] 43 (0, 0))) (HO0 : w.ownsRow 0 34 5 cv s.code.length (flat s.code))
    (HL0 : w.ownsRow 0 77 2 lv s.links.length (flatL s.links)) (HF0 : ∀ k, F k ↔ (k = g ∨ cv.ownBlock = some k ∨ lv.ownBlock = some k ∨ mapBlock (.map none) = some k)) :
    Calls Tryd.prog 20 #[.pointer (some ⟨g, 0, none⟩), .string nm] w (BPost w g F (s.at_ nm.data.toList)) := by
  obtain ⟨F1, hS1, hg1, hO1, hL1, hm1, hF1⟩ := mem_make hg HO0 HL0 hp HF0
  have a1 := cell_of_row w g 1 _ _ _ hg
  have b1 := frozen_of_row w g 1 _ _ hg
  simp at a1
  have hlt : g < w.heap.size := (Array.getElem?_eq_some_iff.1 hg).1
  rw [World.setCell_alloc_past _ _ _ _ hlt] at hS1 hg1 hO1 hL1 hm1
  obtain ⟨W, hW⟩ : ∃ W, W = (w.setCell ⟨g, 1, none⟩ (.map (some w.heap.size))).alloc (.map #[] 0) := ⟨_, rfl⟩
  rw [← hW] at hg1 hO1 hL1 hm1 hS1
  have HW := Lib.hid hW
  have HS1 := Lib.hid hS1
  have HGG := Lib.hid hg1
  have HO := Lib.hid hO1
  have HL := Lib.hid hL1
  have HM := Lib.hid hm1
  have HF := Lib.hid hF1
  have HD := Lib.hid (dreads_nil s hp)
  have HNP := Lib.hid (Nat.zero_le s.places.length)
  clear HO0 HL0 HF0 hg1 hO1 hL1 hm1 hF1 hS1 hp hW hg
  have hmm := @run_makeMap Tryd.prog
  have MEM := Lib.hid (show Mem W g s F1 from ⟨cv, .map (some (w.heap.size)), lv, HGG.out, HO.out, HL.out, .inr ⟨w.heap.size, 0, .map [], rfl, HM.out, HNP.out, HD.out⟩, HF.out⟩)
  have c0 := cell_of_row W g 0 _ _ _ HGG.out
  have c1 := cell_of_row W g 1 _ _ _ HGG.out
  have c3 := cell_of_row W g 3 _ _ _ HGG.out
  have f1 := frozen_of_row W g 1 _ _ HGG.out
  have f3 := frozen_of_row W g 3 _ _ HGG.out
  simp at c0 c1 c3
  have hltW : g < W.heap.size := (Array.getElem?_eq_some_iff.1 HGG.out).1
  have hhas := (HD.out.2 nm.data.toList).1
  cases hf : s.find nm.data.toList with
  | some k =>
    have HA := Lib.hid (at_yes s nm.data.toList (by rw [hf]; rfl))
    rw [hf] at hhas
    simp only [Option.isSome] at hhas
    clear hf
    go_enter Tryd.func20, Tryd.ntmps20
    have hne : ∀ W, (binOp .eql 40 (.map none) (.map none)).run Tryd.prog W = .ok (.bool true) W := fun W => run_eql_map_nil W _ _ _ none Tryd.underlying40
    rw [HA.out]
    go_wp2_with (at_lookup; rw [← HW.out]; refine wpList_lookup_own_ok_int _ rfl _ _ 40 rfl 9 3 .i64 lawS Tryd.underlying40 Tryd.underlying3 (zeroE _) (w.heap.size) (0) (.map []) rfl HM.out _ _ rfl (_root_.Go.WideMaps.keyOf_string_mk Tryd.underlying9 hnm) ?_; intro c hat hwc)
    clear hat hwc
    go_wp2_with fail
    go_end0
    obtain ⟨hm3, hs3⟩ := mem_bad MEM.out
    exact ⟨rfl, _, ⟨good_bad s HG.out, hm3⟩, (HS1.out).trans (hs3)⟩
  | none =>
    have hfn := Lib.hid hf
    rw [hf] at hhas
    simp only [Option.isSome] at hhas
    clear hf
    cases hok : nameOk nm.data.toList with
    | false =>
      have HA := Lib.hid (at_bad s nm.data.toList hok)
      have HK := Lib.hid hok
      clear hok
      go_enter Tryd.func20, Tryd.ntmps20
      have hne : ∀ W, (binOp .eql 40 (.map none) (.map none)).run Tryd.prog W = .ok (.bool true) W := fun W => run_eql_map_nil W _ _ _ none Tryd.underlying40
      rw [HA.out]
      go_wp2_with (at_lookup; rw [← HW.out]; refine wpList_lookup_own_ok_int _ rfl _ _ 40 rfl 9 3 .i64 lawS Tryd.underlying40 Tryd.underlying3 (zeroE _) (w.heap.size) (0) (.map []) rfl HM.out _ _ rfl (_root_.Go.WideMaps.keyOf_string_mk Tryd.underlying9 hnm) ?_; intro c hat hwc)
      clear hat hwc
      go_wp2_with fail
      refine (name_any _ nm hnm).mono ?_; rintro e w1 ⟨rfl, hb1⟩
      rw [HK.out]
      have k3 := (hb1.cell (p := ⟨g, 3, none⟩) hltW).trans c3
      have k4 := (hb1.frozen (p := ⟨g, 3, none⟩) hltW).trans f3
      have MEM1 := Lib.hid (mem_below MEM.out hb1 (Nat.le_refl _))
      go_wp2_with fail
      go_end0
      obtain ⟨hm3, hs3⟩ := mem_bad MEM1.out
      exact ⟨rfl, _, ⟨good_bad s HG.out, hm3⟩, (HS1.out).trans ((Step.of_below hb1 (Nat.le_refl _)).trans hs3)⟩
    | true =>
      have HA := Lib.hid (at_put s nm.data.toList hfn.out hok)
      have HK := Lib.hid hok
      clear hok
      go_enter Tryd.func20, Tryd.ntmps20
      have hne : ∀ W, (binOp .eql 40 (.map none) (.map none)).run Tryd.prog W = .ok (.bool true) W := fun W => run_eql_map_nil W _ _ _ none Tryd.underlying40
      rw [HA.out]
      go_wp2_with (at_lookup; rw [← HW.out]; refine wpList_lookup_own_ok_int _ rfl _ _ 40 rfl 9 3 .i64 lawS Tryd.underlying40 Tryd.underlying3 (zeroE _) (w.heap.size) (0) (.map []) rfl HM.out _ _ rfl (_root_.Go.WideMaps.keyOf_string_mk Tryd.underlying9 hnm) ?_; intro c hat hwc)
      clear hat hwc
      go_wp2_with fail
      refine (name_any _ nm hnm).mono ?_; rintro e w1 ⟨rfl, hb1⟩
      rw [HK.out]
      have k0 := (hb1.cell (p := ⟨g, 0, none⟩) hltW).trans c0
      have k1 := (hb1.cell (p := ⟨g, 1, none⟩) hltW).trans c1
      have HO1 := Lib.hid (own_only HO.out (Only.of_below (F := fun _ => False) hb1 (Nat.le_refl _)) (fun _ _ => id))
      have HL1 := Lib.hid (own_only HL.out (Only.of_below (F := fun _ => False) hb1 (Nat.le_refl _)) (fun _ _ => id))
      have hm1 : w1.ownsMap (H := Unit) Tryd.prog 9 (plainElem Tryd.prog 3) (w.heap.size) (0) (.map []) := by
        obtain ⟨es, cl, hb, r⟩ := HM.out
        exact ⟨es, cl, (hb1.block (w.heap.size) (Array.getElem?_eq_some_iff.1 hb).1).trans hb, r⟩
      have HGG1 := Lib.hid ((hb1.block g hltW).trans HGG.out)
      have hnn : (0) < maxLen := by unfold maxLen; omega
      obtain ⟨ca, cc, rfl⟩ : ∃ ca cc, cv = .slice ca s.code.length cc := by
        rcases HO.out.2 with ⟨rfl, hm0⟩ | ⟨g', cap, cur, rfl, _⟩
        · exact ⟨none, 0, by rw [hm0]⟩
        · exact ⟨_, _, rfl⟩
      go_wp2_with fail
      go_still_tail 10, (by kernel_rfl)
      change wpList _ _ _ _ _ w1.drew
      refine wpList_mapUpdate_own _ rfl _ _ _ 40 rfl 9 3 lawS Tryd.underlying40 _ (w.heap.size) (0) (.map []) rfl hm1.drew hnn _ _ _ rfl rfl (_root_.Go.WideMaps.keyOf_string_mk Tryd.underlying9 hnm) _ [] (plainElem_int Tryd.underlying3 (WalkArith.wf_i64 (by omega))) ?_
      intro w2 hm2 hgr
      go_wp2_with fail
      go_end0
      obtain ⟨hM, hS⟩ := mem_put HGG1.out HO1.out HL1.out hm1 HNP.out HD.out hfn.out HF.out hm2 ⟨hgr.os, hgr.tape, hgr.output, hgr.size, hgr.block⟩
      exact ⟨rfl, _, ⟨good_put s _ HG.out, hM⟩, (HS1.out).trans ((Step.of_below hb1 (Nat.le_refl _)).trans hS)⟩
theorem at_any (w : World) (g : Nat) (s : BS) (F : Nat → Prop) (h : Bld w g s F) (hn : s.code.length < 1000000) (hp : s.places.length < 1000000) (nm : ByteArray) (hnm : nm.size ≤ maxLen) :
    Calls Tryd.prog 20 #[.pointer (some ⟨g, 0, none⟩), .string nm] w (BPost w g F (s.at_ nm.data.toList)) := by
  obtain ⟨hgood, cv, pv, lv, hg, hown, hlinks, hpl, hF⟩ := h
  rcases hpl with ⟨rfl, hz⟩ | ⟨mb, n, D, rfl, hm, hnp, hd⟩
  · exact at_none w g s F nm hnm cv lv (Lib.hid hgood) hn hz hg hown hlinks hF
  · exact at_some w g mb n s F nm hnm cv lv D (Lib.hid hgood) hn hp (Lib.hid hg) (Lib.hid hown) (Lib.hid hlinks) (Lib.hid hm) (Lib.hid hnp) (Lib.hid hd) (Lib.hid hF)
end Go.Proofs.YtlopmejmionnpaaDoor.As
