/- The walks of the package asm: a text is read. -/
import Derived.Test.YtlopmejmionnpaaDoorPaM
set_option linter.unusedVariables false
set_option linter.unusedSimpArgs false
namespace Go.Proofs.YtlopmejmionnpaaDoor.As
open Go.RowKit

theorem dreads_none : DReads (.map []) (fun _ => none) := ⟨⟨_, rfl⟩, fun x => ⟨rfl, fun n h => by cases h⟩⟩
theorem dreads_put2 {D : DataW Unit} {f : B8 → Option Nat} (h : DReads D f) (name : B8) (n : Nat) : DReads (D.put (.string name) (.lit (.int .i64 n))) (fun nm => if nm = name then some n else f nm) := by
  refine ⟨h.1.put _ _, fun x => ?_⟩
  show Maps.has _ _ = (if x = name then some n else f x).isSome ∧ ∀ m, (if x = name then some n else f x) = some m → ∀ z, DataW.atKey _ _ z = _
  by_cases e : x = name
  · subst e
    rw [if_pos rfl]
    exact ⟨Maps.has_put_same h.1 (by simp [WideAt.IsKeyLit]) _, fun m hm z => by
      injection hm with hm
      subst hm
      exact Maps.atKey_put_same h.1 (by simp [WideAt.IsKeyLit]) _ _⟩
  · rw [if_neg e]
    have hne : (Lit.string x) ≠ Lit.string name := by intro e'; injection e' with e'; exact e e'
    exact ⟨by rw [Maps.has_put_other hne]; exact (h.2 x).1, fun m hm z => by rw [Maps.atKey_put_other hne]; exact (h.2 x).2 m hm z⟩
theorem pm_skip {w1 wr : World} {mb n : Nat} {ws : List B8} {out : List Ins} {ov jv : Value} (h : PM w1 wr mb (findP ws n) n out (jmps ws n) ov jv) (h1 : findP ws (n + 1) = findP ws n) (h2 : jmps ws (n + 1) = jmps ws n) :
    PM w1 wr mb (findP ws (n + 1)) (n + 1) out (jmps ws (n + 1)) ov jv := by
  rw [h1, h2]; exact h.mono (by omega)
theorem jmpOf_no {ws : List B8} {n : Nat} (h : isI (ws.getD n []) = false) : jmps ws (n + 1) = jmps ws n := by
  rw [jmps]; unfold jmpOf; rw [h]; simp
theorem pm_put {w1 wr wr' : World} {mb n : Nat} {ws : List B8} {out : List Ins} {ov jv : Value} {nm : B8} {cnt : Nat} {D : DataW Unit} (h : PM w1 wr mb (findP ws n) n out (jmps ws n) ov jv) (hn : n < ws.length) (hlast : ws.getD n [] = nm ++ [58]) (hf : findP ws n nm = none) (hl : out.length = cntI ws n)
    (hm : wr.ownsMap Tryd.prog 9 (plainElem Tryd.prog 3) mb cnt D) (hc : cnt ≤ n) (hd : DReads D (findP ws n))
    (hm' : wr'.ownsMap Tryd.prog 9 (plainElem Tryd.prog 3) mb (cnt + 1) (D.put (.string nm) (.lit (.int .i64 out.length)))) (hg : wr.grownBy wr' (some mb)) : PM w1 wr' mb (findP ws (n + 1)) (n + 1) out (jmps ws (n + 1)) ov jv := by
  rw [findP_put ws n hn nm hlast hf, jmpOf_no (isI_no (.inr (by rw [hlast]; simp)))]
  rw [hl] at hm'
  exact h.put hm hc _ _ (dreads_put2 hd nm (cntI ws n)) hm' hg
theorem jmpOf_out {ws : List B8} {n : Nat} {x : Ins × B8} (hr : readB (ws.getD n []) = some x) (h : jumps x.1.op = false) : jmps ws (n + 1) = jmps ws n := by
  rw [jmps]; unfold jmpOf; rw [hr]; simp only []; rw [hasB_jumps, h]; simp
theorem jmpOf_yes {ws : List B8} {n : Nat} {x : Ins × B8} (hi : isI (ws.getD n []) = true) (hr : readB (ws.getD n []) = some x) (h : jumps x.1.op = true) : jmps ws (n + 1) = jmps ws n ++ [⟨cntI ws n, n + 1, x.2⟩] := by
  rw [jmps]; unfold jmpOf; rw [hi, hr]; simp only [if_true]; rw [hasB_jumps, h]; rfl
theorem runJ1_nil {ws : List B8} {j : Jmp} {cur : List Ins} {x : Ins} (hto : j.to = []) (hx : cur[j.at_]? = some x) : runJ1 ws j cur = if (cur.length : Int) < x.k then .error (j.line, 5) else .ok cur := by
  unfold runJ1
  rw [if_neg (fun h => h.1 hto)]
  simp only [if_pos hto]
  rw [List.getD_eq_getElem?_getD, hx]; rfl
theorem runJ1_to {ws : List B8} {j : Jmp} {cur : List Ins} {x : Ins} (hto : j.to ≠ []) (hx : cur[j.at_]? = some x) :
    runJ1 ws j cur = if placeB ws j.to < 0 then .error (j.line, 5) else if (cur.length : Int) < placeB ws j.to then .error (j.line, 5) else .ok (cur.set j.at_ { x with k := placeB ws j.to }) := by
  have hl : j.at_ < cur.length := (List.getElem?_eq_some_iff.1 hx).1
  unfold runJ1
  by_cases hp : placeB ws j.to < 0
  · rw [if_pos ⟨hto, hp⟩, if_pos hp]
  · rw [if_neg (fun h => hp h.2), if_neg hp]
    simp only [if_neg hto]
    rw [modify_set cur j.at_ x _ hx, List.getD_eq_getElem?_getD, List.getElem?_set_self hl]
    rfl
/-- A jump's place is laid. -/
theorem PM.kset {w1 wr : World} {mb n at_ : Nat} {f : B8 → Option Nat} {cur : List Ins} {js : List Jmp} {ob oc : Nat} {jv : Value} {x : Ins} (h : PM w1 wr mb f n cur js (.slice (some ⟨ob, 0, none⟩) cur.length oc) jv) (hx : cur[at_]? = some x) (P : Int) :
    PM w1 (wr.setCell ⟨ob, at_ * 5 + 4, none⟩ (.int .u32 P)) mb f n (cur.set at_ { x with k := P }) js (.slice (some ⟨ob, 0, none⟩) cur.length oc) jv := by
  obtain ⟨o, j, ⟨cnt, D, a, b, c⟩, d, e⟩ := h
  have hob := (o.lt ob rfl).1
  have hne : mb ≠ ob := by omega
  refine ⟨?_, ?_, ⟨cnt, D, a, map_of_blk b (heap_setCell_other _ _ _ _ hne), c⟩, ⟨d.os, d.tape, d.output, by simpa [World.setCell] using d.size, fun k hk hn => (heap_setCell_other _ _ _ _ (show k ≠ ob by omega)).trans (d.block k hk hn)⟩, e⟩
  · have := o.stored (at_ * 5 + 4) (.int .u32 P)
    rw [List.length_set, flat_setK cur at_ x P hx]
    exact this.1
  · refine ownsRow_setCell_other j (fun e2 => ?_) _
    exact own_ne2 j o (by decide) ob e2 rfl
set_option maxHeartbeats 8000000 in
set_option maxRecDepth 100000 in
theorem pparse_few (w : World) (s : ByteArray) (hm : s.size ≤ 20000) (T : TabA w) (N : NamesA w) :
    Calls Tryd.prog 11 #[.string s] w fun e w' => ParsePost w (parseB s.data.toList) e w' := by
  obtain ⟨i0, hi, hz0, hz1, hz2⟩ := info_parts infoI
  obtain ⟨j0, hj, hy0, hy1, hy2⟩ := info_parts infoJ
  obtain ⟨r, hr⟩ : ∃ r, r = parseB s.data.toList := ⟨_, rfl⟩
  rw [← hr]
  have HRES := Lib.hid hr
  have HT := Lib.hid T
  have HN := Lib.hid N
  have hlen2 := splitB_len 10 s.data.toList
  rw [toList_len] at hlen2
  have hmm := @run_makeMap Tryd.prog
  clear hr T N
  go_enter Tryd.func11, Tryd.ntmps11
  go_wp2_with fail
  refine (split_one _ s 10 (by omega)).mono ?_
  rintro e w1 ⟨rfl, hw1⟩
  have hB1 : Below w.heap.size w w1 := by rw [hw1]; exact ((Below.refl _ _).alloc (Nat.le_refl _) _).alloc (by simp) _
  have hsz0 : (w.alloc (.map #[] 0)).heap.size = w.heap.size + 1 := by simp
  generalize hwse : splitB 10 s.data.toList = ws at *
  have hrd : Rd w1 1 (.slice (some ⟨w.heap.size + 1, 0, none⟩) ws.length ws.length) ws.length (ws.map str) := by
    refine ⟨_, _, rfl, Nat.le_refl _, by simp, .inr ⟨w.heap.size + 1, 0, rfl, ?_, fun j u hu => ?_⟩⟩
    · rw [hw1]; simp
    · rw [hw1, Nat.zero_add, ← hsz0, World.cell?_alloc_new]
      simpa using hu
  have hmap : w1.ownsMap (H := Unit) Tryd.prog 9 (plainElem Tryd.prog 3) w.heap.size 0 (.map []) := by
    refine map_of_blk (w := w.alloc (.map #[] 0)) ?_ ?_
    · exact World.ownsMap_made _ _ _ _
    · rw [hw1]; exact Below.heap_alloc _ _ _ (by simp)
  have hlt1 : w.heap.size + 1 < w1.heap.size := hrd.lt
  have hPM : PM w1 w1 w.heap.size (findP ws 0) 0 [] [] (.slice none 0 0) (.slice none 0 0) :=
    ⟨World.ownsRow_nil _ _ _ _, World.ownsRow_nil _ _ _ _, ⟨0, _, Nat.le_refl _, hmap, by rw [show findP ws 0 = fun _ => none from funext (findP_zero ws)]; exact dreads_none⟩, Only.refl _ _, by omega⟩
  have herr : ∀ n e, pass1 ws n = .error e → n ≤ ws.length → r = ([], e.1, e.2) := fun n e h hn => by
    rw [← hwse] at h hn
    rw [HRES.out]; exact parse_err1 (by rw [toList_len]; omega) h hn
  have HERR := Lib.hid herr
  have HRD := Lib.hid hrd
  have HB1 := Lib.hid hB1
  have HPM0 := Lib.hid hPM
  have HWSE := Lib.hid hwse
  have HLS := Lib.hid (show ∀ l ∈ ws, l.length ≤ 20000 from fun l hl => Nat.le_trans (hlen2.2 l hl) (by omega))
  have hwl : ws.length ≤ 20001 := by omega
  clear hrd hB1 hPM hwse hmap hw1 hlen2 herr hmm
  go_wp2_with fail
  go_loopw [5, 6, 28] (fun ov jv nv wr => ∃ (n : Nat) (out : List Ins), n ≤ ws.length ∧ out.length ≤ n ∧ nv = .int .i64 n ∧ Hid (pass1 ws n = .ok out) ∧ Hid (PM w1 wr w.heap.size (findP ws n) n out (jmps ws n) ov jv)) (fun _ _ n _ => ws.length - (intOf n).toNat)
  case atStart => exact ⟨0, [], by omega, by simp, rfl, Lib.hid rfl, HPM0⟩
  case round =>
    obtain ⟨n, out, hn, hon, rfl, HP, HPM⟩ := hrel
    have hmost := pass1_most HP.out
    have hbel := only_below HB1.out (Nat.le_refl _) HPM.out.only
    have HBn := Lib.hid hbel
    have HTn := Lib.hid (HT.out.below hbel (Nat.le_refl _))
    have HNn := Lib.hid (HN.out.of_blk (hbel.block _ HN.out.lt))
    have HRDn : Hid (Rd wr 1 (.slice (some ⟨w.heap.size + 1, 0, none⟩) ws.length ws.length) ws.length (ws.map str)) := Lib.hid (HRD.out.keep HPM.out.size (fun b o c e => by
      injection e with e _ _
      injection e with e
      injection e with e _
      subst e
      exact HPM.out.only.block _ hlt1 (fun e => by have e2 : w.heap.size + 1 = w.heap.size := e; omega)))
    have hsz1 := HPM.out.size
    clear hbel
    by_cases hlt : n < ws.length
    · obtain ⟨l, hl⟩ : ∃ l, ws[n]? = some l := ⟨_, List.getElem?_eq_getElem hlt⟩
      obtain ⟨bb', off', t, hA, hbb', ht, hc⟩ := word_at HRDn.out hl
      injection hA with hA; injection hA with hA1 hA2; subst hA1; subst hA2
      rw [Nat.zero_add] at hc
      have hts : t.size ≤ 20000 := by rw [← toList_len, ht]; exact HLS.out l (List.mem_of_getElem? hl)
      have hgd : ws.getD n [] = l := by rw [List.getD_eq_getElem?_getD, hl]; rfl
      have hstep := pass1_succ HP.out
      rw [hgd] at hstep
      have HGD := Lib.hid hgd
      have HTL := Lib.hid ht
      have HLT := Lib.hid hlt
      clear hl hgd
      by_cases h0 : l = []
      · have hemp : t.toList.isEmpty = true := by rw [ByteArray.toList_eq, ht, h0]; rfl
        rw [h0, lineB, if_pos rfl] at hstep
        have HSTEP := Lib.hid hstep
        have HPM2 := Lib.hid (pm_skip HPM.out (findP_keep ws n HLT.out (.inl (by rw [HGD.out, h0]))) (jmpOf_no (isI_no (.inl (by rw [HGD.out, h0])))))
        clear hstep h0 ht
        go_wp2_with fail
        exact ⟨⟨n + 1, out, by omega, by omega, by simp, HSTEP, HPM2⟩, by simp [intOf]; omega⟩
      · have hemp : t.toList.isEmpty = false := by rw [ByteArray.toList_eq, ht]; exact List.isEmpty_eq_false_iff.2 h0
        rw [lineB, if_neg h0] at hstep
        have H0 := Lib.hid h0
        clear h0 ht
        go_wp2_with fail
        refine (Tryd.strings_CutSuffix t ⟨#[58]⟩ _ (by omega)).mono ?_
        rintro e w5 ⟨he, hw5⟩
        subst hw5
        have hsx := suffix_at l
        rw [HTL.out, show (ByteArray.mk #[58]).data.toList = [58] from rfl, hsx.1] at he
        by_cases hd : l.getLast? = some 58
        · rw [hsx.2 hd, decide_eq_true hd] at he
          rw [if_pos hd] at hstep
          obtain ⟨q, hq⟩ : ∃ q : ByteArray, (⟨l.dropLast.toArray⟩ : ByteArray) = q := ⟨_, rfl⟩
          have hql : q.data.toList = l.dropLast := by rw [← hq]
          have hqs : q.size ≤ 1000000 := by
            rw [← toList_len, hql, List.length_dropLast]
            have := toList_len t
            rw [HTL.out] at this; omega
          rw [hq] at he
          subst he
          have HD := Lib.hid hd
          have HQL := Lib.hid hql
          clear hsx hd hq hql
          go_wp2_with fail
          refine (name_any _ q (by unfold maxLen; omega)).mono ?_
          rintro e w5 ⟨he, hb5⟩
          rw [HQL.out] at he
          have HPM5 := Lib.hid (HPM.out.below hb5)
          have HB5 := Lib.hid (HBn.out.trans (hb5.mono HBn.out.size))
          have hsz5 := hb5.size
          clear hb5
          cases hok : nameOk l.dropLast with
          | false =>
            rw [hok] at he hstep
            rw [if_pos rfl] at hstep
            have HR2 := Lib.hid (HERR.out _ _ hstep (by omega))
            subst he
            clear hstep hok
            go_wp2_with fail
            go_ret3
            rw [HR2.out]
            exact parse_nil HB5.out
          | true =>
            rw [hok] at he hstep
            rw [if_neg (by simp)] at hstep
            subst he
            clear hok
            obtain ⟨cnt, D, hcn, hmap5, hdr⟩ := HPM5.out.m
            have hlk := map_look hmap5 hdr q (by unfold maxLen; omega)
            rw [HQL.out] at hlk
            have HMP := Lib.hid hmap5
            have HDR := Lib.hid hdr
            clear hmap5 hdr
            by_cases hP : 0 ≤ placeB (ws.take n) l.dropLast
            · rw [if_pos hP] at hstep
              have hf : findP ws n l.dropLast = some (placeB (ws.take n) l.dropLast).toNat := by unfold findP; rw [if_pos hP]
              rw [hf] at hlk
              simp only [Option.isSome, Option.getD] at hlk
              have HR2 := Lib.hid (HERR.out _ _ hstep (by omega))
              clear hstep hP hf
              go_wp2_with fail
              go_ret3
              rw [HR2.out]
              exact parse_nil HB5.out
            · rw [if_neg hP] at hstep
              have hf : findP ws n l.dropLast = none := by unfold findP; rw [if_neg hP]
              rw [hf] at hlk
              simp only [Option.isSome, Option.getD] at hlk
              have HF := Lib.hid hf
              have HSTEP := Lib.hid hstep
              clear hstep hP hf
              obtain ⟨oA, oc, rfl⟩ := (Rd.of_own HPM5.out.o).form
              go_wp2_with (at_mapUpdate; refine wpList_mapUpdate_own _ rfl _ _ _ 40 rfl 9 3 lawS Tryd.underlying40 _ w.heap.size cnt D rfl HMP.out (by unfold maxLen; omega) _ _ _ rfl rfl (_root_.Go.WideMaps.keyOf_string_mk Tryd.underlying9 (by unfold maxLen; omega)) _ [] (plainElem_int Tryd.underlying3 (WalkArith.wf_i64 (by omega))) ?_; intro w6 hm6 hgr6)
              have hlast : ws.getD n [] = l.dropLast ++ [58] := by
                rw [HGD.out]
                obtain ⟨ys, hys⟩ := List.getLast?_eq_some_iff.1 HD.out
                rw [hys]; simp
              rw [HQL.out] at hm6
              have HPM6 := Lib.hid (pm_put HPM5.out HLT.out hlast HF.out (pass1_len HP.out) HMP.out hcn HDR.out hm6 hgr6)
              clear hm6 hgr6 hlk hlast
              go_wp2_with fail
              exact ⟨⟨n + 1, out, by omega, by omega, by simp, HSTEP, HPM6⟩, by simp [intOf]; omega⟩
        · rw [decide_eq_false hd] at he
          rw [if_neg hd] at hstep
          subst he
          have HD := Lib.hid hd
          clear hsx hd
          go_wp2_with fail
          refine (split_one _ t 32 (by omega)).mono ?_
          rintro e w6 ⟨rfl, hw6⟩
          rw [HTL.out] at hw6 ⊢
          have hwl2 := splitB_len 32 l
          have hll : l.length ≤ 20000 := by have := toList_len t; rw [HTL.out] at this; omega
          have hrd6 : Rd w6 1 (.slice (some ⟨w5.heap.size, 0, none⟩) (splitB 32 l).length (splitB 32 l).length) (splitB 32 l).length ((splitB 32 l).map str) := by
            refine ⟨_, _, rfl, Nat.le_refl _, by simp, .inr ⟨w5.heap.size, 0, rfl, ?_, fun j u hu => ?_⟩⟩
            · rw [hw6]; simp
            · rw [hw6, Nat.zero_add, World.cell?_alloc_new]
              simpa using hu
          have hb6 : Below w5.heap.size w5 w6 := by rw [hw6]; exact (Below.refl _ _).alloc (Nat.le_refl _) _
          have T6 := HTn.out.below hb6 (Nat.le_refl _)
          have N6 := HNn.out.of_blk (hb6.block _ HNn.out.lt)
          have hrdp := pread_any w6 _ (splitB 32 l) hrd6 ⟨by omega, fun A cap e => by injection e with _ _ e; omega, fun x hx => Nat.le_trans (hwl2.2 x hx) (by omega)⟩ T6 N6
          rw [readP_eq] at hrdp
          have HRDP := Lib.hid hrdp
          have HB6 := Lib.hid hb6
          clear hwl2 hll hrd6 T6 N6 hrdp hw6 hb6
          generalize splitB 32 l = wds at HRDP ⊢
          go_wp2_with fail
          refine HRDP.out.mono ?_
          rintro e w7 ⟨he, hb7⟩
          have hb57 := HB6.out.trans (hb7.mono HB6.out.size)
          have HPM7 := Lib.hid (HPM.out.below hb57)
          have hbn7 := HBn.out.trans (hb57.mono HBn.out.size)
          have HB7 := Lib.hid hbn7
          have HT7 := Lib.hid (HT.out.below hbn7 (Nat.le_refl _))
          have hsz7 := hb57.size
          have hszn := HBn.out.size
          clear hb7 hb57 hbn7 HRDP HB6
          cases hrb : readB l with
          | none =>
            rw [hrb] at hstep he
            have he2 : e = .returned (.tuple #[.agg #[.int .i64 0, .int .i64 0, .int .i64 0, .int .i64 0, .int .u32 0], .string ⟨#[]⟩, .bool false]) := he
            subst he2
            have HR2 := Lib.hid (HERR.out _ _ hstep (by omega))
            clear he hstep hrb
            go_wp2_with fail
            go_ret3
            rw [HR2.out]
            exact parse_nil (HB7.out.alloc (by omega) _)
          | some x =>
            obtain ⟨j, to⟩ := x
            rw [hrb] at hstep he
            have he2 : e = .returned (.tuple #[.agg #[.int .i64 j.op, .int .i64 j.a, .int .i64 j.b, .int .i64 j.c, .int .u32 j.k], .string ⟨to.toArray⟩, .bool true]) := he
            subst he2
            have hstep' : pass1 ws (n + 1) = if 4000 ≤ out.length then .error ((n : Int) + 1, 4) else .ok (out ++ [j]) := hstep
            have HRB := Lib.hid hrb
            clear he hstep hrb
            obtain ⟨oA, oc, rfl⟩ := (Rd.of_own HPM7.out.o).form
            by_cases h4 : 4000 ≤ out.length
            · rw [if_pos h4] at hstep'
              have HR2 := Lib.hid (HERR.out _ _ hstep' (by omega))
              have h40 : ((out.length : Int) == 4000) = true := by rw [beq_iff_eq]; omega
              clear hstep'
              go_wp2_with fail
              go_ret3
              rw [HR2.out]
              exact parse_nil (HB7.out.alloc (by omega) _)
            · rw [if_neg h4] at hstep'
              have HSTEP := Lib.hid hstep'
              have h40 : ((out.length : Int) == 4000) = false := by rw [beq_eq_false_iff_ne]; omega
              have HT8 := Lib.hid (HT7.out.below ((Below.refl w7.heap.size w7).alloc (Nat.le_refl _) (.cells #[.int .i64 j.op, .int .i64 j.a, .int .i64 j.b, .int .i64 j.c, .int .u32 j.k] 34)) (Nat.le_refl _))
              clear hstep'
              go_wp2_with fail
              refine (jumps_any _ _ HT8.out.isa).mono ?_
              rintro e w8 ⟨he, hw8⟩
              subst hw8
              have hisI : isI (ws.getD n []) = true := by rw [HGD.out]; exact isI_yes H0.out HD.out
              have hkeep := findP_keep ws n HLT.out (.inr (by rw [HGD.out]; exact HD.out))
              have HISI := Lib.hid hisI
              have HKEEP := Lib.hid hkeep
              clear hisI hkeep
              cases hjp : jumps j.op with
              | false =>
                rw [hjp] at he
                subst he
                have hjs := jmpOf_out (ws := ws) (n := n) (by rw [HGD.out]; exact HRB.out) hjp
                have HPM8 := Lib.hid (pm_skip HPM7.out HKEEP.out hjs)
                clear hjp hjs
                go_wp2_with (at_builtin; refine wpList_append_own _ rfl (.tmp 87) (.tmp 89) 23 rfl w1.heap.size 34 i0 _ 5 40 Tryd.underlying23 hi hz0 hz1 hz2 rfl (by decide) _ _ _ rfl ((HPM8.out.o.alloc _).alloc _) ⟨w7.heap.size + 1, 0, none⟩ 1 1 [.int .i64 j.op, .int .i64 j.a, .int .i64 j.b, .int .i64 j.c, .int .u32 j.k] rfl rfl (World.news_of_block (heap_alloc2_new _ _ _)) (by simp [Value.oneCell']) (by unfold maxLen; omega) (by omega) (by simp; omega) ?_; intro v' w9 ho9 hgr9 hat9)
                have hgr2 := grown_from (w := w7) hgr9 rfl rfl rfl (by simp; omega) (fun i hi' => (Below.heap_alloc _ _ _ (by simp; omega)).trans (Below.heap_alloc _ _ _ hi'))
                have HPM9 := Lib.hid (HPM8.out.oadd j ho9 hgr2)
                clear ho9 hgr9 hat9 hgr2
                go_wp2_with fail
                exact ⟨⟨n + 1, out ++ [j], by omega, by simp; omega, by simp, HSTEP, HPM9⟩, by simp [intOf]; omega⟩
              | true =>
                rw [hjp] at he
                subst he
                have hjs := jmpOf_yes (ws := ws) (n := n) HISI.out (by rw [HGD.out]; exact HRB.out) hjp
                have HJS := Lib.hid hjs
                clear hjp hjs
                have hjl := jmps_len ws n
                go_wp2_with (first | (at_builtin; refine wpList_append_own _ rfl (.tmp 78) (.tmp 85) 58 rfl w1.heap.size 66 j0 _ 3 32 Tryd.underlying58 hj hy0 hy1 hy2 rfl (by decide) _ _ _ rfl ((HPM7.out.j.alloc _).alloc _) ⟨w7.heap.size + 1, 0, none⟩ 1 1 [.int .i64 out.length, .int .i64 ((n : Int) + 1), .string ⟨to.toArray⟩] rfl rfl (World.news_of_block (heap_alloc2_new _ _ _)) (by simp [Value.oneCell']) (by unfold maxLen; omega) (by omega) (by simp; omega) ?_; intro v9 w9 ho9 hgr9 hat9; have hgr2 := grown_from (w := w7) hgr9 rfl rfl rfl (by simp; omega) (fun i hi' => (Below.heap_alloc _ _ _ (by simp; omega)).trans (Below.heap_alloc _ _ _ hi')); have hpm9 := HPM7.out.jadd ⟨cntI ws n, n + 1, to⟩ (by rw [← pass1_len HP.out]; exact ho9) hgr2; rw [← HJS.out] at hpm9; have hblk : Blk w9 w7.heap.size j := (hgr9.block w7.heap.size (by simp; omega) (fun e => absurd (HPM7.out.j.lt _ e.symm).2 (Nat.lt_irrefl _))).trans ((Blk.new w7 j).alloc _); obtain ⟨c0, c1, c2, c3, c4⟩ := hblk.c; have HPM9 := Lib.hid hpm9; have HBJ := Lib.hid hblk; have hsz9 := hgr2.size; clear ho9 hgr9 hat9 hgr2 hpm9 hblk) | (at_builtin; refine wpList_append_own _ rfl (.tmp 87) (.tmp 89) 23 rfl w1.heap.size 34 i0 _ 5 40 Tryd.underlying23 hi hz0 hz1 hz2 rfl (by decide) _ _ _ rfl (HPM9.out.o.alloc _) ⟨w9.heap.size, 0, none⟩ 1 1 [.int .i64 j.op, .int .i64 j.a, .int .i64 j.b, .int .i64 j.c, .int .u32 j.k] rfl rfl (World.news_of_block (heap_alloc_new _ _)) (by simp [Value.oneCell']) (by unfold maxLen; omega) (by omega) (by simp; omega) ?_; intro v' w10 ho10 hgr10 hat10))
                have hgr3 := grown_from (w := w9) hgr10 rfl rfl rfl (by simp) (fun i hi' => Below.heap_alloc _ _ _ hi')
                have hpm10 := HPM9.out.oadd j ho10 hgr3
                have HPM10 := Lib.hid (show PM w1 w10 w.heap.size (findP ws (n + 1)) (n + 1) (out ++ [j]) (jmps ws (n + 1)) v' v9 by rw [HKEEP.out]; exact hpm10.mono (by omega))
                clear ho10 hgr10 hat10 hgr3 hpm10 c0 c1 c2 c3 c4
                go_wp2_with fail
                exact ⟨⟨n + 1, out ++ [j], by omega, by simp; omega, by simp, HSTEP, HPM10⟩, by simp [intOf]; omega⟩
    · obtain rfl : n = ws.length := by omega
      have hrerr : ∀ e, runJ ws (jmps ws ws.length) out = .error e → r = ([], e.1, e.2) := fun e h => by
        have h1 := HP.out
        rw [← HWSE.out] at h h1
        rw [HRES.out]; exact parse_run_err (by rw [toList_len]; omega) h1 h
      have hrok : ∀ o', runJ ws (jmps ws ws.length) out = .ok o' → r = (o', 0, 0) := fun o' h => by
        have h1 := HP.out
        rw [← HWSE.out] at h h1
        rw [HRES.out]; exact parse_run_ok (by rw [toList_len]; omega) h1 h
      have hlen := pass1_len HP.out
      have hat := jmps_at ws ws.length
      rw [← hlen] at hat
      have hjto := jmps_to ws 20000 HLS.out ws.length
      have hjl := jmps_len ws ws.length
      have hjln := jmps_line ws ws.length
      have hk0 := pass1_k HP.out
      obtain ⟨js, hjs⟩ : ∃ js, jmps ws ws.length = js := ⟨_, rfl⟩
      rw [hjs] at hrerr hrok hat hjto hjl hjln HPM
      have HRERR := Lib.hid hrerr
      have HROK := Lib.hid hrok
      have HAT := Lib.hid hat
      have HJTO := Lib.hid hjto
      have HJLN := Lib.hid hjln
      have HK0 := Lib.hid hk0
      obtain ⟨oA, oc, rfl⟩ := (Rd.of_own HPM.out.o).form
      obtain ⟨jA, jc, rfl⟩ := (Rd.of_own HPM.out.j).form
      clear hrerr hrok hat hjto hjln hk0 hjs HRDn HBn HTn HNn hsz1 hlt HP hlen HERR
      go_wp2_with fail
      go_loopw [94] (fun kv w2 => ∃ (k : Nat) (cur : List Ins), k ≤ js.length ∧ kv = .int .i64 k ∧ Hid (cur.length = out.length) ∧ Hid (runJ ws (js.drop k) cur = runJ ws js out) ∧ Hid (∀ x ∈ cur, 0 ≤ x.k ∧ x.k ≤ 4294967295) ∧ Hid (PM w1 w2 w.heap.size (findP ws ws.length) ws.length cur js (.slice oA out.length oc) (.slice jA js.length jc))) (fun kv _ => js.length - (intOf kv).toNat)
      case atStart => exact ⟨0, out, by omega, rfl, Lib.hid rfl, Lib.hid rfl, HK0, HPM⟩
      case round =>
        obtain ⟨k, cur, hk, rfl, HCL, HRJ, HKC, HPC⟩ := hrel
        have hbel := only_below HB1.out (Nat.le_refl _) HPC.out.only
        have HBw := Lib.hid hbel
        have hszc := HPC.out.size
        have hszw := hbel.size
        clear hbel HPM HK0
        by_cases hlt : k < js.length
        · obtain ⟨jm, hjm⟩ : ∃ jm, js[k]? = some jm := ⟨_, List.getElem?_eq_getElem hlt⟩
          have hmem := List.mem_of_getElem? hjm
          have hatm := HAT.out jm hmem
          have htom := HJTO.out jm hmem
          have hlnm := HJLN.out jm hmem
          have hdrop : js.drop k = jm :: js.drop (k + 1) := by
            rw [List.drop_eq_getElem_cons hlt]
            rw [List.getElem?_eq_getElem hlt] at hjm
            injection hjm with hjm
            rw [hjm]
          have hrj := HRJ.out
          rw [hdrop] at hrj
          obtain ⟨jb, jc2, hjeq, hjb, hjb2⟩ := HPC.out.j.form (by omega : 0 < js.length)
          injection hjeq with hjeq1 _ hjeq3
          subst hjeq1
          subst hjeq3
          have hoc := HPC.out.o
          rw [HCL.out] at hoc
          obtain ⟨ob, oc2, heq, hob, hob2⟩ := hoc.form (by omega)
          injection heq with heq1 _ heq3
          subst heq1
          subst heq3
          obtain ⟨tb, htb⟩ : ∃ tb : ByteArray, (⟨jm.to.toArray⟩ : ByteArray) = tb := ⟨_, rfl⟩
          have htbl : tb.data.toList = jm.to := by rw [← htb]
          have htbs : tb.size ≤ 20000 := by rw [← toList_len, htbl]; exact htom
          obtain ⟨a_, ln, to⟩ := jm
          have y0 : wr.cell? ⟨jb, k * 3, none⟩ = some (.int .i64 a_) := by
            rw [HPC.out.j.cellAt _ (by omega)]
            exact (flatJ_get js k _ hjm 0 (by omega)).trans rfl
          have y1 : wr.cell? ⟨jb, k * 3 + 1, none⟩ = some (.int .i64 ln) := by
            rw [HPC.out.j.cellAt _ (by omega)]
            exact (flatJ_get js k _ hjm 1 (by omega)).trans rfl
          have y2 : wr.cell? ⟨jb, k * 3 + 2, none⟩ = some (.string tb) := by
            rw [HPC.out.j.cellAt _ (by omega), ← htb]
            exact (flatJ_get js k _ hjm 2 (by omega)).trans rfl
          have hatm' : a_ < out.length := hatm
          obtain ⟨x, hx⟩ : ∃ x, cur[a_]? = some x := ⟨_, List.getElem?_eq_getElem (by rw [HCL.out]; exact hatm')⟩
          obtain ⟨hx0, hx1⟩ := HKC.out x (List.mem_of_getElem? hx)
          have x4 : wr.cell? ⟨ob, a_ * 5 + 4, none⟩ = some (.int .u32 x.k) := by
            rw [hoc.cellAt _ (by omega)]
            exact (flat_get cur a_ x hx 4 (by omega)).trans rfl
          have z4 : wr.frozen? ⟨ob, a_ * 5 + 4, none⟩ = false := hoc.frozenAt _
          have HX := Lib.hid hx
          have HJM := Lib.hid hjm
          clear hmem htom hdrop hjm hatm hoc
          have hPC8 := HPC.out.below ((Below.refl wr.heap.size wr).alloc (Nat.le_refl _) (.cells #[.int .i64 a_, .int .i64 ln, .string tb] 66))
          obtain ⟨cnt, D, hcn, hmap8, hdr⟩ := hPC8.m
          have hlk := map_look hmap8 hdr tb (by unfold maxLen; omega)
          rw [htbl, findP_all] at hlk
          have HPC8 := Lib.hid hPC8
          clear hmap8 hdr hPC8
          have hcl := HCL.out
          by_cases hto : to = []
          · have hemp : tb.toList.isEmpty = true := by rw [ByteArray.toList_eq, htbl]; show List.isEmpty to = true; rw [hto]; rfl
            have hr1 : runJ1 ws ⟨a_, ln, to⟩ cur = _ := runJ1_nil (j := ⟨a_, ln, to⟩) hto hx
            rw [hcl] at hr1
            have hrj' : (runJ1 ws ⟨a_, ln, to⟩ cur).bind (runJ ws (js.drop (k + 1))) = runJ ws js out := hrj
            rw [hr1] at hrj'
            clear hlk hr1 hrj hto htb htbl hx hcl
            by_cases hov : (out.length : Int) < x.k
            · rw [if_pos hov] at hrj'
              have HR2 := Lib.hid (HRERR.out _ hrj'.symm)
              clear hrj'
              go_wp2_with fail
              go_quiet (fail)
              go_wp2_with fail
              go_ret3
              rw [HR2.out]
              exact parse_nil (below_drewN _ (HBw.out.alloc (by omega) _))
            · rw [if_neg hov] at hrj'
              have HS := Lib.hid (show runJ ws (js.drop (k + 1)) cur = runJ ws js out from hrj')
              clear hrj'
              go_wp2_with fail
              exact ⟨⟨k + 1, cur, by omega, by simp, HCL, HS, HKC, HPC8⟩, by simp [intOf]; omega⟩
          · have hemp : tb.toList.isEmpty = false := by rw [ByteArray.toList_eq, htbl]; exact List.isEmpty_eq_false_iff.2 hto
            have hr1 : runJ1 ws ⟨a_, ln, to⟩ cur = _ := runJ1_to (j := ⟨a_, ln, to⟩) hto hx
            rw [hcl] at hr1
            have hrj' : (runJ1 ws ⟨a_, ln, to⟩ cur).bind (runJ ws (js.drop (k + 1))) = runJ ws js out := hrj
            rw [hr1] at hrj'
            have hple := placeB_le ws to
            have hr2 : (if placeB ws to < 0 then Except.error ((ln : Int), (5 : Int)) else if (out.length : Int) < placeB ws to then .error ((ln : Int), 5) else .ok (cur.set a_ { x with k := placeB ws to })).bind (runJ ws (js.drop (k + 1))) = runJ ws js out := hrj'
            have hlk' : (Instr.lookup 40 (.map (some w.heap.size)) (.string tb) true).run Tryd.prog (wr.alloc (.cells #[.int .i64 a_, .int .i64 ln, .string tb] 66)) = .ok (.tuple #[.int .i64 (((if 0 ≤ placeB ws to then some (placeB ws to).toNat else none : Option Nat).getD 0 : Nat) : Int), .bool (if 0 ≤ placeB ws to then some (placeB ws to).toNat else none : Option Nat).isSome]) (wr.alloc (.cells #[.int .i64 a_, .int .i64 ln, .string tb] 66)) := hlk
            generalize placeB ws to = P at hr2 hple hlk'
            clear hlk hr1 hrj hrj' hto htb htbl hx hcl
            by_cases hp : P < 0
            · rw [if_pos hp] at hr2
              rw [if_neg (by omega)] at hlk'
              simp only [Option.isSome, Option.getD] at hlk'
              have HR2 := Lib.hid (HRERR.out _ hr2.symm)
              clear hr2
              go_wp2_with fail
              go_quiet (fail)
              go_wp2_with fail
              go_ret3
              rw [HR2.out]
              exact parse_nil (below_drewN _ (HBw.out.alloc (by omega) _))
            · rw [if_neg hp] at hr2
              rw [if_pos (by omega)] at hlk'
              simp only [Option.isSome, Option.getD] at hlk'
              obtain ⟨p, rfl⟩ := Int.eq_ofNat_of_zero_le (show 0 ≤ P by omega)
              rw [Int.toNat_natCast] at hlk'
              have hobw : w.heap.size ≤ ob := by have := HB1.out.size; omega
              by_cases hov : (out.length : Int) < (p : Int)
              · rw [if_pos hov] at hr2
                have HR2 := Lib.hid (HRERR.out _ hr2.symm)
                clear hr2
                go_wp2_with fail
                go_quiet (fail)
                go_wp2_with fail
                go_ret3
                rw [HR2.out]
                exact parse_nil (below_drewN _ ((HBw.out.setCell (p := ⟨ob, a_ * 5 + 4, none⟩) hobw _).alloc (by simp [World.setCell]; omega) _))
              · rw [if_neg hov] at hr2
                have HS := Lib.hid (show runJ ws (js.drop (k + 1)) (cur.set a_ { x with k := (p : Int) }) = runJ ws js out from hr2)
                clear hr2
                have h1 := HPC.out
                rw [← HCL.out] at h1
                have h2 := (h1.kset HX.out (p : Int)).below ((Below.refl _ _).alloc (Nat.le_refl _) (.cells #[.int .i64 a_, .int .i64 ln, .string tb] 66))
                rw [HCL.out] at h2
                have HP2 := Lib.hid h2
                have HCL2 := Lib.hid (show (cur.set a_ { x with k := (p : Int) }).length = out.length by rw [List.length_set]; exact HCL.out)
                have HKC2 := Lib.hid (show ∀ y ∈ cur.set a_ { x with k := (p : Int) }, 0 ≤ y.k ∧ y.k ≤ 4294967295 from fun y hy => by
                  rcases List.mem_or_eq_of_mem_set hy with hy | hy
                  · exact HKC.out y hy
                  · rw [hy]; simp only []; omega)
                clear h1 h2
                go_wp2_with fail
                exact ⟨⟨k + 1, _, by omega, by simp, HCL2, HS, HKC2, HP2⟩, by simp [intOf]; omega⟩
        · obtain rfl : k = js.length := by omega
          have hrj := HRJ.out
          rw [List.drop_length] at hrj
          have HR2 := Lib.hid (HROK.out _ hrj.symm)
          clear hrj
          go_wp2_with fail
          go_ret3
          rw [HR2.out]
          refine ⟨_, rfl, ?_, HBw.out⟩
          rw [show ((cur, (0 : Int), (0 : Int))).1.length = out.length from HCL.out]
          have := own_base HPC.out.o HB1.out.size
          rw [HCL.out] at this
          exact this
theorem pparse_many (w : World) (s : ByteArray) (hm : 20000 < s.size) (hx : s.size ≤ maxLen) :
    Calls Tryd.prog 11 #[.string s] w fun e w' => ParsePost w (parseB s.data.toList) e w' := by
  have hv : parseB s.data.toList = ([], 0, 4) := by unfold parseB; rw [if_pos (by rw [toList_len]; exact hm)]
  rw [hv]
  go_enter Tryd.func11, Tryd.ntmps11
  go_wp2_with fail
  go_ret3
  exact parse_nil (Below.refl _ _)
/-- Parse: any text. -/
theorem pparse_any (w : World) (s : ByteArray) (hx : s.size ≤ maxLen) (T : TabA w) (N : NamesA w) :
    Calls Tryd.prog 11 #[.string s] w fun e w' => ParsePost w (parseB s.data.toList) e w' := by
  by_cases h : s.size ≤ 20000
  · exact pparse_few w s h T N
  · exact pparse_many w s (by omega) hx
end Go.Proofs.YtlopmejmionnpaaDoor.As
