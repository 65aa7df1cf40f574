/- The walk of deadlatchref26.Judge: which act can't be, told by all that was done ahead. -/
import Derived.Test.YtfemeiopfpblaaaDoorHjJ1
import Derived.Deep.Cut
import Derived.Deep.CutRange
set_option linter.unusedVariables false
set_option linter.unusedSimpArgs false
set_option maxRecDepth 20000
namespace Go.Proofs.YtfemeiopfpblaaaDoor.As
open Go.RowKit

theorem cells5 {w : World} {n : Nat} {a b c d e : Value} {t : TypeId} (h : w.heap[n]? = some (.cells #[a, b, c, d, e] t (0, 0))) :
    w.cell? ⟨n, 0, none⟩ = some a ∧ w.cell? ⟨n, 1, none⟩ = some b ∧ w.cell? ⟨n, 2, none⟩ = some c ∧ w.cell? ⟨n, 3, none⟩ = some d ∧ w.cell? ⟨n, 4, none⟩ = some e := by
  have c0 := cell_of_row w n 0 _ _ _ h
  have c1 := cell_of_row w n 1 _ _ _ h
  have c2 := cell_of_row w n 2 _ _ _ h
  have c3 := cell_of_row w n 3 _ _ _ h
  have c4 := cell_of_row w n 4 _ _ _ h
  exact ⟨c0, c1, c2, c3, c4⟩

theorem flatS_snoc (l : List Stp) (s : Stp) : flatS (l ++ [s]) = flatS l ++ s.cells := by simp [flatS]
theorem cells11 {w : World} {g : Nat} {a b c d e f h i j k l : Value} {t : TypeId} (hx : w.heap[g]? = some (.cells #[a, b, c, d, e, f, h, i, j, k, l] t (0, 0))) :
    w.cell? ⟨g, 0, none⟩ = some a ∧ w.cell? ⟨g, 1, none⟩ = some b ∧ w.cell? ⟨g, 2, none⟩ = some c ∧ w.cell? ⟨g, 3, none⟩ = some d ∧ w.cell? ⟨g, 4, none⟩ = some e ∧ w.cell? ⟨g, 5, none⟩ = some f ∧ w.cell? ⟨g, 8, none⟩ = some j ∧ w.cell? ⟨g, 9, none⟩ = some k ∧ w.cell? ⟨g, 10, none⟩ = some l := by
  have c0 := cell_of_row w g 0 _ _ _ hx
  have c1 := cell_of_row w g 1 _ _ _ hx
  have c2 := cell_of_row w g 2 _ _ _ hx
  have c3 := cell_of_row w g 3 _ _ _ hx
  have c4 := cell_of_row w g 4 _ _ _ hx
  have c5 := cell_of_row w g 5 _ _ _ hx
  have c8 := cell_of_row w g 8 _ _ _ hx
  have c9 := cell_of_row w g 9 _ _ _ hx
  have c10 := cell_of_row w g 10 _ _ _ hx
  exact ⟨c0, c1, c2, c3, c4, c5, c8, c9, c10⟩
theorem ne_list {l d : List Int} (h : l.length = d.length) (hn : l ≠ d) : ∃ k, k < l.length ∧ l[k]? ≠ d[k]? := by
  apply Classical.byContradiction
  intro hno
  apply hn
  apply List.ext_getElem?
  intro k
  by_cases hk : k < l.length
  · apply Classical.byContradiction
    intro e
    exact hno ⟨k, hk, e⟩
  · rw [List.getElem?_eq_none (by omega), List.getElem?_eq_none (by omega)]
set_option maxHeartbeats 4000000 in
theorem judge26_any (w : World) (ov nv kv : Value) (vs rm : Int) (tA : Option Addr) (th tc m n : Nat) (obs : List Ob) (acts : List Act) (hI : InO w ov m obs) (hm : m ≤ 1000000) (hK : RdK w kv n acts) (hn : n ≤ 300) (hx : ∀ a ∈ acts, 0 ≤ a.x.arg ∧ a.x.arg ≤ 4294967295 ∧ a.data.length ≤ 20) (hth : th ≤ 1000000) :
    Calls Tryd.prog 8 #[.agg #[ov, .int .i64 vs, nv, .int .i64 rm, .slice tA th tc], kv] w fun e w' => e = .returned (.int .i64 (judgeR th obs [] acts 0)) ∧ Below w.heap.size w w' := by
  have HI := Lib.hid hI
  have HK := Lib.hid hK
  have HX := Lib.hid hx
  obtain ⟨hml, oA, oc, rfl, _⟩ := hI
  obtain ⟨hkl, kA, kc, rfl, _⟩ := hK
  obtain ⟨r, hr⟩ : ∃ r, r = judgeR th obs [] acts 0 := ⟨_, rfl⟩
  rw [← hr]
  have HR : Hid (r = judgeR th obs [] (acts.drop 0) 0) := hr
  obtain ⟨i0, hi, hz0, hz1, hz2⟩ := info_parts infoS
  have hB1 : Below w.heap.size w (w.alloc (.cells #[.slice oA m oc, .int .i64 vs, nv, .int .i64 rm, .slice tA th tc] 28)) := (Below.refl _ w).alloc (Nat.le_refl _) _
  have hC1 := heap_alloc_new w (.cells #[.slice oA m oc, .int .i64 vs, nv, .int .i64 rm, .slice tA th tc] 28)
  have HB1 := Lib.hid hB1
  have HC1 := Lib.hid hC1
  clear hr hx hB1 hC1
  go_enter Tryd.func8, Tryd.ntmps8
  go_wp2_with fail
  go_loopw [5, 6] (fun dvv iv wr => ∃ (i : Nat) (H : List Stp), i ≤ n ∧ H.length = i ∧ iv = .int .i64 i ∧ Hid (∀ s ∈ H, s.x.call = 4 → ∀ o, obs[s.x.obj.toNat]? = some o → 0 ≤ s.x.arg ∧ s.x.arg < o.n) ∧ Hid (wr.ownsRow (w.heap.size + 1) 68 7 dvv i (flatS H)) ∧ Hid (Below (w.heap.size + 1) (w.alloc (.cells #[.slice oA m oc, .int .i64 vs, nv, .int .i64 rm, .slice tA th tc] 28)) wr) ∧ Hid (r = judgeR th obs H (acts.drop i) i)) (fun _ i _ => n - (intOf i).toNat)
  case atStart => exact ⟨0, [], by omega, rfl, rfl, (fun s hs => by cases hs), World.ownsRow_nil _ _ _ _, Below.refl _ _, HR⟩
  case round =>
    clear HR
    obtain ⟨i, H, hin, hHl, rfl, HP, HO, HB, HE⟩ := hrel
    have hwr : w.heap.size + 1 ≤ wr.heap.size := by have := HB.out.size; simpa using this
    have hw1 : w.heap.size < wr.heap.size := by omega
    have hw2 : ¬ wr.heap.size = w.heap.size := by omega
    have hw3 : ¬ w.heap.size = wr.heap.size := by omega
    have hCr : wr.heap[w.heap.size]? = some (.cells #[.slice oA m oc, .int .i64 vs, nv, .int .i64 rm, .slice tA th tc] 28) := (HB.out.block _ (by omega)).trans HC1.out
    have HBw := Lib.hid (HB1.out.trans (HB.out.mono (by omega)))
    obtain ⟨v0, v1, v2, v3, v4⟩ := cells5 hCr
    by_cases hlt : i < n
    · obtain ⟨a, ha⟩ : ∃ a, acts[i]? = some a := ⟨_, List.getElem?_eq_getElem (by omega)⟩
      obtain ⟨b0, o0, dA, dc, rfl, hb0, hdU, a0, a1, a2, a3, a4, a5, a6, a7, a8, a9, a10⟩ := RdK.at (HK.out.below HBw.out (Nat.le_refl _)) ha
      have hax := HX.out a (List.mem_of_getElem? ha)
      have hdl20 := hax.2.2
      have hE := HE.out
      rw [drop_one _ _ _ ha, judgeR] at hE
      have HE1 := Lib.hid hE
      have HDU := Lib.hid hdU
      have HCR := Lib.hid hCr
      clear hE HE ha hdU hCr
      obtain ⟨A, cap, rfl⟩ := (Rd.of_own HO.out).form
      have hdo := fun W (hW : Below wr.heap.size wr W) => do25_any W (.slice oA m oc) m obs (HI.out.below (HBw.out.trans (hW.mono HBw.out.size)) (Nat.le_refl _)) hm th (.slice A i cap) i H hHl ((Rd.of_own HO.out).below hW (Nat.le_refl _)) (by omega) a.x hax.1 hax.2.1 HP.out
      have hKA : Below wr.heap.size wr (wr.alloc (.cells #[.int .i64 a.x.who, .int .i64 a.x.obj, .int .i64 a.x.call, .int .i64 a.x.part, .int .u32 a.x.arg, .int .u32 a.x.val, .int .i64 a.site, .int .i64 a.at_, .bool a.ended, .int .u32 a.res, .slice dA a.data.length dc] 38)) := (Below.refl _ wr).alloc (Nat.le_refl _) _
      have hKC := heap_alloc_new wr (.cells #[.int .i64 a.x.who, .int .i64 a.x.obj, .int .i64 a.x.call, .int .i64 a.x.part, .int .u32 a.x.arg, .int .u32 a.x.val, .int .i64 a.site, .int .i64 a.at_, .bool a.ended, .int .u32 a.res, .slice dA a.data.length dc] 38)
      have hdo1 := hdo _ hKA
      clear hdo
      have HKA := Lib.hid hKA
      have HKC := Lib.hid hKC
      clear hKA hKC
      cases hq : refAt th obs H a.x with
      | none =>
        rw [hq] at hdo1
        have HR2 : Hid (r = (i : Int)) := by
          show r = _
          rw [HE1.out, hq]
        clear HE1 hq
        have hdo2 : Calls Tryd.prog 12 #[.slice oA m oc, .int .i64 th, .slice A i cap, .agg #[.int .i64 a.x.who, .int .i64 a.x.obj, .int .i64 a.x.call, .int .i64 a.x.part, .int .u32 a.x.arg, .int .u32 a.x.val]] (wr.alloc (.cells #[.int .i64 a.x.who, .int .i64 a.x.obj, .int .i64 a.x.call, .int .i64 a.x.part, .int .u32 a.x.arg, .int .u32 a.x.val, .int .i64 a.site, .int .i64 a.at_, .bool a.ended, .int .u32 a.res, .slice dA a.data.length dc] 38)) fun e w' => ∃ eA ec, e = .returned (.agg #[.int .u32 0, .slice eA 0 ec, .bool false]) ∧ Below (wr.alloc (.cells #[.int .i64 a.x.who, .int .i64 a.x.obj, .int .i64 a.x.call, .int .i64 a.x.part, .int .u32 a.x.arg, .int .u32 a.x.val, .int .i64 a.site, .int .i64 a.at_, .bool a.ended, .int .u32 a.res, .slice dA a.data.length dc] 38)).heap.size (wr.alloc (.cells #[.int .i64 a.x.who, .int .i64 a.x.obj, .int .i64 a.x.call, .int .i64 a.x.part, .int .u32 a.x.arg, .int .u32 a.x.val, .int .i64 a.site, .int .i64 a.at_, .bool a.ended, .int .u32 a.res, .slice dA a.data.length dc] 38)) w' :=
          hdo1.mono (fun e w' ⟨dv, h1, h2, h3⟩ => by
            obtain ⟨eA, ec, rfl⟩ := h2.form
            exact ⟨eA, ec, h1, h3⟩)
        clear hdo1
        go_wp2_with (go_at_call 12; refine hdo2.mono ?_; rintro e wD ⟨eA, ec, rfl, hbD⟩)
        go_ret
        have h2 := HBw.out.trans ((HKA.out.trans (hbD.mono HKA.out.size)).mono HBw.out.size)
        exact ⟨by rw [HR2.out]; rfl, h2.alloc h2.size _⟩
      | some wv =>
        obtain ⟨rr, dd⟩ := wv
        rw [hq] at hdo1
        have HE2 : Hid (r = if fitsP a (rr, dd) then judgeR th obs (H ++ [⟨a.x, rr⟩]) (acts.drop (i + 1)) (i + 1) else (i : Int)) := by
          show r = _
          rw [HE1.out, hq]
        have HP1 : Hid (∀ s ∈ H ++ [⟨a.x, rr⟩], s.x.call = 4 → ∀ o, obs[s.x.obj.toNat]? = some o → 0 ≤ s.x.arg ∧ s.x.arg < o.n) := by
          intro s hs hc o ho
          rcases List.mem_append.1 hs with hs | hs
          · exact HP.out s hs hc o ho
          · rw [List.mem_singleton] at hs
            subst hs
            dsimp only at *
            unfold refAt at hq
            by_cases h0 : 0 ≤ a.x.obj
            · rw [if_pos h0, ho] at hq
              exact refOb_put hq hc hax.1
            · rw [if_neg h0] at hq; cases hq
        clear HE1 hq hax
        have hdo2 : Calls Tryd.prog 12 #[.slice oA m oc, .int .i64 th, .slice A i cap, .agg #[.int .i64 a.x.who, .int .i64 a.x.obj, .int .i64 a.x.call, .int .i64 a.x.part, .int .u32 a.x.arg, .int .u32 a.x.val]] (wr.alloc (.cells #[.int .i64 a.x.who, .int .i64 a.x.obj, .int .i64 a.x.call, .int .i64 a.x.part, .int .u32 a.x.arg, .int .u32 a.x.val, .int .i64 a.site, .int .i64 a.at_, .bool a.ended, .int .u32 a.res, .slice dA a.data.length dc] 38)) fun e w' => ∃ eA ec, e = .returned (.agg #[.int .u32 rr, .slice eA dd.length ec, .bool true]) ∧ InU w' (.slice eA dd.length ec) dd.length dd ∧ Below (wr.alloc (.cells #[.int .i64 a.x.who, .int .i64 a.x.obj, .int .i64 a.x.call, .int .i64 a.x.part, .int .u32 a.x.arg, .int .u32 a.x.val, .int .i64 a.site, .int .i64 a.at_, .bool a.ended, .int .u32 a.res, .slice dA a.data.length dc] 38)).heap.size (wr.alloc (.cells #[.int .i64 a.x.who, .int .i64 a.x.obj, .int .i64 a.x.call, .int .i64 a.x.part, .int .u32 a.x.arg, .int .u32 a.x.val, .int .i64 a.site, .int .i64 a.at_, .bool a.ended, .int .u32 a.res, .slice dA a.data.length dc] 38)) w' :=
          hdo1.mono (fun e w' ⟨dv, h1, h2, h3⟩ => by
            obtain ⟨eA, ec, rfl⟩ := h2.form
            exact ⟨eA, ec, h1, InU.of_rd h2, h3⟩)
        clear hdo1
        -- what is known behind the call
        have hDo : ∀ wD, Below (wr.alloc (.cells #[.int .i64 a.x.who, .int .i64 a.x.obj, .int .i64 a.x.call, .int .i64 a.x.part, .int .u32 a.x.arg, .int .u32 a.x.val, .int .i64 a.site, .int .i64 a.at_, .bool a.ended, .int .u32 a.res, .slice dA a.data.length dc] 38)).heap.size (wr.alloc (.cells #[.int .i64 a.x.who, .int .i64 a.x.obj, .int .i64 a.x.call, .int .i64 a.x.part, .int .u32 a.x.arg, .int .u32 a.x.val, .int .i64 a.site, .int .i64 a.at_, .bool a.ended, .int .u32 a.res, .slice dA a.data.length dc] 38)) wD → Hid (wD.ownsRow (w.heap.size + 1) 68 7 (.slice A i cap) i (flatS H)) ∧ Hid (Below (w.heap.size + 1) (w.alloc (.cells #[.slice oA m oc, .int .i64 vs, nv, .int .i64 rm, .slice tA th tc] 28)) wD) ∧ wD.heap[wr.heap.size]? = some (.cells #[.int .i64 a.x.who, .int .i64 a.x.obj, .int .i64 a.x.call, .int .i64 a.x.part, .int .u32 a.x.arg, .int .u32 a.x.val, .int .i64 a.site, .int .i64 a.at_, .bool a.ended, .int .u32 a.res, .slice dA a.data.length dc] 38) := fun wD hbD => by
          have h2 := HKA.out.trans (hbD.mono HKA.out.size)
          refine ⟨own_only HO.out (Only.of_below (F := fun _ => False) h2 (Nat.le_refl _)) (fun _ _ e => e), HB.out.trans (h2.mono hwr), obj_keep HKC.out hbD⟩
        go_upto_region 9 with (go_at_call 12; refine hdo2.mono ?_; rintro e wD ⟨eA, ec, rfl, hdv, hbD⟩; obtain ⟨HOD, HBD, hKD⟩ := hDo wD hbD; obtain ⟨y0, y1, y2, y3, y4, y5, y8, y9, y10⟩ := cells11 hKD; have hsD : wr.heap.size < wD.heap.size := (Array.getElem?_eq_some_iff.1 hKD).1)
        have hdec : ∀ (p : Prop) [Decidable p] (b : Bool), (p ↔ b = true) → Value.bool b = Value.bool (decide p) := fun p _ b h => by congr 1; rw [Bool.eq_iff_iff, decide_eq_true_iff]; exact h.symm
        obtain ⟨cb, hcb⟩ : ∃ cb, cb = decide (a.ended = true ∧ a.x.part ≠ 1 ∧ a.x.part ≠ 2) := ⟨_, rfl⟩
        have HCB := Lib.hid hcb
        clear hcb hdec
        go_cut [46] from 33 to 46 (fun c wx => c = .bool cb ∧ wx = wD.alloc (.cells #[.int .u32 rr, .slice eA dd.length ec, .bool true] 65))
        case first =>
          obtain ⟨eb, heb⟩ : ∃ eb, eb = a.ended := ⟨_, rfl⟩
          rw [← heb] at y8
          have HEB := Lib.hid heb
          clear heb
          cases eb with
          | false =>
            go_wp2_with fail
            go_meet
            exact ⟨by rw [HCB.out, decide_eq_false (fun e => by rw [← HEB.out] at e; cases e.1)], rfl⟩
          | true =>
            by_cases p1 : a.x.part = 1
            · have g1 : (a.x.part != 1) = false := by simp [p1]
              have P1 := Lib.hid p1
              clear p1
              go_wp2_with fail
              go_meet
              exact ⟨by rw [HCB.out, decide_eq_false (fun e => e.2.1 P1.out)], rfl⟩
            · have g1 : (a.x.part != 1) = true := by simp [p1]
              have P1 := Lib.hid p1
              clear p1
              by_cases p2 : a.x.part = 2
              · have g2 : (a.x.part != 2) = false := by simp [p2]
                have P2 := Lib.hid p2
                clear p2
                go_wp2_with fail
                go_meet
                exact ⟨by rw [HCB.out, decide_eq_false (fun e => e.2.2 P2.out)], rfl⟩
              · have g2 : (a.x.part != 2) = true := by simp [p2]
                have P2 := Lib.hid p2
                clear p2
                go_wp2_with fail
                go_meet
                exact ⟨by rw [HCB.out, decide_eq_true ⟨HEB.out.symm, P1.out, P2.out⟩], rfl⟩
        case rest =>
          obtain ⟨rfl, rfl⟩ := hcut
          cases cb with
          | false =>
            have hcmp : ¬ (a.ended = true ∧ a.x.part ≠ 1 ∧ a.x.part ≠ 2) := of_decide_eq_false HCB.out.symm
            have HNEXT : Hid (r = judgeR th obs (H ++ [⟨a.x, rr⟩]) (acts.drop (i + 1)) (i + 1)) := by
              show r = _
              rw [HE2.out, if_pos]
              by_cases he : a.ended = true
              · by_cases p1 : a.x.part = 1
                · exact .inr (.inl p1)
                · by_cases p2 : a.x.part = 2
                  · exact .inr (.inr (.inl p2))
                  · exact absurd ⟨he, p1, p2⟩ hcmp
              · exact .inl (by simpa using he)
            clear HE2 hcmp
            go_wp2_with (at_builtin; refine wpList_append_own _ rfl (.tmp 81) (.tmp 87) 63 rfl (w.heap.size + 1) 68 i0 _ 7 48 Tryd.underlying63 hi hz0 hz1 hz2 rfl (by decide) _ _ _ rfl ((HOD.out.alloc _).alloc _) ⟨wD.heap.size + 1, 0, none⟩ 1 1 [.int .i64 a.x.who, .int .i64 a.x.obj, .int .i64 a.x.call, .int .i64 a.x.part, .int .u32 a.x.arg, .int .u32 a.x.val, .int .u32 rr] rfl rfl (World.news_of_block (heap_alloc2_new _ _ _)) (by simp [Value.oneCell']) (by unfold maxLen; omega) (by omega) (by simp; omega) ?_; intro v' w6 ho hgr hat)
            refine ⟨⟨i + 1, H ++ [⟨a.x, rr⟩], by omega, by simp; omega, by simp, HP1, ?_, ?_, HNEXT⟩, by simp [intOf]; omega⟩
            · show World.ownsRow _ _ _ _ _ _ _
              rw [flatS_snoc]
              exact ho
            · exact ((HBD.out.alloc (by have := HBD.out.size; simpa using this) _).alloc (by simp; omega) _).grown hgr (by simp; omega) (fun k hk => by have := (HOD.out.lt k hk).1; simpa using this)
          | true =>
            have hcmp : (a.ended = true ∧ a.x.part ≠ 1 ∧ a.x.part ≠ 2) := of_decide_eq_true HCB.out.symm
            have HE3 : Hid (r = if a.res = rr ∧ a.data = dd then judgeR th obs (H ++ [⟨a.x, rr⟩]) (acts.drop (i + 1)) (i + 1) else (i : Int)) := by
              show r = _
              rw [HE2.out]
              by_cases hf : a.res = rr ∧ a.data = dd
              · rw [if_pos hf, if_pos (.inr (.inr (.inr hf)))]
              · rw [if_neg hf, if_neg (fun e => by rcases e with e | e | e | e; (rw [hcmp.1] at e; cases e); exact hcmp.2.1 e; exact hcmp.2.2 e; exact hf e)]
            clear HE2 hcmp
            by_cases hres : a.res = rr
            · have g3 : (a.res != rr) = false := by simp [hres]
              by_cases hlen : a.data.length = dd.length
              · have g4 : ((a.data.length : Int) != (dd.length : Int)) = false := by simp [hlen]
                have g5 : (a.data.length != dd.length) = false := by simp [hlen]
                have HE4 : Hid (r = if a.data = dd then judgeR th obs (H ++ [⟨a.x, rr⟩]) (acts.drop (i + 1)) (i + 1) else (i : Int)) := by
                  show r = _
                  rw [HE3.out]
                  by_cases hd : a.data = dd
                  · rw [if_pos hd, if_pos ⟨hres, hd⟩]
                  · rw [if_neg hd, if_neg (fun e => hd e.2)]
                have HLEN := Lib.hid hlen
                clear HE3 hres hlen
                go_wp2_with fail
                have HKD := Lib.hid hKD
                have HDV := Lib.hid hdv
                have HDUD := Lib.hid (HDU.out.below (HKA.out.trans (hbD.mono HKA.out.size)) (Nat.le_refl _))
                have hAD : Below wD.heap.size wD (wD.alloc (.cells #[.int .u32 rr, .slice eA dd.length ec, .bool true] 65)) := (Below.refl _ wD).alloc (Nat.le_refl _) _
                have HAD := Lib.hid hAD
                have HAC := Lib.hid (heap_alloc_new wD (.cells #[.int .u32 rr, .slice eA dd.length ec, .bool true] 65))
                clear hKD hdv hAD hbD y0 y1 y2 y3 y4 y5 y8 y9 y10 hsD
                go_loopw [9] (fun jv w2 => ∃ k : Nat, k ≤ a.data.length ∧ jv = .int .i64 k ∧ Hid (∀ t, t < k → a.data[t]? = dd[t]?) ∧ Hid (Below wD.heap.size wD w2) ∧ Hid (w2.heap[wD.heap.size]? = some (.cells #[.int .u32 rr, .slice eA dd.length ec, .bool true] 65))) (fun i _ => a.data.length - (intOf i).toNat)
                case atStart => exact ⟨0, by omega, rfl, fun t ht => by omega, HAD, HAC⟩
                case round =>
                  obtain ⟨k, hkl2, rfl, HQ, HB2, HA2⟩ := hrel
                  have hKr := obj_keep HKD.out HB2.out
                  have hs2 := HB2.out.size
                  have hAr := HA2.out
                  obtain ⟨y0, y1, y2, y3, y4, y5, y8, y9, y10⟩ := cells11 hKr
                  obtain ⟨x0, x1, x2⟩ := cells3 hAr
                  by_cases hlt2 : k < a.data.length
                  · obtain ⟨p, hp⟩ : ∃ p, a.data[k]? = some p := ⟨_, List.getElem?_eq_getElem hlt2⟩
                    obtain ⟨q, hq⟩ : ∃ q, dd[k]? = some q := ⟨_, List.getElem?_eq_getElem (by rw [← HLEN.out]; exact hlt2)⟩
                    obtain ⟨b1, f1, rfl, hb1, u1⟩ := InU.at (HDUD.out.below HB2.out (Nat.le_refl _)) hp
                    obtain ⟨b2, f2, rfl, hb2, u2⟩ := InU.at (HDV.out.below HB2.out (Nat.le_refl _)) hq
                    have hkd : k < dd.length := by rw [← HLEN.out]; exact hlt2
                    by_cases hpq : p = q
                    · have gq : (p != q) = false := by simp [hpq]
                      have HQ1 : Hid (∀ t, t < k + 1 → a.data[t]? = dd[t]?) := by
                        intro t ht
                        by_cases e : t = k
                        · subst e; rw [hp, hq, hpq]
                        · exact HQ.out t (by omega)
                      clear hp hq hpq
                      go_wp2_with fail
                      go_quiet (fail)
                      go_wp2_with fail
                      exact ⟨⟨k + 1, by omega, by simp, HQ1, bl_drewN HB2.out _, HA2.out⟩, by simp [intOf]; omega⟩
                    · have gq : (p != q) = true := by simp [hpq]
                      have HR2 : Hid (r = (i : Int)) := by
                        show r = _
                        rw [HE4.out, if_neg (fun e => by rw [e, hq] at hp; injection hp with hp; exact hpq hp.symm)]
                      clear hp hq hpq HE4
                      go_wp2_with fail
                      go_quiet (fail)
                      go_wp2_with fail
                      go_ret
                      have h2 := HBD.out.trans (HB2.out.mono (by have := HBD.out.size; simpa using this))
                      exact ⟨by rw [HR2.out]; rfl, bl_drewN (HB1.out.trans (h2.mono (by omega))) _⟩
                  · have HNEXT : Hid (r = judgeR th obs (H ++ [⟨a.x, rr⟩]) (acts.drop (i + 1)) (i + 1)) := by
                      show r = _
                      rw [HE4.out, if_pos]
                      apply Classical.byContradiction
                      intro hn
                      obtain ⟨t, ht, e⟩ := ne_list HLEN.out hn
                      exact e (HQ.out t (by omega))
                    have HOR : Hid (wr.ownsRow (w.heap.size + 1) 68 7 (.slice A i cap) i (flatS H)) := own_only HOD.out (Only.of_below (F := fun _ => False) HB2.out (Nat.le_refl _)) (fun _ _ e => e)
                    have HBR : Hid (Below (w.heap.size + 1) (w.alloc (.cells #[.slice oA m oc, .int .i64 vs, nv, .int .i64 rm, .slice tA th tc] 28)) wr) := HBD.out.trans (HB2.out.mono (by have := HBD.out.size; simpa using this))
                    have hwR : w.heap.size + 1 ≤ wr.heap.size := by have := HBR.out.size; simpa using this
                    clear HE4
                    go_wp2_with (at_builtin; refine wpList_append_own _ rfl (.tmp 81) (.tmp 87) 63 rfl (w.heap.size + 1) 68 i0 _ 7 48 Tryd.underlying63 hi hz0 hz1 hz2 rfl (by decide) _ _ _ rfl (HOR.out.alloc _) ⟨wr.heap.size, 0, none⟩ 1 1 [.int .i64 a.x.who, .int .i64 a.x.obj, .int .i64 a.x.call, .int .i64 a.x.part, .int .u32 a.x.arg, .int .u32 a.x.val, .int .u32 rr] rfl rfl (World.news_of_block (heap_alloc_new _ _)) (by simp [Value.oneCell']) (by unfold maxLen; omega) (by omega) (by simp; omega) ?_; intro v' w6 ho hgr hat)
                    refine ⟨⟨i + 1, H ++ [⟨a.x, rr⟩], by omega, by simp; omega, by simp, HP1, ?_, ?_, HNEXT⟩, by simp [intOf]; omega⟩
                    · show World.ownsRow _ _ _ _ _ _ _
                      rw [flatS_snoc]
                      exact ho
                    · exact (HBR.out.alloc hwR _).grown hgr (by simp; omega) (fun k hk => by have := (HOR.out.lt k hk).1; simpa using this)
              · have g4 : ((a.data.length : Int) != (dd.length : Int)) = true := by simp; omega
                have g5 : (a.data.length != dd.length) = true := by simp [hlen]
                have HR2 : Hid (r = (i : Int)) := by
                  show r = _
                  rw [HE3.out, if_neg (fun e => hlen (by rw [e.2]))]
                clear HE3 hres hlen
                go_wp2_with fail
                go_ret
                have h2 := HB1.out.trans (HBD.out.mono (by omega))
                exact ⟨by rw [HR2.out]; rfl, h2.alloc h2.size _⟩
            · have g3 : (a.res != rr) = true := by simp [hres]
              have HR2 : Hid (r = (i : Int)) := by
                show r = _
                rw [HE3.out, if_neg (fun e => hres e.1)]
              clear HE3 hres
              go_wp2_with fail
              go_ret
              have h2 := HB1.out.trans (HBD.out.mono (by omega))
              exact ⟨by rw [HR2.out]; rfl, h2.alloc h2.size _⟩
    · have hie : i = n := by omega
      have HR2 : Hid (r = -1) := by
        show r = _
        rw [HE.out, List.drop_eq_nil_of_le (by omega)]; rfl
      go_wp2_with fail
      go_ret
      exact ⟨by rw [HR2.out]; rfl, HBw.out⟩

end Go.Proofs.YtfemeiopfpblaaaDoor.As
