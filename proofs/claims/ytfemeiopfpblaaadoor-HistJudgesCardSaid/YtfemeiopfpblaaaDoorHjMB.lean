/- The walk of hist.Judge: which act can't be, told by the machine of objects. -/
import Derived.Test.YtfemeiopfpblaaaDoorHjM9
import Derived.Test.YtfemeiopfpblaaaDoorHjMA
set_option linter.unusedVariables false
set_option linter.unusedSimpArgs false
set_option maxRecDepth 20000
namespace Go.Proofs.YtfemeiopfpblaaaDoor.As
open Go.RowKit

instance (th : Int) (obs : List Ob) : Decidable (NewOk th obs) := by unfold NewOk; infer_instance
theorem cells11b {w : World} {g : Nat} {a b c d e f h i j k l : Value} {t : TypeId} (hx : w.heap[g]? = some (.cells #[a, b, c, d, e, f, h, i, j, k, l] t (0, 0))) :
    w.cell? ⟨g, 0, none⟩ = some a ∧ w.cell? ⟨g, 1, none⟩ = some b ∧ w.cell? ⟨g, 2, none⟩ = some c ∧ w.cell? ⟨g, 3, none⟩ = some d ∧ w.cell? ⟨g, 4, none⟩ = some e ∧ w.cell? ⟨g, 5, none⟩ = some f ∧ w.cell? ⟨g, 6, none⟩ = some h ∧ w.cell? ⟨g, 7, none⟩ = some i ∧ w.cell? ⟨g, 8, none⟩ = some j ∧ w.cell? ⟨g, 9, none⟩ = some k ∧ w.cell? ⟨g, 10, none⟩ = some l :=
  ⟨cell_of_row w g 0 _ _ _ hx, cell_of_row w g 1 _ _ _ hx, cell_of_row w g 2 _ _ _ hx, cell_of_row w g 3 _ _ _ hx, cell_of_row w g 4 _ _ _ hx, cell_of_row w g 5 _ _ _ hx, cell_of_row w g 6 _ _ _ hx, cell_of_row w g 7 _ _ _ hx, cell_of_row w g 8 _ _ _ hx, cell_of_row w g 9 _ _ _ hx, cell_of_row w g 10 _ _ _ hx⟩
theorem RdK.at2 {w w' : World} {A : Option Addr} {n cap i : Nat} {l : List Act} {a : Act} (h : RdK w (.slice A n cap) n l) (ha : l[i]? = some a) (hb : Below w.heap.size w w') :
    ∃ b off dA dc, A = some ⟨b, off, none⟩ ∧ b < w'.heap.size ∧ InU w (.slice dA a.data.length dc) a.data.length a.data ∧ w'.cell? ⟨b, off + i * 11, none⟩ = some (.int .i64 a.x.who) ∧ w'.cell? ⟨b, off + i * 11 + 1, none⟩ = some (.int .i64 a.x.obj) ∧ w'.cell? ⟨b, off + i * 11 + 2, none⟩ = some (.int .i64 a.x.call) ∧ w'.cell? ⟨b, off + i * 11 + 3, none⟩ = some (.int .i64 a.x.part) ∧ w'.cell? ⟨b, off + i * 11 + 4, none⟩ = some (.int .u32 a.x.arg) ∧ w'.cell? ⟨b, off + i * 11 + 5, none⟩ = some (.int .u32 a.x.val) ∧ w'.cell? ⟨b, off + i * 11 + 6, none⟩ = some (.int .i64 a.site) ∧ w'.cell? ⟨b, off + i * 11 + 7, none⟩ = some (.int .i64 a.at_) ∧ w'.cell? ⟨b, off + i * 11 + 8, none⟩ = some (.bool a.ended) ∧ w'.cell? ⟨b, off + i * 11 + 9, none⟩ = some (.int .u32 a.res) ∧ w'.cell? ⟨b, off + i * 11 + 10, none⟩ = some (.slice dA a.data.length dc) := by
  obtain ⟨b, off, dA, dc, e, hlt, hU, h0, h1, h2, h3, h4, h5, h6, h7, h8, h9, h10⟩ := h.at ha
  have k := fun j => hb.cell (p := ⟨b, j, none⟩) hlt
  exact ⟨b, off, dA, dc, e, Nat.lt_of_lt_of_le hlt hb.size, hU, (k _).trans h0, (k _).trans h1, (k _).trans h2, (k _).trans h3, (k _).trans h4, (k _).trans h5, (k _).trans h6, (k _).trans h7, (k _).trans h8, (k _).trans h9, (k _).trans h10⟩
def JI (w : World) (W0 : World) (mb B g : Nat) (th : Int) (S : List St) (wr : World) : Prop := MachI wr mb B g th S ∧ Below B W0 wr
set_option maxHeartbeats 4000000 in
theorem judge_any (w : World) (T : TabO w) (ov nv kv : Value) (vs rm : Int) (tA : Option Addr) (th tc m n : Nat) (obs : List Ob) (acts : List Act) (hI : InO w ov m obs) (hm : m ≤ 1000) (hK : RdK w kv n acts) (hn : n ≤ 300) (hx : ∀ a ∈ acts, 0 ≤ a.x.arg ∧ a.x.arg ≤ 4294967295 ∧ a.data.length ≤ 20) (hth : th ≤ 1000000) :
    Calls Tryd.prog 6 #[.agg #[ov, .int .i64 vs, nv, .int .i64 rm, .slice tA th tc], kv] w fun e w' => e = .returned (.int .i64 (if NewOk th obs then judgeM th (obs.map St.new) acts 0 else 0)) ∧ Below w.heap.size w w' := by
  have HI := Lib.hid hI
  have HT := Lib.hid T
  have HK := Lib.hid hK
  have HX := Lib.hid hx
  obtain ⟨hml, oA, oc, rfl, _⟩ := hI
  obtain ⟨hkl, kA, kc, rfl, _⟩ := hK
  obtain ⟨r, hr⟩ : ∃ r, r = (if NewOk th obs then judgeM th (obs.map St.new) acts 0 else 0) := ⟨_, rfl⟩
  rw [← hr]
  have hB1 : Below w.heap.size w (w.alloc (.cells #[.slice oA m oc, .int .i64 vs, nv, .int .i64 rm, .slice tA th tc] 28)) := (Below.refl _ w).alloc (Nat.le_refl _) _
  have hnew := absNew_any (w.alloc (.cells #[.slice oA m oc, .int .i64 vs, nv, .int .i64 rm, .slice tA th tc] 28)) (T.below hB1 (Nat.le_refl _)) _ m obs (HI.out.below hB1 (Nat.le_refl _)) hm (th : Int)
  have HB1 := Lib.hid hB1
  have hsz : (w.alloc (.cells #[.slice oA m oc, .int .i64 vs, nv, .int .i64 rm, .slice tA th tc] 28)).heap.size = w.heap.size + 1 := by simp
  have HSZ := Lib.hid hsz
  have n300 : (n : Int) ≤ 300 := by omega
  clear hx hB1 T hsz
  by_cases hok : NewOk th obs
  · have HR : Hid (r = judgeM th (obs.map St.new) (acts.drop 0) 0) := by
      show r = _
      rw [hr, if_pos hok, List.drop_zero]
    have HSM : Hid (∀ s ∈ obs.map St.new, SmallT 0 s) := by
      intro s hs
      obtain ⟨o, ho, rfl⟩ := List.mem_map.1 hs
      exact St.new_small (hok.2.2 o ho)
    have hnew2 : Calls Tryd.prog 7 #[.slice oA m oc, .int .i64 (th : Int)] (w.alloc (.cells #[.slice oA m oc, .int .i64 vs, nv, .int .i64 rm, .slice tA th tc] 28)) fun e w' => ∃ mb g, e = .returned (.tuple #[.pointer (some ⟨mb, 0, none⟩), .int .i64 0]) ∧ JI w (w.alloc (.cells #[.slice oA m oc, .int .i64 vs, nv, .int .i64 rm, .slice tA th tc] 28)) mb (w.alloc (.cells #[.slice oA m oc, .int .i64 vs, nv, .int .i64 rm, .slice tA th tc] 28)).heap.size g th (obs.map St.new) w' := hnew.mono fun e w' ⟨hb, h⟩ => by
      rcases h with ⟨_, mb, g, he, hm⟩ | ⟨h, _⟩
      · exact ⟨mb, g, he, hm, hb⟩
      · exact absurd hok h
    clear hr hnew hok
    go_enter Tryd.func6, Tryd.ntmps6
    go_wp2_with (go_at_call 7; refine hnew2.mono ?_; rintro e wN ⟨mb, g, rfl, hJ⟩; have HJ := Lib.hid hJ; clear hJ)
    go_loopw [24] (fun iv wr => ∃ (i : Nat) (S : List St), i ≤ n ∧ iv = .int .i64 i ∧ Hid (JI w (w.alloc (.cells #[.slice oA m oc, .int .i64 vs, nv, .int .i64 rm, .slice tA th tc] 28)) mb (w.alloc (.cells #[.slice oA m oc, .int .i64 vs, nv, .int .i64 rm, .slice tA th tc] 28)).heap.size g th S wr) ∧ Hid (∀ s ∈ S, SmallT i s) ∧ Hid (r = judgeM th S (acts.drop i) i)) (fun i _ => n - (intOf i).toNat)
    case atStart => exact ⟨0, _, by omega, rfl, HJ, HSM, HR⟩
    case round =>
      clear HR HSM HJ hnew2
      obtain ⟨i, S, hin, rfl, HJ, HS, HE⟩ := hrel
      obtain ⟨hMI, hbr⟩ := HJ.out
      have hbw : Below w.heap.size w wr := HB1.out.trans (hbr.mono (by rw [HSZ.out]; omega))
      have HBW := Lib.hid hbw
      have HMI := Lib.hid hMI
      have HBR := Lib.hid hbr
      clear HJ hMI hbr hbw
      by_cases hlt : i < n
      · obtain ⟨a, ha⟩ : ∃ a, acts[i]? = some a := ⟨_, List.getElem?_eq_getElem (by omega)⟩
        obtain ⟨b0, o0, dA, dc, rfl, hb0, hdU, a0, a1, a2, a3, a4, a5, a6, a7, a8, a9, a10⟩ := RdK.at2 HK.out ha HBW.out
        have hax := HX.out a (List.mem_of_getElem? ha)
        have hE := HE.out
        rw [drop_one _ _ _ ha, judgeM] at hE
        have HE1 := Lib.hid hE
        have HKA := Lib.hid ((Below.refl wr.heap.size wr).alloc (Nat.le_refl _) (.cells #[.int .i64 a.x.who, .int .i64 a.x.obj, .int .i64 a.x.call, .int .i64 a.x.part, .int .u32 a.x.arg, .int .u32 a.x.val, .int .i64 a.site, .int .i64 a.at_, .bool a.ended, .int .u32 a.res, .slice dA a.data.length dc] 35))
        have HKC := Lib.hid (heap_alloc_new wr (.cells #[.int .i64 a.x.who, .int .i64 a.x.obj, .int .i64 a.x.call, .int .i64 a.x.part, .int .u32 a.x.arg, .int .u32 a.x.val, .int .i64 a.site, .int .i64 a.at_, .bool a.ended, .int .u32 a.res, .slice dA a.data.length dc] 35))
        have hdo := doM_any (wr.alloc (.cells #[.int .i64 a.x.who, .int .i64 a.x.obj, .int .i64 a.x.call, .int .i64 a.x.part, .int .u32 a.x.arg, .int .u32 a.x.val, .int .i64 a.site, .int .i64 a.at_, .bool a.ended, .int .u32 a.res, .slice dA a.data.length dc] 35)) ((HT.out.below HBW.out (Nat.le_refl _)).below HKA.out (Nat.le_refl _)) mb _ g th S (HMI.out.keep HKA.out (Nat.le_refl _)) a.x hax.1 hax.2.1 i (by omega) HS.out
        have HS1 := Lib.hid (small_at th a.x HS.out)
        have HDU := Lib.hid hdU
        have hgl : g < wr.heap.size := HMI.out.2.1
        have hBg : w.heap.size + 1 ≤ g := by have := HMI.out.1; rw [HSZ.out] at this; exact this
        clear hE HE ha hdU
        -- what is known behind the call
        have hbD : ∀ wD, Only (fun k => k = g) (wr.alloc (.cells #[.int .i64 a.x.who, .int .i64 a.x.obj, .int .i64 a.x.call, .int .i64 a.x.part, .int .u32 a.x.arg, .int .u32 a.x.val, .int .i64 a.site, .int .i64 a.at_, .bool a.ended, .int .u32 a.res, .slice dA a.data.length dc] 35)) wD → Below (w.alloc (.cells #[.slice oA m oc, .int .i64 vs, nv, .int .i64 rm, .slice tA th tc] 28)).heap.size (w.alloc (.cells #[.slice oA m oc, .int .i64 vs, nv, .int .i64 rm, .slice tA th tc] 28)) wD ∧ wD.heap[wr.heap.size]? = some (.cells #[.int .i64 a.x.who, .int .i64 a.x.obj, .int .i64 a.x.call, .int .i64 a.x.part, .int .u32 a.x.arg, .int .u32 a.x.val, .int .i64 a.site, .int .i64 a.at_, .bool a.ended, .int .u32 a.res, .slice dA a.data.length dc] 35) ∧ InU wD (.slice dA a.data.length dc) a.data.length a.data ∧ wr.heap.size < wD.heap.size := fun wD hO => by
          have hz := hO.size
          simp only [World.size_alloc] at hz
          have hb0 : Below (w.alloc (.cells #[.slice oA m oc, .int .i64 vs, nv, .int .i64 rm, .slice tA th tc] 28)).heap.size (w.alloc (.cells #[.slice oA m oc, .int .i64 vs, nv, .int .i64 rm, .slice tA th tc] 28)) wD := HBR.out.trans ((HKA.out.mono HBR.out.size).trans (hO.below (Nat.le_trans HBR.out.size HKA.out.size) (fun k e => by subst e; exact HMI.out.1)))
          have hb1 : Below w.heap.size w wD := HB1.out.trans (hb0.mono (by rw [HSZ.out]; omega))
          exact ⟨hb0, (hO.block _ (by simp) (by omega)).trans HKC.out, HDU.out.below hb1 (Nat.le_refl _), by omega⟩
        have HBD := Lib.hid hbD
        clear hbD
        cases hq : (doAt th S a.x).1 with
        | none =>
          have HR2 : Hid (r = (i : Int)) := by
            show r = _
            rw [HE1.out, hq]
          have hdo2 : Calls Tryd.prog 9 #[.pointer (some ⟨mb, 0, none⟩), .agg #[.int .i64 a.x.who, .int .i64 a.x.obj, .int .i64 a.x.call, .int .i64 a.x.part, .int .u32 a.x.arg, .int .u32 a.x.val]] (wr.alloc (.cells #[.int .i64 a.x.who, .int .i64 a.x.obj, .int .i64 a.x.call, .int .i64 a.x.part, .int .u32 a.x.arg, .int .u32 a.x.val, .int .i64 a.site, .int .i64 a.at_, .bool a.ended, .int .u32 a.res, .slice dA a.data.length dc] 35)) fun e w' => ∃ eA ec, e = .returned (.tuple #[.agg #[.int .u32 0, .slice eA 0 ec], .bool false]) ∧ Only (fun k => k = g) (wr.alloc (.cells #[.int .i64 a.x.who, .int .i64 a.x.obj, .int .i64 a.x.call, .int .i64 a.x.part, .int .u32 a.x.arg, .int .u32 a.x.val, .int .i64 a.site, .int .i64 a.at_, .bool a.ended, .int .u32 a.res, .slice dA a.data.length dc] 35)) w' := hdo.mono (fun e w' ⟨dv, h1, h2, h3, h4⟩ => by
            rw [hq] at h1 h2
            obtain ⟨eA, ec, rfl⟩ := h2.form
            exact ⟨eA, ec, h1, h4⟩)
          clear hdo hq HE1
          go_wp2_with (go_at_call 9; refine hdo2.mono ?_; rintro e wD ⟨eA, ec, rfl, hO⟩)
          go_ret
          have h2 := (HBD.out wD hO).1
          have h3 := HB1.out.trans (h2.mono (by rw [HSZ.out]; omega))
          exact ⟨by rw [HR2.out]; rfl, h3.alloc h3.size _⟩
        | some wv =>
          obtain ⟨rr, dd⟩ := wv
          have hdo2 : Calls Tryd.prog 9 #[.pointer (some ⟨mb, 0, none⟩), .agg #[.int .i64 a.x.who, .int .i64 a.x.obj, .int .i64 a.x.call, .int .i64 a.x.part, .int .u32 a.x.arg, .int .u32 a.x.val]] (wr.alloc (.cells #[.int .i64 a.x.who, .int .i64 a.x.obj, .int .i64 a.x.call, .int .i64 a.x.part, .int .u32 a.x.arg, .int .u32 a.x.val, .int .i64 a.site, .int .i64 a.at_, .bool a.ended, .int .u32 a.res, .slice dA a.data.length dc] 35)) fun e w' => ∃ eA ec, e = .returned (.tuple #[.agg #[.int .u32 rr, .slice eA dd.length ec], .bool true]) ∧ InU w' (.slice eA dd.length ec) dd.length dd ∧ MachI w' mb (w.alloc (.cells #[.slice oA m oc, .int .i64 vs, nv, .int .i64 rm, .slice tA th tc] 28)).heap.size g th (doAt th S a.x).2 ∧ Only (fun k => k = g) (wr.alloc (.cells #[.int .i64 a.x.who, .int .i64 a.x.obj, .int .i64 a.x.call, .int .i64 a.x.part, .int .u32 a.x.arg, .int .u32 a.x.val, .int .i64 a.site, .int .i64 a.at_, .bool a.ended, .int .u32 a.res, .slice dA a.data.length dc] 35)) w' := hdo.mono (fun e w' ⟨dv, h1, h2, h3, h4⟩ => by
            rw [hq] at h1 h2
            obtain ⟨eA, ec, rfl⟩ := h2.form
            exact ⟨eA, ec, h1, InU.of_rd h2, h3, h4⟩)
          have hdl := hax.2.2
          by_cases hf : fitsP a (rr, dd)
          · have HE2 : Hid (r = judgeM th (doAt th S a.x).2 (acts.drop (i + 1)) (i + 1)) := by
              show r = _
              rw [HE1.out, hq]
              simp only
              rw [if_pos hf]
            have dF : decide (fitsP a (rr, dd)) = true := decide_eq_true hf
            clear hdo hq HE1 hf hax
            go_wp2_with (first
              | (go_at_call 9; refine hdo2.mono ?_; rintro e wD ⟨eA, ec, rfl, hUV, hMD, hO⟩; obtain ⟨hbD1, hKD, hUD, hsD⟩ := HBD.out wD hO; obtain ⟨y0, y1, y2, y3, y4, y5, y6, y7, y8, y9, y10⟩ := cells11b hKD; have HAL := Lib.hid ((Below.refl wD.heap.size wD).alloc (Nat.le_refl _) (.cells #[.int .u32 rr, .slice eA dd.length ec] 50)); have HUV := Lib.hid hUV; have HUD := Lib.hid hUD; have HMD := Lib.hid hMD; have HBD1 := Lib.hid hbD1; clear hUV hUD hMD hbD1 hKD hO)
              | (go_at_call 10; refine (fits_any _ a dA eA dc ec rr dd (HUD.out.below HAL.out (Nat.le_refl _)) (HUV.out.below HAL.out (Nat.le_refl _)) hdl).mono ?_; rintro e wF ⟨rfl, hbF⟩))
            refine ⟨⟨i + 1, (doAt th S a.x).2, by omega, by simp, ?_, HS1, HE2⟩, by simp [intOf]; omega⟩
            exact ⟨(HMD.out.keep HAL.out (Nat.le_refl _)).keep hbF (Nat.le_refl _), HBD1.out.trans ((HAL.out.trans (hbF.mono HAL.out.size)).mono HBD1.out.size)⟩
          · have HE2 : Hid (r = (i : Int)) := by
              show r = _
              rw [HE1.out, hq]
              simp only
              rw [if_neg hf]
            have dF : decide (fitsP a (rr, dd)) = false := decide_eq_false hf
            clear hdo hq HE1 hf hax
            go_wp2_with (first
              | (go_at_call 9; refine hdo2.mono ?_; rintro e wD ⟨eA, ec, rfl, hUV, hMD, hO⟩; obtain ⟨hbD1, hKD, hUD, hsD⟩ := HBD.out wD hO; obtain ⟨y0, y1, y2, y3, y4, y5, y6, y7, y8, y9, y10⟩ := cells11b hKD; have HAL := Lib.hid ((Below.refl wD.heap.size wD).alloc (Nat.le_refl _) (.cells #[.int .u32 rr, .slice eA dd.length ec] 50)); have HUV := Lib.hid hUV; have HUD := Lib.hid hUD; have HMD := Lib.hid hMD; have HBD1 := Lib.hid hbD1; clear hUV hUD hMD hbD1 hKD hO)
              | (go_at_call 10; refine (fits_any _ a dA eA dc ec rr dd (HUD.out.below HAL.out (Nat.le_refl _)) (HUV.out.below HAL.out (Nat.le_refl _)) hdl).mono ?_; rintro e wF ⟨rfl, hbF⟩))
            go_ret
            have h2 := HBD1.out.trans ((HAL.out.trans (hbF.mono HAL.out.size)).mono HBD1.out.size)
            exact ⟨by rw [HE2.out]; rfl, HB1.out.trans (h2.mono (by rw [HSZ.out]; omega))⟩
      · have HR2 : Hid (r = -1) := by
          show r = _
          rw [HE.out, List.drop_eq_nil_of_le (by omega)]; rfl
        clear HE
        go_wp2_with fail
        go_ret
        exact ⟨by rw [HR2.out] <;> rfl, HBW.out⟩
  · have hnew2 : Calls Tryd.prog 7 #[.slice oA m oc, .int .i64 (th : Int)] (w.alloc (.cells #[.slice oA m oc, .int .i64 vs, nv, .int .i64 rm, .slice tA th tc] 28)) fun e w' => e = .returned (.tuple #[.pointer none, .int .i64 1]) ∧ Below w.heap.size w w' := hnew.mono fun e w' ⟨hb, h⟩ => by
      rcases h with ⟨h, _⟩ | ⟨_, h⟩
      · exact absurd h hok
      · exact ⟨h, HB1.out.trans (hb.mono HB1.out.size)⟩
    have HR : Hid (r = 0) := by
      show r = _
      rw [hr, if_neg hok]
    clear hr hnew hok
    go_enter Tryd.func6, Tryd.ntmps6
    go_wp2_with (go_at_call 7; refine hnew2.mono ?_; rintro e wN ⟨rfl, hbN⟩)
    go_ret
    exact ⟨by rw [HR.out] <;> rfl, hbN⟩

end Go.Proofs.YtfemeiopfpblaaaDoor.As
