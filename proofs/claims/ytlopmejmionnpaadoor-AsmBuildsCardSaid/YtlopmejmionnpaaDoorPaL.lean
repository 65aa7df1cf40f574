/- The walks of the package asm: a line is read. -/
import Derived.Test.YtlopmejmionnpaaDoorPaK
set_option linter.unusedVariables false
set_option linter.unusedSimpArgs false
namespace Go.Proofs.YtlopmejmionnpaaDoor.As
open Go.RowKit

theorem enters_fid (f : UInt8) : ∀ args w, (callFunc (fid f) args).run Tryd.prog w = .ok (.enter (fid f) args) w := by
  unfold fid
  repeat' split
  · exact enters_of Tryd.func67 (by kernel_rfl) rfl
  · exact enters_of Tryd.func69 (by kernel_rfl) rfl
  · exact enters_of Tryd.func70 (by kernel_rfl) rfl
  · exact enters_of Tryd.func68 (by kernel_rfl) rfl
  · exact enters_of Tryd.func71 (by kernel_rfl) rfl
  · exact enters_of Tryd.func72 (by kernel_rfl) rfl
theorem alloc_at (w : World) (o : Obj) (n : Nat) (h : n = w.heap.size) : (w.alloc o).heap[n]? = some o := by subst h; exact heap_alloc_new _ _
theorem takef_any (f : UInt8) (hf : f ∈ ([65, 66, 67, 75, 84, 77] : List UInt8)) (w : World) (R : Nat) (s : LS) (h : LineA w R s) (T : TabA w) (hR : NoA R) :
    Calls Tryd.prog (fid f) #[.pointer (some ⟨R, 0, none⟩)] w (TakeP R (takeB f s) w) := by
  simp only [List.mem_cons, List.not_mem_nil, or_false] at hf
  rcases hf with rfl | rfl | rfl | rfl | rfl | rfl
  · exact ma_any w R s h
  · exact mb_any w R s h
  · exact mc_any w R s h
  · exact mk_any w R s h T hR
  · exact mplace_any w R s h T hR
  · exact mmem_any w R s h T hR
theorem form_mem (op : Int) (h0 : 0 ≤ op) (h1 : op < 28) : ∀ f ∈ formB op, f ∈ ([65, 66, 67, 75, 84, 77] : List UInt8) := by
  rcases form_cases op h0 h1 with e | e | e | e | e | e | e | e | e <;> (injection e with e1 e2; rw [e2]; decide)
theorem form_len (op : Int) (h0 : 0 ≤ op) (h1 : op < 28) : (formB op).length ≤ 3 := by
  rcases form_cases op h0 h1 with e | e | e | e | e | e | e | e | e <;> (injection e with e1 e2; rw [e2]; decide)
/-- A new line. -/
theorem line_new (w : World) (R : Nat) (hR : R = w.heap.size) (v : Value) (ws : List B8) (h : Rd w 1 v ws.length (ws.map str)) (hl : ws.length ≤ 1000000 ∧ (∀ A cap, v = .slice A ws.length cap → cap ≤ 2000000) ∧ ∀ x ∈ ws, x.length ≤ 1000000) (hlt : ∀ b o n cap, v = .slice (some ⟨b, o, none⟩) n cap → b < w.heap.size) :
    LineA (w.alloc (.cells #[v, .int .i64 0, .int .i64 0, .int .i64 0, .int .i64 0, .int .u32 0, .string ⟨#[]⟩] 90)) R ⟨ws, zeroI, []⟩ := by
  subst hR
  obtain ⟨A, cap, rfl⟩ := h.form
  exact ⟨A, cap, heap_alloc_new _ _, h.alloc _, fun b o e => (by subst e; exact hlt b o _ _ rfl), hl.1, hl.2.1 A cap rfl, hl.2.2⟩
/-- What the reading lays into the results at its end. -/
def putW (w : World) (b0 b1 b2 : Nat) (i : Ins) (t : B8) : World :=
  (((((((w.setCell ⟨b0, 0, none⟩ (.int .i64 i.op)).setCell ⟨b0, 1, none⟩ (.int .i64 i.a)).setCell ⟨b0, 2, none⟩ (.int .i64 i.b)).setCell ⟨b0, 3, none⟩ (.int .i64 i.c)).setCell ⟨b0, 4, none⟩ (.int .u32 i.k)).setCell ⟨b1, 0, none⟩ (.string { data := t.toArray })).setCell ⟨b2, 0, none⟩ (.bool true)).drew
theorem res_put {w : World} {b0 b1 b2 : Nat} {i : Ins} {t : B8} {k : Bool} (h : Res w b0 b1 b2 i t k) (i' : Ins) (t' : B8) : Res (putW w b0 b1 b2 i' t') b0 b1 b2 i' t' true := by
  obtain ⟨i0, h1, h2, n1, n2, n3⟩ := h
  have a := ((((i0.set0 i'.op).set1 i'.a).set2 i'.b).set3 i'.c).set4 i'.k
  have b : (((((w.setCell ⟨b0, 0, none⟩ (.int .i64 i'.op)).setCell ⟨b0, 1, none⟩ (.int .i64 i'.a)).setCell ⟨b0, 2, none⟩ (.int .i64 i'.b)).setCell ⟨b0, 3, none⟩ (.int .i64 i'.c)).setCell ⟨b0, 4, none⟩ (.int .u32 i'.k)).heap[b1]? = w.heap[b1]? := by
    rw [heap_setCell_other _ _ _ _ n1, heap_setCell_other _ _ _ _ n1, heap_setCell_other _ _ _ _ n1, heap_setCell_other _ _ _ _ n1, heap_setCell_other _ _ _ _ n1]
  have c : (((((w.setCell ⟨b0, 0, none⟩ (.int .i64 i'.op)).setCell ⟨b0, 1, none⟩ (.int .i64 i'.a)).setCell ⟨b0, 2, none⟩ (.int .i64 i'.b)).setCell ⟨b0, 3, none⟩ (.int .i64 i'.c)).setCell ⟨b0, 4, none⟩ (.int .u32 i'.k)).heap[b2]? = w.heap[b2]? := by
    rw [heap_setCell_other _ _ _ _ n2, heap_setCell_other _ _ _ _ n2, heap_setCell_other _ _ _ _ n2, heap_setCell_other _ _ _ _ n2, heap_setCell_other _ _ _ _ n2]
  unfold putW
  generalize ((((w.setCell ⟨b0, 0, none⟩ (.int .i64 i'.op)).setCell ⟨b0, 1, none⟩ (.int .i64 i'.a)).setCell ⟨b0, 2, none⟩ (.int .i64 i'.b)).setCell ⟨b0, 3, none⟩ (.int .i64 i'.c)).setCell ⟨b0, 4, none⟩ (.int .u32 i'.k) = W at a b c ⊢
  refine ⟨(a.other _ (Ne.symm n1)).other _ (Ne.symm n2), ?_, ?_, n1, n2, n3⟩
  · show ((W.setCell _ _).setCell _ _).heap[b1]? = _
    rw [heap_setCell_other _ _ _ _ (Ne.symm n3), heap_setCell_same _ _ _ _ _ _ (b.trans h1)]; rfl
  · show ((W.setCell _ _).setCell _ _).heap[b2]? = _
    rw [heap_setCell_same _ _ _ _ _ _ ((heap_setCell_other _ _ _ _ n3).trans (c.trans h2))]; rfl
theorem below_put {w0 w : World} {b0 b1 b2 : Nat} (h : Below w0.heap.size w0 w) (hb : w0.heap.size ≤ b0 ∧ w0.heap.size ≤ b1 ∧ w0.heap.size ≤ b2) (i : Ins) (t : B8) : Below w0.heap.size w0 (putW w b0 b1 b2 i t) :=
  below_dn (((((((h.setCell hb.1 _).setCell hb.1 _).setCell hb.1 _).setCell hb.1 _).setCell hb.1 _).setCell hb.2.1 _).setCell hb.2.2 _) 1
/-- All that holds while a line is read; W: the world as it stands. -/
structure Reading (w W : World) (b0 b1 b2 R : Nat) (s : LS) : Prop where
  line : LineA W R s
  res : Res W b0 b1 b2 zeroI [] false
  bel : Below w.heap.size w W
  tab : TabA W
  nam : NamesA W
def Ords (w : World) (b0 b1 b2 R : Nat) : Prop := w.heap.size ≤ b0 ∧ b0 < b1 ∧ b1 < b2 ∧ b2 < R
theorem only_below {w W W' : World} {R : Nat} (hb : Below w.heap.size w W) (hR : w.heap.size ≤ R) (ho : Only (AtR R) W W') : Below w.heap.size w W' :=
  ⟨ho.os.trans hb.os, ho.tape.trans hb.tape, ho.output.trans hb.output, Nat.le_trans hb.size ho.size, fun k hk => (ho.block k (Nat.lt_of_lt_of_le hk hb.size) (fun e => by rw [show k = R from e] at hk; omega)).trans (hb.block k hk)⟩
theorem Reading.only {w W W' : World} {b0 b1 b2 R : Nat} {s s' : LS} (h : Reading w W b0 b1 b2 R s) (hb : Ords w b0 b1 b2 R) (hw : TabA w) (hl : LineA W' R s') (ho : Only (AtR R) W W') : Reading w W' b0 b1 b2 R s' := by
  obtain ⟨q0, q1, q2, q3⟩ := hb
  refine ⟨hl, h.res.only ho (by omega), only_below h.bel (by omega) ho, h.tab.only ho (fun k hk => by rw [show k = R from hk]; exact hw.new (by omega)), h.nam.of_blk (ho.block _ h.nam.lt (fun e => ?_))⟩
  have e2 : 1 = R := e
  have := hw.isa.lt.1; omega
theorem Reading.gave {w W W' : World} {b0 b1 b2 R : Nat} {s : LS} (h : Reading w W b0 b1 b2 R s) (hb : Ords w b0 b1 b2 R) (ho : Only (AtR R) W W') (tmps : Array Value)
    (h2 : tmps.getD 2 undef = .pointer (some ⟨b0, 0, none⟩)) (h3 : tmps.getD 3 undef = .pointer (some ⟨b1, 0, none⟩)) (h4 : tmps.getD 4 undef = .pointer (some ⟨b2, 0, none⟩)) :
    Leaves Tryd.prog Tryd.f31 tmps (ReadR none w) [dfr b0 b1 b2] (.panicking [{ v := .iface 111 (.agg #[]), recovered := false }]) W' := by
  obtain ⟨q0, q1, q2, q3⟩ := hb
  exact leave_gave (h.res.only ho (by omega)) (only_below h.bel (by omega) ho) (by omega) tmps h2 h3 h4
set_option maxHeartbeats 2000000 in
theorem pread_any (w : World) (v : Value) (ws : List B8) (h : Rd w 1 v ws.length (ws.map str)) (hl : ws.length ≤ 1000000 ∧ (∀ A cap, v = .slice A ws.length cap → cap ≤ 2000000) ∧ ∀ x ∈ ws, x.length ≤ 1000000) (T : TabA w) (N : NamesA w) :
    Calls Tryd.prog 31 #[v] w (ReadR (readP ws) w) := by
  obtain ⟨o, ho⟩ : ∃ o, readP ws = o := ⟨_, rfl⟩
  rw [ho]
  have hlt : ∀ b o n cap, v = .slice (some ⟨b, o, none⟩) n cap → b < w.heap.size := fun b o n cap e => by
    subst e
    obtain ⟨A, cap', e2⟩ := h.form
    injection e2 with e3 e4 e5
    subst e4
    exact h.lt
  have hrd := ((h.alloc (.cells #[.int .i64 0, .int .i64 0, .int .i64 0, .int .i64 0, .int .u32 0] 34)).alloc (.cells #[.string { data := #[] }] 9)).alloc (.cells #[.bool false] 4)
  have hbe : Below w.heap.size w (((w.alloc (.cells #[.int .i64 0, .int .i64 0, .int .i64 0, .int .i64 0, .int .u32 0] 34)).alloc (.cells #[.string { data := #[] }] 9)).alloc (.cells #[.bool false] 4)) :=
    (((Below.refl _ w).alloc (Nat.le_refl _) _).alloc (by simp) _).alloc (by simp; omega) _
  have hline := line_new _ (w.heap.size + 1 + 1 + 1) (by simp) v ws hrd hl (fun b o n cap e => by have := hlt b o n cap e; have := hbe.size; omega)
  have hbe2 := hbe.alloc hbe.size (.cells #[v, .int .i64 0, .int .i64 0, .int .i64 0, .int .i64 0, .int .u32 0, .string ⟨#[]⟩] 90)
  have r0 : Blk (w.alloc (.cells #[.int .i64 0, .int .i64 0, .int .i64 0, .int .i64 0, .int .u32 0] 34)) w.heap.size zeroI := Blk.new w zeroI
  obtain ⟨A, cap, rfl⟩ := h.form
  have hread : Reading w ((((w.alloc (.cells #[.int .i64 0, .int .i64 0, .int .i64 0, .int .i64 0, .int .u32 0] 34)).alloc (.cells #[.string { data := #[] }] 9)).alloc (.cells #[.bool false] 4)).alloc (.cells #[.slice A ws.length cap, .int .i64 0, .int .i64 0, .int .i64 0, .int .i64 0, .int .u32 0, .string { data := #[] }] 90))
      w.heap.size (w.heap.size + 1) (w.heap.size + 1 + 1) (w.heap.size + 1 + 1 + 1) ⟨ws, zeroI, []⟩ := by
    refine ⟨hline, ⟨((r0.alloc _).alloc _).alloc _, ?_, ?_, by omega, by omega, by omega⟩, hbe2, T.below hbe2 (Nat.le_refl _), N.of_blk (hbe2.block _ N.lt)⟩
    · exact (Below.heap_alloc _ _ _ (by simp)).trans ((Below.heap_alloc _ _ _ (by simp)).trans (alloc_at _ _ _ (by simp)))
    · exact (Below.heap_alloc _ _ _ (by simp)).trans (alloc_at _ _ _ (by simp))
  have hord : Ords w w.heap.size (w.heap.size + 1) (w.heap.size + 1 + 1) (w.heap.size + 1 + 1 + 1) := ⟨Nat.le_refl _, by omega, by omega, by omega⟩
  have HO := Lib.hid ho
  have HT := Lib.hid T
  have HL := Lib.hid hl
  have HRD := Lib.hid hread
  have HOR := Lib.hid hord
  clear ho T N hl h hlt hline hrd hbe hbe2 r0 hread hord
  have hmf : ∀ (fn : Fn) (first cap : Array Value) (w : World), (Instr.makeFunc fn first cap).run Tryd.prog w = .ok (.func fn first cap) w := fun _ _ _ _ => rfl
  go_enter_defers Tryd.func31, Tryd.ntmps31
  go_wp2_with fail
  have hRD := HRD.out
  have hOR := HOR.out
  clear HRD HOR
  generalize (((w.alloc (.cells #[.int .i64 0, .int .i64 0, .int .i64 0, .int .i64 0, .int .u32 0] 34)).alloc (.cells #[.string { data := #[] }] 9)).alloc (.cells #[.bool false] 4)).alloc (.cells #[.slice A ws.length cap, .int .i64 0, .int .i64 0, .int .i64 0, .int .i64 0, .int .u32 0, .string { data := #[] }] 90) = W at hRD ⊢
  generalize w.heap.size + 1 + 1 + 1 = R at hRD hOR ⊢
  generalize w.heap.size + 1 + 1 = b2 at hRD hOR ⊢
  generalize w.heap.size + 1 = b1 at hRD hOR ⊢
  obtain ⟨b0, hb0⟩ : ∃ b0, w.heap.size = b0 := ⟨_, rfl⟩
  rw [hb0] at hRD hOR ⊢
  have HRD := Lib.hid hRD
  have HOR := Lib.hid hOR
  clear hRD hOR hb0
  cases hws : ws with
  | nil =>
    obtain rfl : none = o := by rw [← HO.out, hws]; rfl
    have HS := Lib.hid (show (LS.mk ws zeroI []).ws = [] from hws)
    clear hws
    refine (next_no _ R ⟨ws, zeroI, []⟩ HS.out HRD.out.line).mono ?_
    rintro e w1 ⟨rfl, rfl⟩
    exact HRD.out.gave HOR.out (Only.refl _ _) _ rfl rfl rfl
  | cons w0 r =>
    have HWS := Lib.hid hws
    have HS := Lib.hid (show (LS.mk ws zeroI []).ws = w0 :: r from hws)
    clear hws
    refine (next_yes _ R ⟨ws, zeroI, []⟩ w0 r HS.out HRD.out.line).mono ?_
    rintro e w1 ⟨rfl, h1, o1⟩
    have HR1 := Lib.hid (HRD.out.only HOR.out HT.out h1 o1)
    have hw0 : w0.length ≤ 1000000 := HL.out.2.2 w0 (by rw [HWS.out]; simp)
    clear h1 o1 HRD
    go_wp2_with fail
    refine (opn_any _ ⟨w0.toArray⟩ HR1.out.nam).mono ?_
    rintro e w2 ⟨he, hw2⟩
    rw [show (ByteArray.mk w0.toArray).data.toList = w0 from rfl] at he
    subst hw2
    by_cases hop : opB w0 < 0
    · obtain rfl : none = o := by rw [← HO.out, HWS.out]; show none = if opB w0 < 0 then none else _; rw [if_pos hop]
      rw [show decide (0 ≤ opB w0) = false from decide_eq_false (by omega)] at he
      subst he
      clear hop
      go_wp2_with fail
      refine (must_no _).mono ?_
      rintro e w3 ⟨rfl, rfl⟩
      exact HR1.out.gave HOR.out (Only.refl _ _) _ rfl rfl rfl
    · have hrp : readP ws = endB (takesB (formB (opB w0)) ⟨r, { zeroI with op := opB w0 }, []⟩) := by rw [HWS.out]; show (if opB w0 < 0 then none else _) = _; rw [if_neg hop]; rfl
      rw [HO.out] at hrp
      rw [show decide (0 ≤ opB w0) = true from decide_eq_true (by omega), show opV w0 = opB w0 from by unfold opV; rw [if_pos (by omega)]] at he
      subst he
      have hlt28 := opB_lt w0
      obtain ⟨op, hope⟩ : ∃ op, opB w0 = op := ⟨_, rfl⟩
      rw [hope] at hrp hop hlt28 ⊢
      have h0op : 0 ≤ op := by omega
      have hfm := form_mem op h0op hlt28
      have hfl := form_len op h0op hlt28
      have HRP := Lib.hid hrp
      have HOP := Lib.hid (And.intro h0op hlt28)
      have HFM := Lib.hid hfm
      clear hrp hop hope h0op hlt28 hfm HO HS HWS HL
      obtain ⟨A1, cap1, h1⟩ := HR1.out.line
      have H1 := Lib.hid h1
      have f1 := line_f h1 1
      have c1 := cell_of_row w1 R 1 _ _ _ h1.blk
      simp at c1
      clear h1
      go_wp2_with fail
      refine (must_yes _).mono ?_
      rintro e w3 ⟨rfl, rfl⟩
      go_wp2_with fail
      have h2 := line_set H1.out 1 (.int .i64 op) ⟨r, { zeroI with op := op }, []⟩ rfl rfl
      have hr2 := HR1.out.only HOR.out HT.out ⟨_, _, h2⟩ (only_set w1 R 1 (.int .i64 op))
      generalize w1.setCell ⟨R, 1, none⟩ (.int .i64 op) = W2 at hr2 ⊢
      have HR2 := Lib.hid hr2
      clear h2 hr2 f1 c1 H1 HR1
      refine (form_any op _ HR2.out.tab.isa HOP.out.1 HOP.out.2).mono ?_
      rintro e W3 hform
      obtain ⟨fs, hfs⟩ : ∃ fs, formB op = fs := ⟨_, rfl⟩
      unfold FormR at hform
      rw [hfs] at hform hfl
      have HFS := Lib.hid hfs
      clear hfs
      have key : Hid (Reading w W3 b0 b1 b2 R ⟨r, { zeroI with op := op }, []⟩) ∧ ∃ A3, e = .returned (.slice A3 fs.length fs.length) ∧ Hid (∀ (k : Nat) (f : UInt8), fs[k]? = some f → ∃ B, A3 = some ⟨B, 0, none⟩ ∧ B ≠ R ∧ B < W3.heap.size ∧ W3.cell? ⟨B, k, none⟩ = some (fnOf f)) := by
        rcases hform with ⟨hn, he, hw⟩ | ⟨hn, he, hw⟩
        · refine ⟨by rw [hw]; exact HR2, none, by rw [he, hn]; rfl, Lib.hid (fun k f hk => by rw [hn] at hk; simp at hk)⟩
        · have hbl : Below W2.heap.size W2 W3 := by rw [hw]; exact (Below.refl _ _).alloc (Nat.le_refl _) _
          refine ⟨Lib.hid (HR2.out.only HOR.out HT.out (HR2.out.line.below hbl) (only_bl hbl)), some ⟨W2.heap.size, 0, none⟩, he, Lib.hid (fun k f hk => ⟨W2.heap.size, rfl, ?_, ?_, ?_⟩)⟩
          · have := HR2.out.line.lt; omega
          · rw [hw]; simp
          · rw [hw, World.cell?_alloc_new]
            simp [hk]
      obtain ⟨HR3, A3, rfl, HFN⟩ := key
      clear hform HR2
      obtain ⟨n, hn⟩ : ∃ n, fs.length = n := ⟨_, rfl⟩
      rw [hn] at hfl ⊢
      have HNL := Lib.hid hn
      clear hn
      go_wp2_with fail
      go_loopw [30] (fun iv wr => ∃ (k : Nat) (s' : LS), k ≤ n ∧ iv = .int .i64 k ∧ Hid (Reading w wr b0 b1 b2 R s') ∧ Hid (Only (AtR R) W3 wr) ∧ Hid (takesB (fs.drop k) s' = takesB fs ⟨r, { zeroI with op := op }, []⟩)) (fun iv _ => n - (intOf iv).toNat)
      case atStart => exact ⟨0, _, by omega, rfl, HR3, Lib.hid (Only.refl _ _), Lib.hid rfl⟩
      case round =>
        obtain ⟨k, s', hk, rfl, HRK, HOK, HTK⟩ := hrel
        by_cases hlt : k < n
        · obtain ⟨f, hf⟩ : ∃ f, fs[k]? = some f := ⟨_, List.getElem?_eq_getElem (by rw [HNL.out]; exact hlt)⟩
          obtain ⟨B, rfl, hBR, hBl, hcf⟩ := HFN.out k f hf
          have hcell : wr.cell? ⟨B, k, none⟩ = some (fnOf f) := (World.cell?_of_block (w := W3) (a := ⟨B, k, none⟩) (HOK.out.block B hBl (fun e => hBR e))).trans hcf
          unfold fnOf at hcell
          have hmem := HFM.out f (by rw [HFS.out]; exact List.mem_of_getElem? hf)
          have hC := takef_any f hmem wr R s' HRK.out.line HRK.out.tab (HT.out.new (by have := HOR.out; unfold Ords at this; omega))
          have eN := enters_fid f
          have HF := Lib.hid hf
          generalize fid f = N at hcell hC eN
          have HC := Lib.hid hC
          clear hC hcf hf hmem
          go_wp2_with fail
          refine HC.out.mono ?_
          rintro e wr2 ⟨ht1, ht2, ht3⟩
          cases ht : takeB f s' with
          | none =>
            obtain rfl := ht2 ht
            obtain rfl : none = o := by
              rw [HRP.out, HFS.out, ← HTK.out]
              have : fs.drop k = f :: fs.drop (k + 1) := by
                have hkl : k < fs.length := by rw [HNL.out]; exact hlt
                rw [List.drop_eq_getElem_cons hkl]
                have := HF.out
                rw [List.getElem?_eq_getElem hkl] at this
                injection this with this
                rw [this]
              rw [this]
              show none = endB ((takeB f s').bind _)
              rw [ht]; rfl
            exact HRK.out.gave HOR.out ht3 _ rfl rfl rfl
          | some s2 =>
            obtain ⟨rfl, hl2⟩ := ht1 s2 ht
            have HT2 := Lib.hid ht
            have HRK2 := Lib.hid (HRK.out.only HOR.out HT.out hl2 ht3)
            have HOK2 := Lib.hid (only_tr HOK.out ht3)
            clear ht1 ht2 ht3 ht hl2 hcell eN
            go_wp2_with fail
            go_roundw
            case rel =>
              refine ⟨k + 1, s2, by omega, by go_num, HRK2, HOK2, Lib.hid ?_⟩
              have : fs.drop k = f :: fs.drop (k + 1) := by
                have hkl : k < fs.length := by rw [HNL.out]; exact hlt
                rw [List.drop_eq_getElem_cons hkl]
                have := HF.out
                rw [List.getElem?_eq_getElem hkl] at this
                injection this with this
                rw [this]
              rw [← HTK.out, this]
              show _ = (takeB f s').bind _
              rw [HT2.out]; rfl
            case measure => simp [intOf]; omega
        · obtain rfl : k = n := by omega
          have hend : takesB fs ⟨r, { zeroI with op := op }, []⟩ = some s' := by rw [← HTK.out, List.drop_of_length_le (by rw [HNL.out]; exact Nat.le_refl _)]; rfl
          have hoe := HRP.out
          rw [HFS.out, hend] at hoe
          have HOE := Lib.hid (show o = if s'.ws = [] then some (s'.i, s'.to) else none from hoe)
          clear hend hoe hlt
          obtain ⟨A4, cap4, h4⟩ := HRK.out.line
          have hb4 := h4.blk
          by_cases hws : s'.ws = []
          · obtain rfl : some (s'.i, s'.to) = o := by rw [HOE.out, if_pos hws]
            have hres := HRK.out.res
            have hord := HOR.out
            rw [hws] at hb4
            have c0 := cell_of_row wr R 0 _ _ _ hb4
            have c1 := cell_of_row wr R 1 _ _ _ hb4
            have c2 := cell_of_row wr R 2 _ _ _ hb4
            have c3 := cell_of_row wr R 3 _ _ _ hb4
            have c4 := cell_of_row wr R 4 _ _ _ hb4
            have c5 := cell_of_row wr R 5 _ _ _ hb4
            have c6 := cell_of_row wr R 6 _ _ _ hb4
            simp at c0 c1 c2 c3 c4 c5 c6
            obtain ⟨a0, a1, a2, a3, a4⟩ := hres.i0.c
            have g0 := hres.i0.f 0
            have g1 := hres.i0.f 1
            have g2 := hres.i0.f 2
            have g3 := hres.i0.f 3
            have g4 := hres.i0.f 4
            have d1 := cell_of_row wr b1 0 _ _ _ hres.h1
            have d2 := cell_of_row wr b2 0 _ _ _ hres.h2
            have e1 := frozen_of_row wr b1 0 _ _ hres.h1
            have e2 := frozen_of_row wr b2 0 _ _ hres.h2
            simp at d1 d2
            obtain ⟨q0, q1, q2, q3⟩ := hord
            have n1 : ¬ b1 = b0 := by omega
            have n2 : ¬ b2 = b0 := by omega
            have n3 : ¬ b2 = b1 := by omega
            have n4 : ¬ b0 = R := by omega
            have n5 : ¬ b1 = R := by omega
            have n6 : ¬ b2 = R := by omega
            have HRES := Lib.hid hres
            have HQ := Lib.hid q0
            clear hb4 h4 hws hres q0 q1 q2 q3
            generalize s'.i = si at *
            generalize s'.to = sto at *
            go_wp2_with fail
            refine (must_yes _).mono ?_
            rintro e w9 ⟨rfl, rfl⟩
            go_wp2_with fail
            go_region
            go_wp2_with fail
            exact leave_good (res_put HRES.out si sto) (below_put HRK.out.bel (by have := HOR.out; unfold Ords at this; omega) si sto) _ rfl rfl rfl
          · obtain rfl : none = o := by rw [HOE.out, if_neg hws]
            have c0 := cell_of_row wr R 0 _ _ _ hb4
            simp at c0
            have hne : ((s'.ws.length : Int) == 0) = false := beq_eq_false_iff_ne.2 (by intro e; exact hws (List.eq_nil_of_length_eq_zero (by omega)))
            clear hb4 h4 hws
            generalize s'.ws.length = m at c0 hne
            go_wp2_with fail
            refine (must_no _).mono ?_
            rintro e w9 ⟨rfl, rfl⟩
            exact HRK.out.gave HOR.out (Only.refl _ _) _ rfl rfl rfl
end Go.Proofs.YtlopmejmionnpaaDoor.As
