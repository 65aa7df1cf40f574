/- The walks of the package deadlatchref04: a number's digits. The walks of the package deadlatchref04: an instruction's line. -/
import Derived.Test.YtlopmejmionnpaaDoorPaS
import Derived.Test.YtlopmejmionnpaaDoorPaP
import Derived.Test.YtlopmejmionnpaaDoorTxt2
import Derived.BigQuiet
import Derived.Laws.BytesString
import Derived.Laws.IdiomStrings
import Derived.Deep.RegionHeld3
section
set_option linter.unusedVariables false
set_option linter.unusedSimpArgs false
set_option maxRecDepth 2000
namespace Go.Proofs.YtlopmejmionnpaaDoor.As
open Go.RowKit

/-- Bytes as a string. -/
def strB (l : B8) : ByteArray := ⟨l.toArray⟩
theorem strB_app (a b : B8) : strB a ++ strB b = strB (a ++ b) := by
  apply ByteArray.ext
  rw [ByteArray.data_append]
  simp [strB]
theorem strB_size (a : B8) : (strB a).size = a.length := rfl
theorem conv1 (W : World) (b : Nat) (d : Nat) (hd : d < 256) (hc : W.cell? ⟨b, 0, none⟩ = some (.int .u8 (d : Int))) : (convert 73 9 (.slice (some ⟨b, 0, none⟩) 1 1)).run Tryd.prog W = .ok (.string ⟨#[UInt8.ofNat d]⟩) W := by
  have h1 := run_convert_bytes_back (P := Tryd.prog) W 73 9 5 ⟨b, 0, none⟩ 1 [UInt8.ofNat d] (by kernel_rfl) (by kernel_rfl) (by kernel_rfl) (fun j hj => by
    have : j = 0 := by simp at hj; omega
    subst this
    have e : (UInt8.ofNat d).toNat = d := by rw [UInt8.toNat_ofNat']; omega
    show W.cell? ⟨b, 0 + 0, none⟩ = some (.int .u8 (((UInt8.ofNat d).toNat : Nat) : Int))
    rw [e]; exact hc)
  exact h1
theorem digits_small (n : Nat) (w : World) (h : n < 10) : Calls Tryd.prog 37 #[.int .i64 n] w fun e w' => e = .returned (.string (strB (decB n))) ∧ Below w.heap.size w w' := by
  have e1 : IntKind.i64.wrap (48 + (n : Int)) = ((48 + n : Nat) : Int) := by rw [IntKind.wrap_i64]; omega
  have e2 : IntKind.u8.wrap ((48 + n : Nat) : Int) = ((48 + n : Nat) : Int) := by rw [IntKind.wrap_u8]; omega
  have hC : ∀ W b, W.cell? ⟨b, 0, none⟩ = some (.int .u8 ((48 + n : Nat) : Int)) → (convert 73 9 (.slice (some ⟨b, 0, none⟩) 1 1)).run Tryd.prog W = .ok (.string (strB (decB n))) W := fun W b hc => by rw [conv1 W b _ (by omega) hc, decB_small h]; rfl
  generalize ((48 + n : Nat) : Int) = x at *
  go_enter Tryd.func37, Tryd.ntmps37
  go_wp2_with fail
  go_ret
  exact ⟨rfl, (Below.refl _ w).alloc (Nat.le_refl _) _⟩
set_option maxHeartbeats 4000000 in
theorem digits_big (n : Nat) (w : World) (h : ¬ n < 10) (hb : n ≤ 4294967295) (ih : ∀ w : World, Calls Tryd.prog 37 #[.int .i64 ((n / 10 : Nat) : Int)] w fun e w' => e = .returned (.string (strB (decB (n / 10)))) ∧ Below w.heap.size w w')
    (i2 : ∀ w : World, Calls Tryd.prog 37 #[.int .i64 ((n % 10 : Nat) : Int)] w fun e w' => e = .returned (.string (strB (decB (n % 10)))) ∧ Below w.heap.size w w') : Calls Tryd.prog 37 #[.int .i64 n] w fun e w' => e = .returned (.string (strB (decB n))) ∧ Below w.heap.size w w' := by
  obtain ⟨r, hr⟩ : ∃ r : ByteArray, r = strB (decB n) := ⟨_, rfl⟩
  obtain ⟨d, hd⟩ : ∃ d : ByteArray, d = strB (decB (n % 10)) := ⟨_, rfl⟩
  obtain ⟨p, hp⟩ : ∃ p : ByteArray, p = strB (decB (n / 10)) := ⟨_, rfl⟩
  have hrd : p ++ d = r := by
    rw [hr, hd, hp, decB_big h, strB_app, decB_small (show n % 10 < 10 by omega)]
  have hps : p.size ≤ 1000000 := by
    have h1 := decB_len 9 (n / 10) (by omega)
    rw [hp, strB_size]; omega
  have hds : d.size ≤ 1000000 := by
    have h1 := decB_len 9 (n % 10) (by omega)
    rw [hd, strB_size]; omega
  have q1 : (n : Int).tdiv 10 = ((n / 10 : Nat) : Int) := rfl
  have q2 : (n : Int).tmod 10 = ((n % 10 : Nat) : Int) := rfl
  have q3 : IntKind.i64.wrap ((n / 10 : Nat) : Int) = ((n / 10 : Nat) : Int) := by rw [IntKind.wrap_i64]; omega
  have q4 : IntKind.i64.wrap ((n % 10 : Nat) : Int) = ((n % 10 : Nat) : Int) := by rw [IntKind.wrap_i64]; omega
  have hn : (10 : Int) ≤ (n : Int) := by omega
  rw [← hp] at ih
  rw [← hd] at i2
  rw [← hr]
  clear hr hd hp h hb
  generalize ((n % 10 : Nat) : Int) = y at *
  generalize ((n / 10 : Nat) : Int) = z at *
  generalize (n : Int) = m at *
  have I1 := Lib.hid ih
  have I2 := Lib.hid i2
  clear ih i2
  go_enter Tryd.func37, Tryd.ntmps37
  go_wp2_with fail
  refine (I1.out _).mono ?_
  rintro e w1 ⟨rfl, hb1⟩
  have B1 := Lib.hid hb1
  clear hb1
  go_wp2_with fail
  refine (I2.out _).mono ?_
  rintro e w2 ⟨rfl, hb2⟩
  have B2 := Lib.hid (B1.out.trans (hb2.mono B1.out.size))
  clear hb2
  go_wp2_with fail
  go_ret
  exact ⟨rfl, B2.out⟩
theorem digits_go (m : Nat) : ∀ (n : Nat) (w : World), n ≤ m → n ≤ 4294967295 → Calls Tryd.prog 37 #[.int .i64 n] w fun e w' => e = .returned (.string (strB (decB n))) ∧ Below w.heap.size w w' := by
  induction m with
  | zero => intro n w hn _; exact digits_small n w (by omega)
  | succ m ih =>
    intro n w hn hb
    by_cases h : n < 10
    · exact digits_small n w h
    · exact digits_big n w h hb (fun w => ih (n / 10) w (by omega) (by omega)) (fun w => ih (n % 10) w (by omega) (by omega))
theorem digits_any (n : Nat) (w : World) (h : n ≤ 4294967295) : Calls Tryd.prog 37 #[.int .i64 n] w fun e w' => e = .returned (.string (strB (decB n))) ∧ Below w.heap.size w w' := digits_go n n w (Nat.le_refl _) h
end Go.Proofs.YtlopmejmionnpaaDoor.As
end
section
set_option linter.unusedVariables false
set_option linter.unusedSimpArgs false
namespace Go.Proofs.YtlopmejmionnpaaDoor.As
open Go.RowKit

/-- A line from a field on. -/
def lineP (i : Ins) : B8 → B8 → B8
  | s, [] => s
  | s, x :: r =>
    if x = 65 then lineP i (s ++ 32 :: regW i.a) r
    else if x = 66 then lineP i (s ++ 32 :: regW i.b) r
    else if x = 67 then lineP i (s ++ 32 :: regW i.c) r
    else if x = 77 then s ++ 32 :: addrW i.b i.k
    else if x = 75 then lineP i (s ++ 32 :: decB i.k.toNat) r
    else if x = 84 then lineP i (s ++ 32 :: 64 :: decB i.k.toNat) r
    else lineP i s r
def letters : B8 := [65, 66, 67, 75, 77, 84]
theorem lineP_eq (i : Ins) : ∀ (f s : B8), (∀ x ∈ f, x ∈ letters) → lineP i s f = s ++ (wordsB i [] f).flatMap (fun w => 32 :: w)
  | [], s, _ => by simp [lineP, wordsB]
  | x :: r, s, h => by
    have hr : ∀ y ∈ r, y ∈ letters := fun y hy => h y (List.mem_cons_of_mem _ hy)
    have hx : x ∈ letters := h x List.mem_cons_self
    unfold lineP wordsB
    have ih := fun s => lineP_eq i r s hr
    rw [letters] at hx
    simp only [List.mem_cons, List.not_mem_nil, or_false] at hx
    rcases hx with rfl | rfl | rfl | rfl | rfl | rfl <;> simp [ih]
theorem joinB_flat (b : UInt8) : ∀ (w : B8) (ws : List B8), joinB b (w :: ws) = w ++ ws.flatMap (fun w => b :: w)
  | w, [] => by simp [joinB]
  | w, v :: r => by rw [joinB, joinB_flat b v r]; simp
theorem field_letters {op : Int} (h : 0 ≤ op ∧ op < 28) : ∀ x ∈ opField op, x ∈ letters := op_cases (P := fun op => ∀ x ∈ opField op, x ∈ letters) h (by decide)
theorem lineOf_P (i : Ins) (h : 0 ≤ i.op ∧ i.op < 28) : lineOf i [] = lineP i (opName i.op) (opField i.op) := by
  rw [lineP_eq _ _ _ (field_letters h)]
  exact joinB_flat 32 _ _
theorem drop_letter {f : B8} {n : Nat} {x : UInt8} (h : f[n]? = some x) : f.drop n = x :: f.drop (n + 1) := by
  obtain ⟨h1, h2⟩ := List.getElem?_eq_some_iff.1 h
  rw [List.drop_eq_getElem_cons h1, h2]
theorem bcell {w w' : World} {p : Addr} {v : Value} (hb : Below w.heap.size w w') (h : w.cell? p = some v) : w'.cell? p = some v := (hb.cell (block_lt_of_cell h)).trans h
theorem below_drew0 {B : Nat} {a w : World} (h : Below B a w) : Below B a w.drew := ⟨h.os, h.tape, h.output, h.size, h.block⟩
theorem regW_dec {a : Int} (h : 0 ≤ a ∧ a ≤ 7) : strB [32, 114] ++ strB (decB a.toNat) = strB (32 :: regW a) := by
  rw [strB_app, decB_small (by omega)]; rfl
/-- A digit's call, with what it writes as a letter. -/
theorem digits_at (x : Int) (h : 0 ≤ x ∧ x ≤ 4294967295) : ∃ d : ByteArray, d = strB (decB x.toNat) ∧ d.size ≤ 10 ∧ ∀ w : World, Calls Tryd.prog 37 #[.int .i64 x] w fun e w' => e = .returned (.string d) ∧ Below w.heap.size w w' := by
  obtain ⟨n, rfl⟩ := Int.eq_ofNat_of_zero_le h.1
  refine ⟨_, rfl, ?_, fun w => digits_any n w (by omega)⟩
  have := decB_len 9 n (by omega)
  simpa [strB_size] using this
/-- What lies between two rounds. -/
def LnR (w wr : World) (i : Ins) (f L : B8) (n : Nat) (s : B8) : Prop := lineP i s (f.drop n) = L ∧ s.length ≤ 10 + 20 * n ∧ Below w.heap.size w wr ∧ Blk wr w.heap.size i
theorem LnR.step {w wr w1 : World} {i : Ins} {f L : B8} {n : Nat} {s s' : B8} (h : LnR w wr i f L n s) (hb : Below wr.heap.size wr w1) (hp : lineP i s (f.drop n) = lineP i s' (f.drop (n + 1))) (hs : s'.length ≤ s.length + 20) : LnR w w1 i f L (n + 1) s' :=
  ⟨hp ▸ h.1, by have := h.2.1; omega, h.2.2.1.trans (hb.mono h.2.2.1.size), h.2.2.2.below hb h.2.2.2.lt⟩
set_option maxHeartbeats 4000000 in
set_option maxRecDepth 100000 in
theorem line_any (w : World) (o a b c k : Int) (h : Fits ⟨o, a, b, c, k⟩ []) :
    Calls Tryd.prog 18 #[.agg #[.int .i64 o, .int .i64 a, .int .i64 b, .int .i64 c, .int .u32 k]] w fun e w' => e = .returned (.string (strB (lineOf ⟨o, a, b, c, k⟩ []))) ∧ Below w.heap.size w w' := by
  obtain ⟨ha, hb, hc, hk, _, _⟩ := h.all
  have hop := h.op
  have hL := lineOf_P ⟨o, a, b, c, k⟩ hop
  have hlet := field_letters hop
  have hnl := (opName_mem hop).2.2
  have hfl := field_len o
  simp only [] at ha hb hc hk hop hL hlet hnl
  generalize lineOf ⟨o, a, b, c, k⟩ [] = L at *
  obtain ⟨dA, qA, zA, DA⟩ := digits_at a (by omega)
  obtain ⟨dB, qB, zB, DB⟩ := digits_at b (by omega)
  obtain ⟨dC, qC, zC, DC⟩ := digits_at c (by omega)
  obtain ⟨dK, qK, zK, DK⟩ := digits_at k (by omega)
  have hfA : ∀ s : B8, strB s ++ strB [32, 114] ++ dA = strB (s ++ 32 :: regW a) := fun s => by rw [qA, ByteArray.append_assoc, regW_dec ha, strB_app]
  have hfB : 0 ≤ b ∧ b ≤ 7 → ∀ s : B8, strB s ++ strB [32, 114] ++ dB = strB (s ++ 32 :: regW b) := fun hb s => by rw [qB, ByteArray.append_assoc, regW_dec hb, strB_app]
  have hfC : ∀ s : B8, strB s ++ strB [32, 114] ++ dC = strB (s ++ 32 :: regW c) := fun s => by rw [qC, ByteArray.append_assoc, regW_dec hc, strB_app]
  have hfK : ∀ s : B8, strB s ++ strB [32] ++ dK = strB (s ++ 32 :: decB k.toNat) := fun s => by rw [qK, strB_app, strB_app]; simp
  have hfT : ∀ s : B8, strB s ++ strB [32, 64] ++ dK = strB (s ++ 32 :: 64 :: decB k.toNat) := fun s => by rw [qK, strB_app, strB_app]; simp
  have hfM8 : ∀ s : B8, strB s ++ strB [32, 91] ++ dK ++ strB [93] = strB (s ++ 32 :: addrW 8 k) := fun s => by rw [qK, strB_app, strB_app, strB_app]; simp [addrW]
  have hfM : 0 ≤ b ∧ b ≤ 7 → ∀ s : B8, strB s ++ strB [32, 91, 114] ++ dB ++ strB [43] ++ dK ++ strB [93] = strB (s ++ 32 :: addrW b k) := fun hb s => by
    rw [qK, qB, strB_app, strB_app, strB_app, strB_app, strB_app]
    have : ¬ b = 8 := by omega
    simp [addrW, regW, this, decB_small (show b.toNat < 10 by omega)]
  have hb7 : 66 ∈ opField o → b ≤ 7 := fun hm => by
    have := h.b.2
    have h66 : hasB o 66 = true := by unfold hasB; rw [List.contains_iff_mem]; exact hm
    have h77 : hasB o 77 = false := by
      have := op_cases (P := fun o => hasB o 66 = true → hasB o 77 = false) hop (by decide)
      exact this h66
    simp only [h66, h77] at this
    simpa using this
  obtain ⟨QA, QB, QC, QK, QT, QM8, QM, Q7, QL, QLET⟩ : Hid (∀ s : B8, strB s ++ strB [32, 114] ++ dA = strB (s ++ 32 :: regW a)) ∧ Hid (0 ≤ b ∧ b ≤ 7 → ∀ s : B8, strB s ++ strB [32, 114] ++ dB = strB (s ++ 32 :: regW b)) ∧ Hid (∀ s : B8, strB s ++ strB [32, 114] ++ dC = strB (s ++ 32 :: regW c)) ∧ Hid (∀ s : B8, strB s ++ strB [32] ++ dK = strB (s ++ 32 :: decB k.toNat)) ∧ Hid (∀ s : B8, strB s ++ strB [32, 64] ++ dK = strB (s ++ 32 :: 64 :: decB k.toNat)) ∧ Hid (∀ s : B8, strB s ++ strB [32, 91] ++ dK ++ strB [93] = strB (s ++ 32 :: addrW 8 k)) ∧ Hid (0 ≤ b ∧ b ≤ 7 → ∀ s : B8, strB s ++ strB [32, 91, 114] ++ dB ++ strB [43] ++ dK ++ strB [93] = strB (s ++ 32 :: addrW b k)) ∧ Hid (66 ∈ opField o → b ≤ 7) ∧ Hid (L = lineP ⟨o, a, b, c, k⟩ (opName o) (opField o)) ∧ Hid (∀ x ∈ opField o, x ∈ letters) := ⟨Lib.hid hfA, Lib.hid hfB, Lib.hid hfC, Lib.hid hfK, Lib.hid hfT, Lib.hid hfM8, Lib.hid hfM, Lib.hid hb7, Lib.hid hL, Lib.hid hlet⟩
  have CA := Lib.hid DA
  have CB := Lib.hid DB
  have CC := Lib.hid DC
  have CK := Lib.hid DK
  have HB0 : Hid (Below w.heap.size w (w.alloc (.cells #[.int .i64 o, .int .i64 a, .int .i64 b, .int .i64 c, .int .u32 k] 34))) := Lib.hid ((Below.refl _ _).alloc (Nat.le_refl _) _)
  have HK0 := Lib.hid (Blk.new w ⟨o, a, b, c, k⟩)
  clear hfA hfB hfC hfK hfT hfM8 hfM hb7 hL hlet DA DB DC DK qA qB qC qK h
  obtain ⟨f, hf⟩ : ∃ f, f = opField o := ⟨_, rfl⟩
  obtain ⟨nm, hnm⟩ : ∃ nm, nm = opName o := ⟨_, rfl⟩
  rw [← hf, ← hnm] at QL
  rw [← hf] at Q7 QLET hfl
  rw [← hnm] at hnl
  have HF := Lib.hid hf
  have HN := Lib.hid hnm
  clear hf hnm
  go_enter Tryd.func18, Tryd.ntmps18
  go_wp2_with fail
  refine (name2_any _ _).mono ?_; rintro e w' ⟨sn, sf, hsn, hsf, rfl, HB⟩
  rw [← HF.out] at hsf
  rw [← HN.out] at hsn
  obtain rfl : sn = strB nm := by
    apply ByteArray.ext
    rw [← hsn]; simp [strB]
  have hlen := toList_len sf
  rw [hsf] at hlen
  have HSF := Lib.hid hsf
  have HR0 : Hid (LnR w w' ⟨o, a, b, c, k⟩ f L 0 nm) := Lib.hid ⟨QL.out.symm, by omega, HB0.out.trans (HB.mono HB0.out.size), HK0.out.below HB (by simp)⟩
  clear hsn hsf HB HB0 HK0
  go_wp2_with fail
  go_loopw [3, 5] (fun sv nv wr => ∃ (n : Nat) (s : B8), n ≤ f.length ∧ nv = .int .i64 n ∧ sv = .string (strB s) ∧ Hid (LnR w wr ⟨o, a, b, c, k⟩ f L n s)) (fun _ n _ => f.length - (intOf n).toNat)
  case atStart => exact ⟨0, nm, by omega, rfl, rfl, HR0⟩
  case round =>
    obtain ⟨n, s, hn, rfl, rfl, HR⟩ := hrel
    obtain ⟨c0, c1, c2, c3, c4⟩ := HR.out.2.2.2.c
    have hsz : (strB s).size ≤ 1000 := by rw [strB_size]; have := HR.out.2.1; omega
    simp only [] at c0 c1 c2 c3 c4
    by_cases hlt : n < f.length
    · obtain ⟨x, hx⟩ : ∃ x, f[n]? = some x := ⟨_, List.getElem?_eq_getElem hlt⟩
      have hmem := QLET.out x (List.mem_of_getElem? hx)
      have hd := drop_letter hx
      have hm2 : x ∈ f := List.mem_of_getElem? hx
      rw [← HSF.out] at hx
      obtain ⟨hi, hcc⟩ := at_byte hx
      have HD := Lib.hid hd
      have HM := Lib.hid hm2
      clear hx hd hm2
      rw [letters] at hmem
      simp only [List.mem_cons, List.not_mem_nil, or_false] at hmem
      rcases hmem with rfl | rfl | rfl | rfl | rfl | rfl
      · go_wp2_with fail
        refine (CA.out _).mono ?_
        rintro e w1 ⟨rfl, hb⟩
        have HS : Hid (LnR w w1 ⟨o, a, b, c, k⟩ f L (n + 1) (s ++ 32 :: regW a)) := Lib.hid (HR.out.step hb (by rw [HD.out]; simp [lineP]) (by simp [regW]))
        clear hb
        go_wp2_with fail
        exact ⟨⟨n + 1, _, by omega, by simp, by first | exact congrArg Value.string (QA.out s) | (show Value.string _ = Value.string _; rw [← QA.out s]; rfl), HS⟩, by simp [intOf]; omega⟩
      · go_wp2_with fail
        refine (CB.out _).mono ?_
        rintro e w1 ⟨rfl, hb⟩
        have HS : Hid (LnR w w1 ⟨o, a, b, c, k⟩ f L (n + 1) (s ++ 32 :: regW b)) := Lib.hid (HR.out.step hb (by rw [HD.out]; simp [lineP]) (by simp [regW]))
        clear hb
        go_wp2_with fail
        exact ⟨⟨n + 1, _, by omega, by simp, by first | exact congrArg Value.string (QB.out ⟨hb.1, Q7.out HM.out⟩ s) | (show Value.string _ = Value.string _; rw [← QB.out ⟨hb.1, Q7.out HM.out⟩ s]; rfl), HS⟩, by simp [intOf]; omega⟩
      · go_wp2_with fail
        refine (CC.out _).mono ?_
        rintro e w1 ⟨rfl, hb⟩
        have HS : Hid (LnR w w1 ⟨o, a, b, c, k⟩ f L (n + 1) (s ++ 32 :: regW c)) := Lib.hid (HR.out.step hb (by rw [HD.out]; simp [lineP]) (by simp [regW]))
        clear hb
        go_wp2_with fail
        exact ⟨⟨n + 1, _, by omega, by simp, by first | exact congrArg Value.string (QC.out s) | (show Value.string _ = Value.string _; rw [← QC.out s]; rfl), HS⟩, by simp [intOf]; omega⟩
      · go_wp2_with fail
        refine (CK.out _).mono ?_
        rintro e w1 ⟨rfl, hb⟩
        have HS : Hid (LnR w w1 ⟨o, a, b, c, k⟩ f L (n + 1) (s ++ 32 :: decB k.toNat)) := Lib.hid (HR.out.step hb (by rw [HD.out]; simp [lineP]) (by have := decB_len 9 k.toNat (by omega); simp; omega))
        clear hb
        go_wp2_with fail
        exact ⟨⟨n + 1, _, by omega, by simp, by first | exact congrArg Value.string (QK.out s) | (show Value.string _ = Value.string _; rw [← QK.out s]; rfl), HS⟩, by simp [intOf]; omega⟩
      · have HL := HR.out.1
        rw [HD.out] at HL
        simp only [lineP] at HL
        have HL := Lib.hid HL
        by_cases h8 : b = 8
        · subst h8
          go_wp2_with fail
          refine (CK.out _).mono ?_
          rintro e w1 ⟨rfl, hb⟩
          have HS := Lib.hid (HR.out.2.2.1.trans (hb.mono HR.out.2.2.1.size))
          clear hb
          go_wp2_with fail
          go_ret
          refine ⟨?_, HS.out⟩
          have := HL.out
          simp only [if_true, if_false, show ¬ ((77 : UInt8) = 65) by decide, show ¬ ((77 : UInt8) = 66) by decide, show ¬ ((77 : UInt8) = 67) by decide] at this
          rw [← this]
          exact congrArg (fun x => Ending.returned (.string x)) (QM8.out s)
        · have hb2 : 0 ≤ b ∧ b ≤ 7 := by omega
          have d8 : (b == 8) = false := by simpa using h8
          go_wp2_with fail
          have HBR := Lib.hid (below_drew0 HR.out.2.2.1)
          have c4d : wr.drew.cell? ⟨w.heap.size, 4, none⟩ = some (.int .u32 k) := c4
          have c2d : wr.drew.cell? ⟨w.heap.size, 2, none⟩ = some (.int .i64 b) := c2
          have C4 := Lib.hid c4d
          have C2 := Lib.hid c2d
          clear c4d c2d
          have y1 : (9223372036854775807 < (strB s).size + 3) = False := eq_false (by omega)
          have y2 : (9223372036854775807 < (strB s).size + 3 + dB.size) = False := eq_false (by omega)
          have y3 : (9223372036854775807 < (strB s).size + 3 + dB.size + 1) = False := eq_false (by omega)
          have y4 : (9223372036854775807 < (strB s).size + 3 + dB.size + 1 + dK.size) = False := eq_false (by omega)
          have y5 : (9223372036854775807 < (strB s).size + 3 + dB.size + 1 + dK.size + 1) = False := eq_false (by omega)
          have hwk : IntKind.i64.wrap k = k := by rw [IntKind.wrap_i64]; omega
          have x1 : (9223372036854775807 < (strB s).size + (ByteArray.mk #[32, 91, 114]).size) = False := y1
          have x3 : (9223372036854775807 < (strB s).size + (ByteArray.mk #[32, 91, 114]).size + dB.size + (ByteArray.mk #[43]).size) = False := y3
          have x2 : (9223372036854775807 < (strB s).size + (ByteArray.mk #[32, 91, 114]).size + dB.size) = False := y2
          have x4 : (9223372036854775807 < (strB s).size + (ByteArray.mk #[32, 91, 114]).size + dB.size + (ByteArray.mk #[43]).size + dK.size) = False := y4
          have x5 : (9223372036854775807 < (strB s).size + (ByteArray.mk #[32, 91, 114]).size + dB.size + (ByteArray.mk #[43]).size + dK.size + (ByteArray.mk #[93]).size) = False := y5
          go_region_held3 (fun w' => w'.cell? ⟨w.heap.size, 2, none⟩ = some (.int .i64 b) ∧ w'.cell? ⟨w.heap.size, 4, none⟩ = some (.int .u32 k)) (first | exact ⟨c2, c4⟩ | exact ⟨C2.out, C4.out⟩ | ((refine And.intro ?_ ?_) <;> with_reducible assumption)) (first
            | (go_at_call 37; with_reducible refine (CB.out _).mono ?_; rintro e w1 ⟨rfl, hb⟩; have k2 := bcell (w := wr.drew) hb C2.out; have k4 := bcell (w := wr.drew) hb C4.out; have HB1 := Lib.hid (HBR.out.trans (hb.mono HBR.out.size)); clear hb)
            | (go_at_call 37; with_reducible refine (CK.out _).mono ?_; rintro e w2 ⟨rfl, hb⟩; have j2 := bcell (w := w1) hb k2; have j4 := bcell (w := w1) hb k4; have HB2 := Lib.hid (HB1.out.trans (hb.mono HB1.out.size)); clear hb))
          all_goals clear hwk
          all_goals go_wp2_with fail
          all_goals go_ret
          all_goals refine ⟨?_, HB2.out⟩
          all_goals have := HL.out
          all_goals simp only [if_true, if_false, show ¬ ((77 : UInt8) = 65) by decide, show ¬ ((77 : UInt8) = 66) by decide, show ¬ ((77 : UInt8) = 67) by decide] at this
          all_goals rw [← this]
          all_goals exact congrArg (fun x => Ending.returned (.string x)) (QM.out hb2 s)
      · go_wp2_with fail
        refine (CK.out _).mono ?_
        rintro e w1 ⟨rfl, hb⟩
        have HS : Hid (LnR w w1 ⟨o, a, b, c, k⟩ f L (n + 1) (s ++ 32 :: 64 :: decB k.toNat)) := Lib.hid (HR.out.step hb (by rw [HD.out]; simp [lineP]) (by have := decB_len 9 k.toNat (by omega); simp; omega))
        clear hb
        go_wp2_with fail
        exact ⟨⟨n + 1, _, by omega, by simp, by first | exact congrArg Value.string (QT.out s) | (show Value.string _ = Value.string _; rw [← QT.out s]; rfl), HS⟩, by simp [intOf]; omega⟩
    · have hn2 : n = f.length := by omega
      subst hn2
      have HL := HR.out.1
      rw [List.drop_length] at HL
      have HL : s = L := HL
      subst HL
      go_wp2_with fail
      go_ret
      exact ⟨rfl, HR.out.2.2.1⟩
end Go.Proofs.YtlopmejmionnpaaDoor.As
end
