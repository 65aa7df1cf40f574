/- The walk of the law's own function place: the name of a place. The law AsmNames: its walk. -/
import Derived.Test.YtlopmejmionnpaaDoorPaV
import Derived.Test.YtlopmejmionnpaaDoorTx6
import Derived.Test.YtlopmejmionnpaaDoorPaZ
import Derived.Test.YtlopmejmionnpaaDoorPaT
import Derived.Test.YtlopmejmionnpaaDoorRefD
section
set_option linter.unusedVariables false
set_option linter.unusedSimpArgs false
set_option maxRecDepth 100000
namespace Go.Proofs.YtlopmejmionnpaaDoor.As
open Go.RowKit

set_option maxHeartbeats 4000000 in
theorem lplace_any (nm : B8) (n : Nat) (w : World) (hn : n ≤ 200) (hl : nm.length ≤ 10) : Calls Tryd.prog 17 #[.string (strB nm), .int .i64 n] w fun e w' => e = .returned (.string (strB (T4.pn nm n))) ∧ Below w.heap.size w w' := by
  have zN : (strB nm).size ≤ 10 := hl
  obtain ⟨N, hN⟩ : ∃ N, N = strB nm := ⟨_, rfl⟩
  obtain ⟨R, hR⟩ : ∃ R, R = strB (T4.pn nm n) := ⟨_, rfl⟩
  rw [← hN] at zN
  rw [← hN, ← hR]
  have HN := Lib.hid hN
  have HR := Lib.hid hR
  clear hN hR hl
  go_enter Tryd.func17, Tryd.ntmps17
  go_wp2_with fail
  go_loopw [1, 5] (fun nv sv wr => ∃ m : Nat, nv = .int .i64 m ∧ ∃ s : B8, sv = .string (strB s) ∧ Hid ((decB m ++ s = decB n ∧ Below w.heap.size w wr) ∧ m ≤ 200 ∧ s.length ≤ 3)) (fun nv _ _ => (intOf nv).toNat)
  case atStart => exact ⟨n, rfl, [], rfl, Lib.hid ⟨⟨by simp, Below.refl _ _⟩, hn, by decide⟩⟩
  case round =>
    obtain ⟨m, rfl, s, rfl, HI2⟩ := hrel
    have HI := Lib.hid HI2.out.1
    have hm := HI2.out.2.1
    have hs := HI2.out.2.2
    clear HI2
    have zS : (strB s).size ≤ 3 := hs
    have p1 : (0 : Int) ≤ (m : Int) := by omega
    have hdig : m % 10 < 10 := Nat.mod_lt _ (by decide)
    have hlen : (decB m).length + s.length ≤ 3 := by
      have h1 := congrArg List.length HI.out.1
      have h2 := decB_len 2 n (by omega)
      rw [List.length_append] at h1
      omega
    by_cases hlt : 9 < m
    · have hi : (9 : Int) < (m : Int) := by omega
      have hd := decB_big (n := m) (by omega)
      have hp := decB_pos (m / 10)
      have hq : (decB (m / 10)).length + 1 = (decB m).length := by rw [hd]; simp
      have hC : ∀ W b, W.cell? ⟨b, 0, none⟩ = some (.int .u8 (48 + (m : Int) % 10)) → (convert 73 9 (.slice (some ⟨b, 0, none⟩) 1 1)).run Tryd.prog W = .ok (.string (strB [UInt8.ofNat (48 + m % 10)])) W := fun W b hc => by
        have e : (48 + (m : Int) % 10) = ((48 + m % 10 : Nat) : Int) := by omega
        rw [e] at hc
        exact conv1 W b _ (by omega) hc
      obtain ⟨d, hdd⟩ : ∃ d, d = UInt8.ofNat (48 + m % 10) := ⟨_, rfl⟩
      rw [← hdd] at hC hd
      clear hdd
      have zD : (strB [d]).size ≤ 1 := Nat.le_refl _
      have hq2 : strB [d] ++ strB s = strB (d :: s) := strB_app _ _
      have HD := Lib.hid hd
      have HQ := Lib.hid hq
      clear hd hq hp
      go_wp2_with fail
      refine ⟨⟨m / 10, by simp, d :: s, by simp [hq2], Lib.hid ⟨⟨?_, ?_⟩, by omega, ?_⟩⟩, by simp [intOf]; omega⟩
      · have := HI.out.1
        rw [HD.out] at this
        simpa using this
      · exact HI.out.2.trans ((Below.refl _ _).alloc HI.out.2.size _)
      · have := HQ.out
        rw [List.length_cons]; omega
    · have hi : decide ((9 : Int) < (m : Int)) = false := decide_eq_false (by omega)
      have hC : ∀ W b, W.cell? ⟨b, 0, none⟩ = some (.int .u8 (48 + (m : Int))) → (convert 73 9 (.slice (some ⟨b, 0, none⟩) 1 1)).run Tryd.prog W = .ok (.string (strB (decB m))) W := fun W b hc => by
        have e : (48 + (m : Int)) = ((48 + m : Nat) : Int) := by omega
        rw [e] at hc
        rw [conv1 W b _ (by omega) hc, decB_small (by omega)]; rfl
      have zD : (strB (decB m)).size ≤ 3 := by rw [strB_size]; omega
      have hq : N ++ ⟨#[120]⟩ ++ strB (decB m) ++ strB s = R := by
        rw [HN.out, HR.out, show (⟨#[120]⟩ : ByteArray) = strB [120] from rfl, strB_app, strB_app, strB_app, T4.pn, ← HI.out.1]
        simp
      clear hlen hdig
      go_wp2_with fail
      go_ret
      exact ⟨rfl, HI.out.2.trans ((Below.refl _ _).alloc HI.out.2.size _)⟩
end Go.Proofs.YtlopmejmionnpaaDoor.As
end
section
set_option linter.unusedVariables false
set_option linter.unusedSimpArgs false
namespace Go.Proofs.YtlopmejmionnpaaDoor.As
open Go.RowKit

/-- Between two rounds of the first loop. -/
structure NR (w wr : World) (l : List Ins) (n i : Nat) : Prop where
  bel : Below w.heap.size w wr
  ok : ∀ x ∈ l.take i, rightB x n = true
theorem NR.step {w wr w' : World} {l : List Ins} {n i : Nat} {x : Ins} (h : NR w wr l n i) (hb : Below wr.heap.size wr w') (hx : l[i]? = some x) (h1 : rightB x n = true) : NR w w' l n (i + 1) :=
  ⟨h.bel.trans (hb.mono h.bel.size), fun y hy => by
    rw [take_snoc hx] at hy
    rcases List.mem_append.1 hy with hy | hy
    · exact h.ok y hy
    · rw [List.mem_singleton.1 hy]; exact h1⟩
theorem inN {x : Ins} {n : Nat} (hn : n ≤ 200) (hk : 0 ≤ x.k ∧ x.k ≤ 4294967295) (h : rightB x n = true) : T4.InN n x := by
  refine ⟨fits_right (by omega) hk h, fun e => ?_⟩
  unfold rightB at h
  simp only [Bool.and_eq_true, decide_eq_true_eq] at h
  have h2 := h.2
  rw [e] at h2
  simpa using h2
theorem pre_take (nm : B8) (bl : Nat) {l : List Ins} {i : Nat} {x : Ins} (hx : l[i]? = some x) : T4.pre nm bl 0 (l.take (i + 1)) = T4.pre nm bl 0 (l.take i) ++ T4.piece nm bl i x := by
  have hlt := (List.getElem?_eq_some_iff.1 hx).1
  rw [take_snoc hx, T4.pre_snoc, Nat.zero_add, List.length_take, Nat.min_eq_left (by omega)]
/-- The text so far, behind one more instruction. -/
def stepS (nm : B8) (bl i : Nat) (S : B8) : B8 := S ++ (T4.pn nm i ++ [58, 10]) ++ (if bl % 3 = i % 3 then [10] else [])
theorem stepS_end (nm : B8) (bl : Nat) (l : List Ins) : T4.textL (T4.full nm bl l) = stepS nm bl l.length (T4.textL (T4.pre nm bl 0 l)) := by
  unfold T4.full stepS
  rw [T4.textL_app]
  show _ ++ (T4.Ln.text (.lab (T4.pn nm l.length)) ++ 10 :: T4.textL (T4.blk bl l.length)) = _
  unfold T4.blk
  by_cases h : bl % 3 = l.length % 3
  · rw [if_pos h, if_pos h]
    show _ ++ (T4.pn nm l.length ++ [58] ++ [10, 10]) = _
    simp
  · rw [if_neg h, if_neg h]
    show _ ++ (T4.pn nm l.length ++ [58] ++ [10]) = _
    simp
theorem stepS_ins (nm : B8) (bl i : Nat) {l : List Ins} {x : Ins} (hx : l[i]? = some x) : T4.textL (T4.pre nm bl 0 (l.take (i + 1))) = stepS nm bl i (T4.textL (T4.pre nm bl 0 (l.take i))) ++ ((T4.insN nm x).text ++ [10]) := by
  rw [pre_take nm bl hx, T4.textL_app]
  unfold T4.piece stepS T4.blk
  by_cases h : bl % 3 = i % 3
  · rw [if_pos h, if_pos h]
    show _ ++ (T4.pn nm i ++ [58] ++ 10 :: (10 :: ((T4.insN nm x).text ++ [10]))) = _
    simp
  · rw [if_neg h, if_neg h]
    show _ ++ (T4.pn nm i ++ [58] ++ 10 :: ((T4.insN nm x).text ++ [10])) = _
    simp
theorem has84x_any (w : World) (op : Int) : Calls Tryd.prog 19 #[.int .i64 op, .int .u8 84] w fun e w' => e = .returned (.bool (hasB op 84)) ∧ Below w.heap.size w w' := has_any w op 84
/-- The early ends. -/
theorem two_awake {w w1 : World} (T : TabA w) (N : NamesA w) (hb : Below w.heap.size w w1) : TabA w1 ∧ NamesA w1 := ⟨T.below hb (Nat.le_refl _), N.of_blk (hb.block _ N.lt)⟩
set_option maxHeartbeats 8000000 in
set_option maxRecDepth 100000 in
theorem asmNames_any (w : World) (v : Value) (h : InX w v) (s : ByteArray) (hs : s.size ≤ maxLen) (b : Int) (wb : (Lit.int .u8 b).wf = true) (T : TabA w) (N : NamesA w) :
    Calls Tryd.prog 4 #[v, .string s, .int .u8 b] w fun e w' => e = .returned (.bool true) ∧ Below w.heap.size w w' := by
  obtain ⟨n, l, ⟨A, cap, rfl, hn, hv⟩, hnm, hk⟩ := h
  have HV := Lib.hid hv
  have HK := Lib.hid hk
  have HT := Lib.hid T
  have HN := Lib.hid N
  have HS := Lib.hid hs
  clear hv hk T N hs
  by_cases hbig : 200 < n
  · have hb : (200 : Int) < (n : Int) := by omega
    go_enter Tryd.func4, Tryd.ntmps4
    go_wp2_with fail
    refine (awake_any _ HT.out HN.out).mono ?_
    rintro e w1 ⟨rfl, hb1⟩
    have HB1 := Lib.hid hb1
    have HT1 := Lib.hid (two_awake HT.out HN.out hb1)
    clear hb1
    go_wp2_with fail
    refine (awake_any _ HT1.out.1 HT1.out.2).mono ?_
    rintro e w2 ⟨rfl, hb2⟩
    have HB2 := Lib.hid (HB1.out.trans (hb2.mono HB1.out.size))
    clear hb2
    go_wp2_with fail
    go_ret
    exact ⟨rfl, HB2.out⟩
  · have hb : decide ((200 : Int) < (n : Int)) = false := decide_eq_false (by omega)
    cases hok : nameOk s.data.toList with
    | false =>
      have HOK := Lib.hid hok
      clear hok
      go_enter Tryd.func4, Tryd.ntmps4
      go_wp2_with fail
      refine (awake_any _ HT.out HN.out).mono ?_
      rintro e w1 ⟨rfl, hb1⟩
      have HB1 := Lib.hid hb1
      clear hb1
      go_wp2_with fail
      refine (name_any _ s HS.out).mono ?_
      rw [HOK.out]
      rintro e w2 ⟨rfl, hb2⟩
      have HB2 := Lib.hid (HB1.out.trans (hb2.mono HB1.out.size))
      have HT1 := Lib.hid (two_awake HT.out HN.out HB2.out)
      clear hb2
      go_wp2_with fail
      refine (awake_any _ HT1.out.1 HT1.out.2).mono ?_
      rintro e w3 ⟨rfl, hb3⟩
      have HB3 := Lib.hid (HB2.out.trans (hb3.mono HB2.out.size))
      clear hb3
      go_wp2_with fail
      go_ret
      exact ⟨rfl, HB3.out⟩
    | true =>
      have HOK := Lib.hid hok
      clear hok
      by_cases h10 : 10 < s.size
      · have hc : (10 : Int) < (s.size : Int) := by omega
        go_enter Tryd.func4, Tryd.ntmps4
        go_wp2_with fail
        refine (awake_any _ HT.out HN.out).mono ?_
        rintro e w1 ⟨rfl, hb1⟩
        have HB1 := Lib.hid hb1
        clear hb1
        go_wp2_with fail
        refine (name_any _ s HS.out).mono ?_
        rw [HOK.out]
        rintro e w2 ⟨rfl, hb2⟩
        have HB2 := Lib.hid (HB1.out.trans (hb2.mono HB1.out.size))
        have HT1 := Lib.hid (two_awake HT.out HN.out HB2.out)
        clear hb2
        go_wp2_with fail
        refine (awake_any _ HT1.out.1 HT1.out.2).mono ?_
        rintro e w3 ⟨rfl, hb3⟩
        have HB3 := Lib.hid (HB2.out.trans (hb3.mono HB2.out.size))
        clear hb3
        go_wp2_with fail
        go_ret
        exact ⟨rfl, HB3.out⟩
      · have hc : decide ((10 : Int) < (s.size : Int)) = false := decide_eq_false (by omega)
        obtain ⟨nm, hnms⟩ : ∃ nm, s.data.toList = nm := ⟨_, rfl⟩
        have hsn : s = strB nm := by rw [← hnms]; apply ByteArray.ext; simp [strB]
        have hnl : nm.length ≤ 10 := by rw [← hnms]; simpa using h10
        have hb8 : 0 ≤ b ∧ b ≤ 255 := by
          simp [Lit.wf] at wb
          have e1 : IntKind.u8.min = 0 := by decide
          have e2 : IntKind.u8.max = 255 := by decide
          omega
        obtain ⟨bl, rfl⟩ : ∃ bl : Nat, b = bl := ⟨b.toNat, by omega⟩
        obtain ⟨hb80, hb81⟩ := hb8
        rw [hnms] at HOK
        clear hnms wb
        have HSN := Lib.hid hsn
        have z10 : s.size ≤ 10 := by omega
        clear hsn h10
        go_enter Tryd.func4, Tryd.ntmps4
        go_wp2_with fail
        refine (awake_any _ HT.out HN.out).mono ?_
        rintro e w1 ⟨rfl, hb1⟩
        have HB1 := Lib.hid hb1
        clear hb1
        go_wp2_with fail
        refine (name_any _ s HS.out).mono ?_
        rw [show nameOk s.data.toList = true by rw [HSN.out]; exact HOK.out]
        rintro e w2 ⟨rfl, hb2⟩
        have HL0 : Hid (NR w w2 l n 0) := Lib.hid ⟨HB1.out.trans (hb2.mono HB1.out.size), fun x hx => by simp at hx⟩
        clear hb2 HB1
        go_wp2_with fail
        go_loopw [7] (fun iv wr => ∃ i : Nat, i ≤ n ∧ iv = .int .i64 i ∧ Hid (NR w wr l n i)) (fun i _ => n - (intOf i).toNat)
        case atStart => exact ⟨0, by omega, rfl, HL0⟩
        case round =>
          obtain ⟨i, hin, rfl, HL⟩ := hrel
          by_cases hlt : i < n
          · obtain ⟨x, hx⟩ : ∃ x, l[i]? = some x := ⟨_, List.getElem?_eq_getElem (by omega)⟩
            have hxk := HK.out x (List.mem_of_getElem? hx)
            obtain ⟨o, a, b, c, k⟩ := x
            obtain ⟨b1, o1, rfl, hb1, c0, c1, c2, c3, c4⟩ := ins_cells ((HV.out (by omega)).below HL.out.bel (Nat.le_refl _)) hx (by omega)
            have f1 : (0 : Int) ≤ (i : Int) := by omega
            have f2 : (i : Int) < (n : Int) := by omega
            simp only [] at c0 c1 c2 c3 c4 hxk
            have HX := Lib.hid hx
            have HXK := Lib.hid hxk
            clear hx hxk
            go_wp2_with fail
            refine (r02_any _ o a b c k n (by omega) HXK.out).mono ?_
            rintro e w3 ⟨rfl, hb3⟩
            have HB3 := Lib.hid hb3
            clear c0 c1 c2 c3 c4 hb3
            cases hrt : rightB ⟨o, a, b, c, k⟩ n with
            | false =>
              clear hrt
              go_wp2_with fail
              go_ret
              exact ⟨rfl, HL.out.bel.trans (HB3.out.mono HL.out.bel.size)⟩
            | true =>
              have HL4 : Hid (NR w w3 l n (i + 1)) := Lib.hid (HL.out.step HB3.out HX.out hrt)
              clear hrt
              go_wp2_with fail
              exact ⟨⟨i + 1, by omega, by simp, HL4⟩, by simp [intOf]; omega⟩
          · have hd : decide ((i : Int) < (n : Int)) = false := decide_eq_false (by omega)
            have HIN : Hid (∀ x ∈ l, T4.InN l.length x) := Lib.hid (fun x hx => by
              rw [hn]
              exact inN (by omega) (HK.out x hx) (HL.out.ok x (by rw [List.take_of_length_le (by omega)]; exact hx)))
            have HBL := Lib.hid HL.out.bel
            clear HL
            go_wp2_with fail
            go_loopw [8, 9] (fun sv iv wr => ∃ i : Nat, i ≤ n ∧ iv = .int .i64 i ∧ sv = .string (strB (T4.textL (T4.pre nm bl 0 (l.take i)))) ∧ Hid (Below w.heap.size w wr)) (fun _ i _ => n - (intOf i).toNat)
            case atStart => exact ⟨0, by omega, rfl, rfl, HBL⟩
            case round =>
              obtain ⟨j, hjn, rfl, rfl, HBR⟩ := hrel
              have hps := T4.pre_size (bl := bl) HOK.out hnl (n := n) (by omega) (l := l.take j) (by rw [List.length_take]; omega) (fun x hx => by have := HIN.out x (List.mem_of_mem_take hx); rwa [hn] at this)
              obtain ⟨S0, hS0⟩ : ∃ S0, T4.textL (T4.pre nm bl 0 (l.take j)) = S0 := ⟨_, rfl⟩
              rw [hS0] at hps ⊢
              have zS : (strB S0).size ≤ 66600 := hps
              have zP : (strB (T4.pn nm j)).size ≤ 14 := T4.pn_len hnl (by omega)
              have hpl := lplace_any nm j wr (by omega) hnl
              rw [← HSN.out] at hpl
              obtain ⟨S1, hS1⟩ : ∃ S1, stepS nm bl j S0 = S1 := ⟨_, rfl⟩
              have hbr : (((bl : Int) % 3 == (j : Int) % 3) = true ∧ strB S0 ++ strB (T4.pn nm j) ++ ⟨#[58, 10]⟩ ++ ⟨#[10]⟩ = strB S1) ∨ (((bl : Int) % 3 == (j : Int) % 3) = false ∧ strB S0 ++ strB (T4.pn nm j) ++ ⟨#[58, 10]⟩ = strB S1) := by
                rw [← hS1, show (⟨#[58, 10]⟩ : ByteArray) = strB [58, 10] from rfl, show (⟨#[10]⟩ : ByteArray) = strB [10] from rfl, strB_app, strB_app, strB_app]
                unfold stepS
                by_cases h3 : bl % 3 = j % 3
                · left
                  rw [if_pos h3]
                  exact ⟨by rw [beq_iff_eq]; omega, by simp⟩
                · right
                  rw [if_neg h3]
                  exact ⟨by rw [beq_eq_false_iff_ne]; omega, by simp⟩
              have z1 : S1.length ≤ 70000 := by
                rw [← hS1]
                unfold stepS
                rw [List.length_append, List.length_append, List.length_append]
                have h14 : (T4.pn nm j).length ≤ 14 := zP
                split <;> simp <;> omega
              have zS1 : (strB S1).size ≤ 70000 := z1
              obtain ⟨P, hP⟩ : ∃ P, strB (T4.pn nm j) = P := ⟨_, rfl⟩
              rw [hP] at hpl hbr zP
              have HPL := Lib.hid hpl
              have HS0 := Lib.hid hS0
              have HS1 := Lib.hid hS1
              have f1 : (0 : Int) ≤ (j : Int) := by omega
              have f2 : (j : Int) ≤ (n : Int) := by omega
              clear hpl hS0 hS1 hP hps z1
              go_wp2_with fail
              refine (HPL.out).mono ?_
              rintro e w3 ⟨rfl, hb3⟩
              have HB3 := Lib.hid (HBR.out.trans (hb3.mono HBR.out.size))
              clear hb3
              by_cases hlt : j < n
              · obtain ⟨x, hx⟩ : ∃ x, l[j]? = some x := ⟨_, List.getElem?_eq_getElem (by omega)⟩
                have hxk := HK.out x (List.mem_of_getElem? hx)
                have hxi := HIN.out x (List.mem_of_getElem? hx)
                have hst := stepS_ins nm bl j hx
                rw [HS0.out, HS1.out] at hst
                have HST := Lib.hid hst
                have HX := Lib.hid hx
                obtain ⟨o, a, b, c, k⟩ := x
                obtain ⟨b1, o1, rfl, hb1, c0, c1, c2, c3, c4⟩ := ins_cells ((HV.out (by omega)).below HB3.out (Nat.le_refl _)) hx (by omega)
                have f3 : (j : Int) < (n : Int) := by omega
                have f4 : ((j : Int) == (n : Int)) = false := by rw [beq_eq_false_iff_ne]; omega
                simp only [] at c0 c1 c2 c3 c4 hxk
                have hll := line_len hxi.fits
                have zL : (strB (lineOf ⟨o, a, b, c, k⟩ [])).size ≤ 110 := hll
                have HXI := Lib.hid hxi
                have HXK := Lib.hid hxk
                clear hst hx hxk hxi hll
                rcases hbr with ⟨d1, hq⟩ | ⟨d1, hq⟩
                all_goals
                  go_wp2_with fail
                  refine (line_any w3 o a b c k HXI.out.fits).mono ?_
                  rintro e w4 ⟨rfl, hb4⟩
                  have HB4 := Lib.hid (HB3.out.trans (hb4.mono HB3.out.size))
                  have k0 := bcell hb4 c0
                  have k4 := bcell hb4 c4
                  clear c0 c1 c2 c3 c4 hb4 hq d1
                  go_wp2_with fail
                  refine (has84x_any w4 o).mono ?_
                  rintro e w5 ⟨rfl, hb5⟩
                  have HB5 := Lib.hid (HB4.out.trans (hb5.mono HB4.out.size))
                  have m4 := bcell hb5 k4
                  clear k0 k4 hb5
                  cases h84 : hasB o 84 with
                  | false =>
                    have hsz : T4.insN nm ⟨o, a, b, c, k⟩ = .ins ⟨o, a, b, c, k⟩ [] := by unfold T4.insN; rw [if_neg (by rw [h84]; decide)]
                    have hq9 : strB S1 ++ strB (lineOf ⟨o, a, b, c, k⟩ []) ++ ⟨#[10]⟩ = strB (T4.textL (T4.pre nm bl 0 (l.take (j + 1)))) := by
                      rw [HST.out, hsz, show (⟨#[10]⟩ : ByteArray) = strB [10] from rfl, strB_app, strB_app]
                      show strB (S1 ++ lineOf _ _ ++ [10]) = strB (S1 ++ (lineOf _ _ ++ [10]))
                      simp
                    have HQ := Lib.hid hq9
                    clear hq9 h84 hsz m4
                    go_wp2_with fail
                    exact ⟨⟨j + 1, by omega, by simp, congrArg Value.string HQ.out, HB5⟩, by simp [intOf]; omega⟩
                  | true =>
                    have hsz : T4.insN nm ⟨o, a, b, c, k⟩ = .ins ⟨o, a, b, c, 0⟩ (T4.pn nm k.toNat) := by unfold T4.insN; rw [if_pos (by rw [h84])]
                    obtain ⟨P2, e1, e2⟩ := T4.line_split (x := ⟨o, a, b, c, k⟩) HXI.out.fits.op h84 (T4.pn nm k.toNat) (T4.pn_ne _ _)
                    simp only [] at e1 e2
                    have hk2 := HXI.out.to h84
                    simp only [] at hk2
                    rw [hn] at hk2
                    have hkz := HXK.out.1
                    obtain ⟨k2, rfl⟩ : ∃ k2 : Nat, k = k2 := ⟨k.toNat, by omega⟩
                    have hpl2 := fun W => lplace_any nm k2 W (by omega) hnl
                    rw [← HSN.out] at hpl2
                    rw [show (k2 : Int).toNat = k2 by omega] at e1 e2 hsz
                    obtain ⟨L, hL⟩ : ∃ L, lineOf ⟨o, a, b, c, (k2 : Int)⟩ [] = L := ⟨_, rfl⟩
                    rw [hL] at zL e1 ⊢
                    have hll : L.length = P2.length + 1 + (decB k2).length := by rw [e1]; simp; omega
                    have hl110 : L.length ≤ 110 := zL
                    have hd0 := decB_pos k2
                    have zP2 : (strB (T4.pn nm k2)).size ≤ 14 := T4.pn_len hnl (by omega)
                    have hq9 : strB (P2 ++ [64]) ++ strB (T4.pn nm k2) = strB (lineOf ⟨o, a, b, c, 0⟩ (T4.pn nm k2)) := by
                      rw [e2, strB_app]; simp
                    have hq8 : strB S1 ++ strB (lineOf ⟨o, a, b, c, 0⟩ (T4.pn nm k2)) ++ ⟨#[10]⟩ = strB (T4.textL (T4.pre nm bl 0 (l.take (j + 1)))) := by
                      rw [HST.out, hsz, show (⟨#[10]⟩ : ByteArray) = strB [10] from rfl, strB_app, strB_app]
                      show strB (S1 ++ lineOf _ _ ++ [10]) = strB (S1 ++ (lineOf _ _ ++ [10]))
                      simp
                    have HE1 := Lib.hid e1
                    have HE2 := Lib.hid e2
                    have HPL2 := Lib.hid hpl2
                    have HQ9 := Lib.hid hq9
                    have HQ8 := Lib.hid hq8
                    have HLL := Lib.hid hll
                    clear e1 e2 hpl2 hq9 hq8 h84 hsz hll
                    go_wp2_with fail
                    go_loop [11] (fun kv => ∃ q : Nat, P2.length ≤ q ∧ q < L.length ∧ kv = .int .i64 ((q : Int) + 1)) (fun kv => (intOf kv).toNat)
                    case atStart =>
                      have h9 := HLL.out
                      refine ⟨L.length - 1, ?_, ?_, ?_⟩
                      · omega
                      · omega
                      · exact congrArg (Value.int .i64) (show ((L.length : Nat) : Int) = ((L.length - 1 : Nat) : Int) + 1 by omega)
                    case round =>
                      obtain ⟨q, hq1, hq2, rfl⟩ := hrel
                      have p1 : (0 : Int) < (q : Int) + 1 := by omega
                      have p2 : (q : Int) + 1 ≤ 110 := by omega
                      obtain ⟨ch, hch⟩ : ∃ ch, (strB L).data.toList[q]? = some ch := ⟨_, List.getElem?_eq_getElem (show q < L.length from hq2)⟩
                      obtain ⟨hi, hcc⟩ := at_byte hch
                      have hch2 : L[q]? = some ch := hch
                      by_cases hq0 : q = P2.length
                      · have hdg : ch = 64 := by
                          rw [HE1.out, hq0, List.getElem?_append_right (Nat.le_refl _), Nat.sub_self] at hch2
                          injection hch2 with hch2
                          exact hch2.symm
                        subst hdg
                        have g1 : (((64 : UInt8).toNat : Int) == 64) = true := rfl
                        subst hq0
                        have hex : (strB L).extract 0 (P2.length + 1) = strB (P2 ++ [64]) := by
                          rw [HE1.out]
                          apply ByteArray.ext
                          rw [ByteArray.data_extract, show P2 ++ 64 :: decB k2 = (P2 ++ [64]) ++ decB k2 by simp]
                          show (⟨((P2 ++ [64]) ++ decB k2).toArray.extract 0 (P2.length + 1)⟩ : ByteArray).data = _
                          simp only [List.extract_toArray, List.extract_eq_take_drop, List.drop_zero, Nat.sub_zero]
                          rw [List.take_left' (by simp)]; rfl
                        obtain ⟨X, hX⟩ : ∃ X, strB (P2 ++ [64]) = X := ⟨_, rfl⟩
                        obtain ⟨Y, hY⟩ : ∃ Y, strB (T4.pn nm k2) = Y := ⟨_, rfl⟩
                        have hXs : X.size ≤ 111 := by rw [← hX, strB_size]; simp; omega
                        have hpl2 := HPL2.out
                        have hq9 := HQ9.out
                        rw [hX] at hex hq9
                        rw [hY] at hpl2 hq9 zP2
                        have HPL3 := Lib.hid hpl2
                        have y1 : (9223372036854775807 < X.size + Y.size) = False := eq_false (by omega)
                        have v1 : (0 : Int) ≤ (P2.length : Int) + 1 := by omega
                        have v2 : (P2.length : Int) + 1 ≤ ((strB L).size : Int) := by rw [strB_size]; omega
                        have v3 : ((P2.length : Int) + 1).toNat = P2.length + 1 := by omega
                        have hwk : IntKind.i64.wrap (k2 : Int) = k2 := by rw [IntKind.wrap_i64]; omega
                        obtain ⟨LT, hLT⟩ : ∃ LT, lineOf ⟨o, a, b, c, 0⟩ (T4.pn nm k2) = LT := ⟨_, rfl⟩
                        rw [hLT] at hq9
                        have hq8 := HQ8.out
                        rw [hLT] at hq8
                        have HQ := Lib.hid hq8
                        have zLT : (strB LT).size ≤ 200 := by
                          rw [← hq9, ByteArray.size_append]; omega
                        have HLT := Lib.hid hLT
                        have M4 := Lib.hid m4
                        clear hch hch2 hpl2 hX hY hLT HPL2 HQ9 hq8
                        go_wp2_with fail
                        go_region_held3 (fun w' => w'.cell? ⟨b1, o1 + j * 5 + 4, none⟩ = some (.int .u32 (k2 : Int))) (first | exact M4.out | assumption) ((go_at_call 17; ((with_reducible refine (HPL3.out _).mono ?_); rintro e w6 ⟨rfl, hb⟩; have hb9 : Below w.heap.size w w6 := Below.trans (below_drew0 HB5.out) (hb.mono HB5.out.size); have HB6 := Lib.hid hb9; have r4 := bcell (w := w5.drew) hb M4.out; clear hb hb9)))
                        all_goals clear hwk v1 v2 v3 hex
                        all_goals go_wp2_with fail
                        all_goals exact ⟨⟨j + 1, by omega, by simp, congrArg Value.string HQ.out, HB6⟩, by simp [intOf]; omega⟩
                      · have hdg : ch.toNat ≠ 64 := by
                          rw [HE1.out, List.getElem?_append_right (by omega)] at hch2
                          obtain ⟨r, hr⟩ : ∃ r, q - P2.length = r + 1 := ⟨q - P2.length - 1, by omega⟩
                          rw [hr, List.getElem?_cons_succ] at hch2
                          have := decB_mem (List.mem_of_getElem? hch2)
                          omega
                        have g1 : ((ch.toNat : Int) == 64) = false := by rw [beq_eq_false_iff_ne]; omega
                        have g2 : ((ch.toNat : Int) != 64) = true := by rw [bne_iff_ne]; omega
                        clear hch hch2
                        go_wp2_with fail
                        refine ⟨⟨q - 1, ?_, ?_, ?_⟩, ?_⟩
                        · omega
                        · omega
                        · exact congrArg (Value.int .i64) (show (q : Int) = ((q - 1 : Nat) : Int) + 1 by omega)
                        · simp [intOf]
              · have f4 : ((j : Int) == (n : Int)) = true := by rw [beq_iff_eq]; omega
                rcases hbr with ⟨d1, hq⟩ | ⟨d1, hq⟩
                all_goals
                  obtain rfl : j = n := by omega
                  have hle := stepS_end nm bl l
                  rw [hn] at hle
                  have h0 := HS0.out
                  rw [List.take_of_length_le (by omega)] at h0
                  rw [h0, HS1.out] at hle
                  have HLE := Lib.hid hle
                  clear hle h0
                  by_cases hbig2 : 20000 < S1.length
                  · have hlb : (20000 : Int) < ((strB S1).size : Int) := by rw [strB_size]; omega
                    go_wp2_with fail
                    go_ret
                    exact ⟨rfl, HB3.out⟩
                  · have hlb : decide ((20000 : Int) < ((strB S1).size : Int)) = false := decide_eq_false (by rw [strB_size]; omega)
                    have hpb := T4.names_back HOK.out hnl bl (l := l) (by omega) HIN.out (by rw [HLE.out]; omega)
                    rw [HLE.out] at hpb
                    have hsz : (strB S1).size ≤ maxLen := by rw [strB_size]; unfold maxLen; omega
                    have HPB := Lib.hid hpb
                    have HSZ := Lib.hid hsz
                    have HT2 := Lib.hid (two_awake HT.out HN.out HB3.out)
                    clear hpb hsz
                    go_wp2_with fail
                    refine (pparse_any _ (strB S1) HSZ.out HT2.out.1 HT2.out.2).mono ?_
                    rintro e w4 hp
                    rw [show parseB (strB S1).data.toList = (l, 0, 0) from HPB.out] at hp
                    obtain ⟨v3, rfl, ho3, hb3⟩ := hp
                    have HB4 := Lib.hid (HB3.out.trans (hb3.mono HB3.out.size))
                    have HR3 := Lib.hid (RdZ.of (n := j) (hn ▸ Rd.of_own ho3) hn)
                    clear hb3 ho3
                    go_wp2_with fail
                    refine (same04_z w4 v3 _ l j HR3.out (RdZ.below ⟨A, cap, rfl, hn, HV.out⟩ HB4.out (Nat.le_refl _)) (by omega)).mono ?_
                    rintro e w5 ⟨rfl, m, rfl⟩
                    go_wp2_with fail
                    go_ret
                    exact ⟨rfl, below_dn HB4.out m⟩
end Go.Proofs.YtlopmejmionnpaaDoor.As
end
