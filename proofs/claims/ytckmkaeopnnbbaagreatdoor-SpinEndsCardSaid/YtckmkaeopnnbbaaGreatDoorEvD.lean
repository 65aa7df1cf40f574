/- The walks of container/heap's up and down over a row of dues. -/
import Derived.Test.YtckmkaeopnnbbaaGreatDoorEvC
set_option linter.unusedVariables false
set_option linter.unusedSimpArgs false
set_option maxRecDepth 20000
namespace Go.Proofs.YtckmkaeopnnbbaaGreatDoor.As.T
open Go.RowKit

theorem upP_fuel : ∀ (f g : Nat) (l : List It) (j : Nat), j < f → j < g → upP f l j = upP g l j
 | 0, _, _, _, h, _ => by omega
 | _ + 1, 0, _, _, _, h => by omega
 | f + 1, g + 1, l, j, h1, h2 => by
  unfold upP
  split
  ·rfl
  ·rename_i hc
   have : (j - 1) / 2 ≠ j := fun e => hc (.inl e)
   exact upP_fuel f g _ _ (by omega) (by omega)
structure DuH (W : World) (gd gs cap : Nat) (l : List It) : Prop where
 hd : W.heap[gd]? = some (.cells #[duV gs l.length cap] 156 (0, 0))
 is : DuIs W gs cap l
 ne : gs ≠ gd
theorem DuH.cell {W : World} {gd gs cap : Nat} {l : List It} (h : DuH W gd gs cap l) : W.cell? ⟨gd, 0, none⟩ = some (duV gs l.length cap) := by
 have := cell_of_row W gd 0 _ _ _ h.hd
 exact this
theorem DuH.less {W : World} {gd gs cap : Nat} {l : List It} (h : DuH W gd gs cap l) : (method (Tryz.prog.types.size + 100) 154 (.pointer (some ⟨gd, 0, none⟩)) "Less").run Tryz.prog W = .ok (190, duV gs l.length cap) W :=
 method_eq gd "Less" _ (m_less0 gd) W _ (load_dues gd W _ h.cell)
theorem DuH.swap {W : World} {gd gs cap : Nat} {l : List It} (h : DuH W gd gs cap l) : (method (Tryz.prog.types.size + 100) 154 (.pointer (some ⟨gd, 0, none⟩)) "Swap").run Tryz.prog W = .ok (192, duV gs l.length cap) W :=
 method_eq gd "Swap" _ (m_swap0 gd) W _ (load_dues gd W _ h.cell)
theorem DuH.len {W : World} {gd gs cap : Nat} {l : List It} (h : DuH W gd gs cap l) : (method (Tryz.prog.types.size + 100) 154 (.pointer (some ⟨gd, 0, none⟩)) "Len").run Tryz.prog W = .ok (189, duV gs l.length cap) W :=
 method_eq gd "Len" _ (m_len0 gd) W _ (load_dues gd W _ h.cell)
theorem DuH.below {W W' : World} {gd gs cap B : Nat} {l : List It} (h : DuH W gd gs cap l) (hb : Below B W W') (h1 : gd < B) (h2 : gs < B) : DuH W' gd gs cap l :=
 ⟨(hb.block _ h1).trans h.hd, h.is.below hb h2, h.ne⟩
theorem DuH.lt {W : World} {gd gs cap : Nat} {l : List It} (h : DuH W gd gs cap l) : gd < W.heap.size ∧ gs < W.heap.size := by
 obtain ⟨arr, h1, _⟩ := h.is
 exact ⟨(Array.getElem?_eq_some_iff.1 h.hd).1, (Array.getElem?_eq_some_iff.1 h1).1⟩
theorem DuH.swapped {W W' : World} {gd gs cap : Nat} {l l' : List It} (h : DuH W gd gs cap l) (ho : Only (fun b => b = gs) W W') (h' : DuIs W' gs cap l') (hl : l'.length = l.length) : DuH W' gd gs cap l' :=
 ⟨(ho.block _ h.lt.1 (fun e => h.ne e.symm)).trans (by rw [hl]; exact h.hd), h', h.ne⟩
theorem tsz : Tryz.prog.types.size + 100 = 339 := by kernel_rfl
def ifV (gd : Nat) : Value := .iface 154 (.pointer (some ⟨gd, 0, none⟩))
set_option maxHeartbeats 4000000 in
theorem up_any (w : World) (gd gs cap : Nat) (l : List It) (j : Nat) (h : DuH w gd gs cap l) (hj : j < l.length) (hn : l.length ≤ 100) : Calls Tryz.prog 137 #[ifV gd, .int .i64 (j : Nat)] w fun e w' => e = .returned (.tuple #[]) ∧ DuH w' gd gs cap (upP (j + 1) l j) ∧ Only (fun b => b = gs) w w' := by
 unfold ifV
 obtain ⟨n, hN⟩ : ∃ n, l.length = n := ⟨_, rfl⟩
 have HH := Lib.hid h
 have HN := Lib.hid hN
 have HJ := Lib.hid hj
 have HB := Lib.hid hn
 clear h hN hj hn
 go_enter Tryz.func137, Tryz.ntmps137
 go_wp2_with fail
 go_loopg [1] j (fun g iv wr => ∃ (i : Nat) (l' : List It), i ≤ g ∧ iv = .int .i64 i ∧ Hid (i < n ∧ l'.length = n ∧ DuH wr gd gs cap l' ∧ upP (i + 1) l' i = upP (j + 1) l j ∧ Only (fun b => b = gs) w wr))
 case atStart => exact ⟨j, l, Nat.le_refl _, rfl, Lib.hid ⟨by have := HJ.out; rw [HN.out] at this; exact this, HN.out, HH.out, rfl, Only.refl _ w⟩⟩
 case round =>
  obtain ⟨i, l', hi, rfl, HR⟩ := hrel
  have mL := HR.out.2.2.1.less
  rw [tsz] at mL
  by_cases h0 : i = 0
  ·subst h0
   go_wp2_with fail
   go_end0
   refine ⟨rfl, ?_, HR.out.2.2.2.2⟩
   rw [← HR.out.2.2.2.1]
   exact HR.out.2.2.1
  ·obtain ⟨k, rfl⟩ : ∃ k, i = k + 1 := ⟨i - 1, by omega⟩
   obtain ⟨m, hm⟩ : ∃ m, k / 2 = m := ⟨_, rfl⟩
   have hk9 : (k : Int) + 1 ≤ 100 := by have := HR.out.1; have := HB.out; have := HN.out; omega
   have e1 : wrap64 (k : Int) = (k : Int) := by unfold wrap64; omega
   have e2 : wrap64 ((k : Int) / 2) = (m : Int) := by unfold wrap64; omega
   have e3 : ((m : Int) == (k : Int) + 1) = false := by rw [beq_eq_false_iff_ne]; omega
   have hl := less_any wr gs cap l' (k + 1) m HR.out.2.2.1.is (by have := HR.out; omega) (by have := HR.out; omega) (by have := HB.out; have := HN.out; have := HR.out; omega)
   have c1 : ((k + 1 : Nat) : Int) = (k : Int) + 1 := by omega
   rw [c1] at hl
   have HM := Lib.hid hm
   by_cases hd : dueP l' (k + 1) < dueP l' m
   ·rw [decide_eq_true hd] at hl
    have HLS := Lib.hid hl
    have HD := Lib.hid hd
    have hgw := fun W (hb : Below wr.heap.size wr W) => HR.out.2.2.1.below hb HR.out.2.2.1.lt.1 HR.out.2.2.1.lt.2
    have HGW := Lib.hid hgw
    have hsw := fun W (hb : Below wr.heap.size wr W) => swap_any W gs cap l' m (k + 1) (hgw W hb).is (by have := HR.out; omega) (by have := HR.out; omega) (by have := HB.out; have := HN.out; have := HR.out; omega) (by omega)
    rw [c1] at hsw
    have HSW := Lib.hid hsw
    clear hl h0 hm hk9 hd hsw hgw
    go_wp2_with (first | (go_at_call 190; refine (HLS.out).mono ?_; rintro r w3 ⟨rfl, hb3⟩; have mS := (HGW.out w3 hb3).swap; rw [tsz] at mS; have HB3 := Lib.hid hb3; clear hb3) | (go_at_call 192; refine (HSW.out _ HB3.out).mono ?_; rintro r w4 ⟨rfl, hd4, ho4⟩; have HD4 := Lib.hid hd4; have HO4 := Lib.hid ho4; clear hd4 ho4))
    obtain ⟨g', rfl⟩ : ∃ g', gk = g' + 1 := ⟨gk - 1, by omega⟩
    go_roundg g'
    case rel =>
     refine ⟨m, swapP l' m (k + 1), by have := HM.out; omega, rfl, Lib.hid ⟨by have := HM.out; have := HR.out; omega, by rw [swapP_len]; exact HR.out.2.1, (HGW.out _ HB3.out).swapped HO4.out HD4.out (swapP_len _ _ _), ?_, ?_⟩⟩
     ·rw [← HR.out.2.2.2.1]
      show _ = upP ((k + 1) + 1) l' (k + 1)
      conv => rhs; unfold upP
      have hm1 : (k + 1 - 1) / 2 = m := HM.out
      rw [hm1, if_neg (by intro e; rcases e with e | e; (have := HM.out; omega); exact e HD.out)]
      exact upP_fuel _ _ _ _ (by omega) (by have := HM.out; omega)
     ·exact (HR.out.2.2.2.2.trans (Only.of_below HB3.out (Nat.le_refl _)) (fun k f => .inl f)).trans HO4.out (fun k f => .inl f)
    case measure => omega
   ·rw [decide_eq_false hd] at hl
    have HLS := Lib.hid hl
    have HD := Lib.hid hd
    clear hl h0 hm hk9 hd
    go_wp2_with (go_at_call 190; refine (HLS.out).mono ?_; rintro r w3 ⟨rfl, hb3⟩; have HB3 := Lib.hid hb3; clear hb3)
    go_end0
    refine ⟨rfl, ?_, HR.out.2.2.2.2.trans (Only.of_below HB3.out (Nat.le_refl _)) (fun k f => .inl f)⟩
    rw [← HR.out.2.2.2.1]
    have hm1 : (k + 1 - 1) / 2 = m := HM.out
    unfold upP
    rw [hm1, if_pos (.inr (Int.not_lt.2 HD.out))]
    exact HR.out.2.2.1.below HB3.out HR.out.2.2.1.lt.1 HR.out.2.2.1.lt.2
end Go.Proofs.YtckmkaeopnnbbaaGreatDoor.As.T
