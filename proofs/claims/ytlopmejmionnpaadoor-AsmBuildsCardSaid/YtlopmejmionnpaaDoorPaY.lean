/- The walks of the package asm: an instruction is told. -/
import Derived.Test.YtlopmejmionnpaaDoorPaX
set_option linter.unusedVariables false
set_option linter.unusedSimpArgs false
namespace Go.Proofs.YtlopmejmionnpaaDoor.As
open Go.RowKit

theorem TS.join {w W : World} {sb : Nat} {i : Ins} {v : Value} {ws : List B8} (h : TS w W sb i v ws) (hw : ws ≠ []) (hl : ws.length ≤ 10) (hb : (joinB 32 ws).length ≤ 1000) :
    Calls Tryd.prog 62 #[v, .string ⟨#[32]⟩] W fun e W' => e = .returned (.string (strB (joinB 32 ws))) ∧ Below W.heap.size W W' := by
  have hpos : 0 < ws.length := List.length_pos_iff.2 hw
  obtain ⟨A, cap, rfl, hcap, hlen, hc⟩ := Rd.of_own h.own
  rcases hc with ⟨_, e⟩ | ⟨b, off, rfl, hbl, hcell⟩
  · omega
  · have hx : (ws.map strB).length = ws.length := List.length_map _
    have hy : (ws.map strB).map (·.data.toList) = ws := by simp [strB, Function.comp_def]
    have hz : Lib.join ((ws.map strB).map (·.data.toList)) (ByteArray.mk #[32]).data.toList = joinB 32 ws := by rw [hy]; exact join_eq ws hw
    have := Tryd.strings_Join b off cap (ws.map strB) ⟨#[32]⟩ W (fun j x hj => hcell j _ (by
      rw [List.getElem?_map] at hj ⊢
      cases hq : ws[j]? with
      | none => rw [hq] at hj; cases hj
      | some y => rw [hq] at hj; injection hj with hj; rw [← hj]; rfl)) hbl (by omega) (by omega) (by rw [hz]; omega)
    rw [hz, hx] at this
    exact this
theorem TS.new (w : World) (i : Ins) : TS w (((w.alloc (.cells #[.int .i64 i.op, .int .i64 i.a, .int .i64 i.b, .int .i64 i.c, .int .u32 i.k] 34)).alloc (.cells #[str (opName i.op)] 9)).alloc (.cells #[.slice (some ⟨w.heap.size + 1, 0, none⟩) 1 1] 39)) (w.heap.size + 1 + 1) i (.slice (some ⟨w.heap.size + 1, 0, none⟩) 1 1) [opName i.op] := by
  have z1 : (w.alloc (.cells #[.int .i64 i.op, .int .i64 i.a, .int .i64 i.b, .int .i64 i.c, .int .u32 i.k] 34)).heap.size = w.heap.size + 1 := by simp
  refine ⟨⟨rfl, .inr ⟨w.heap.size + 1, 1, #[str (opName i.op)], rfl, by omega, ?_, Nat.le_refl _, by unfold maxLen; omega, rfl, rfl⟩⟩, ?_, by omega, ?_, ?_⟩
  · refine (Below.heap_alloc _ _ _ (by simp)).trans ?_
    rw [← z1]; exact heap_alloc_new _ _
  · have := heap_alloc_new ((w.alloc (.cells #[.int .i64 i.op, .int .i64 i.a, .int .i64 i.b, .int .i64 i.c, .int .u32 i.k] 34)).alloc (.cells #[str (opName i.op)] 9)) (.cells #[.slice (some ⟨w.heap.size + 1, 0, none⟩) 1 1] 39)
    simp only [World.size_alloc] at this
    exact this
  · exact (((Below.refl _ _).alloc (Nat.le_refl _) _).alloc (by simp) _).alloc (by simp; omega) _
  · exact ((Blk.new w i).alloc _).alloc _
/-- What a line needs besides its words. -/
structure TP (w : World) (i : Ins) (L : B8) (e : Ending) (w' : World) : Prop where
  val : e = .returned (.string (strB L))
  bel : Below w.heap.size w w'
theorem fmt_dig (n : Nat) (h : n ≤ 4294967295) : ∃ d : ByteArray, d = strB (decB n) ∧ d.size ≤ 10 ∧ ∀ w : World, Pow w → Calls Tryd.prog 60 #[.int .u64 n, .int .i64 10] w fun e w' => e = .returned (.string d) ∧ Below w.heap.size w w' := by
  refine ⟨_, rfl, ?_, fun w hp => ?_⟩
  · have := decB_len 9 n (by omega)
    simpa [strB_size] using this
  · have := fmtu_any n (by omega) w hp
    unfold DigP at this
    rw [dec_dig] at this
    exact this
set_option maxHeartbeats 4000000 in
set_option maxRecDepth 100000 in
theorem told_0 (w : World) (o a b c : Int) (k : Nat) (T : TabA w) (hc : o = 0) (ha : 0 ≤ a ∧ a ≤ 7) (hbb : 0 ≤ b ∧ b ≤ 8) (hcc : 0 ≤ c ∧ c ≤ 7) (hk : k ≤ 4294967295)  (L : B8) (hL : joinB 32 [opName o] = L) (hlen : L.length ≤ 1000) :
    Calls Tryd.prog 41 #[.agg #[.int .i64 o, .int .i64 a, .int .i64 b, .int .i64 c, .int .u32 k]] w (TP w ⟨o, a, b, c, k⟩ L) := by
  have e1 : (o == 1) = false := by simp; omega
  have e27 : (o == 27) = false := by simp; omega
  have e2 : (o == 2) = false := by simp; omega
  have e13 : (o == 13) = false := by simp; omega
  have e21 : (o == 21) = false := by simp; omega
  have e22 : (o == 22) = false := by simp; omega
  have e3 : decide (3 ≤ o) = false := by simp; omega
  have hj : jumps o = false := by unfold jumps; simp; omega
  have hs : asksI o = false := by unfold asksI; simp; omega
  obtain ⟨i0, hi, hz0, hz1, hz2⟩ := info_parts info_str
  obtain ⟨dk, qk, zk, hfmt⟩ := fmt_dig k hk
  have HF := Lib.hid hfmt
  have HT := Lib.hid T
  have HL := Lib.hid hL
  clear hc
  have QK := Lib.hid qk
  clear qk hfmt T hL
  go_enter Tryd.func41, Tryd.ntmps41
  go_wp2_with fail
  refine (iname_any _ _ (HT.out.isa.below ((Below.refl _ _).alloc (Nat.le_refl _) _) (Nat.le_refl _))).mono ?_
  rintro e w' ⟨rfl, rfl⟩
  go_wp2_with fail
  have hts0 := TS.new w ⟨o, a, b, c, k⟩
  unfold str at hts0
  simp only [] at hts0
  obtain ⟨sb, hsb⟩ : ∃ sb, w.heap.size + 1 + 1 = sb := ⟨_, rfl⟩
  obtain ⟨v0, hv0⟩ : ∃ v0, Value.slice (some ⟨w.heap.size + 1, 0, none⟩) 1 1 = v0 := ⟨_, rfl⟩
  rw [hsb, hv0] at hts0 ⊢
  generalize (((w.alloc (.cells #[.int .i64 o, .int .i64 a, .int .i64 b, .int .i64 c, .int .u32 k] 34)).alloc (.cells #[.string ⟨(opName o).toArray⟩] 9)).alloc (.cells #[v0] 39)) = W0 at hts0 ⊢
  clear hsb hv0
  have HS0 := Lib.hid hts0
  clear hts0
  refine (HF.out _ (HT.out.below HS0.out.bel (Nat.le_refl _)).pow).mono ?_
  rintro e W1 ⟨rfl, hb⟩
  have HS : Hid (TS w W1 sb ⟨o, a, b, c, k⟩ v0 [opName o]) := Lib.hid (HS0.out.below hb)
  clear hb HS0
  have TI : Hid (TabI W1) := Lib.hid (HT.out.below HS.out.bel (Nat.le_refl _)).isa
  obtain ⟨c0, c1, c2, c3, c4⟩ := HS.out.blk.c
  have k1 : W1.cell? ⟨sb, 0, none⟩ = some v0 := cell_of_row W1 sb 0 _ _ _ HS.out.head
  have k2 := frozen_of_row W1 sb 0 _ _ HS.out.head
  have hsl : sb < W1.heap.size := (Array.getElem?_eq_some_iff.1 HS.out.head).1
  have hwz := HS.out.bel.size
  simp only [] at c0 c1 c2 c3 c4
  go_wp2_with fail
  refine (jumps_any _ _ TI.out).mono ?_
  rintro e w' ⟨rfl, rfl⟩
  go_wp2_with fail
  refine (asks_any _ _ TI.out).mono ?_
  rintro e w' ⟨rfl, rfl⟩
  go_wp2_with fail
  refine (HS.out.join (by simp) (by simp) (by rw [HL.out]; exact hlen)).mono ?_
  rintro e w8 ⟨rfl, hb⟩
  have HE := Lib.hid (HS.out.bel.trans (hb.mono HS.out.bel.size))
  clear hb
  rw [HL.out]
  go_wp2_with fail
  go_ret
  exact ⟨rfl, HE.out⟩
set_option maxHeartbeats 4000000 in
set_option maxRecDepth 100000 in
theorem told_0y (w : World) (o a b c : Int) (k : Nat) (T : TabA w) (hc : o = 18 ∨ o = 25 ∨ o = 26) (ha : 0 ≤ a ∧ a ≤ 7) (hbb : 0 ≤ b ∧ b ≤ 8) (hcc : 0 ≤ c ∧ c ≤ 7) (hk : k ≤ 4294967295)  (L : B8) (hL : joinB 32 [opName o] = L) (hlen : L.length ≤ 1000) :
    Calls Tryd.prog 41 #[.agg #[.int .i64 o, .int .i64 a, .int .i64 b, .int .i64 c, .int .u32 k]] w (TP w ⟨o, a, b, c, k⟩ L) := by
  have e1 : (o == 1) = false := by simp; omega
  have e27 : (o == 27) = false := by simp; omega
  have e2 : (o == 2) = false := by simp; omega
  have e13 : (o == 13) = false := by simp; omega
  have e21 : (o == 21) = false := by simp; omega
  have e22 : (o == 22) = false := by simp; omega
  have e3 : decide (3 ≤ o) = true := by simp; omega
  have e12 : decide (o ≤ 12) = false := by simp; omega
  have hj : jumps o = false := by unfold jumps; simp; omega
  have hs : asksI o = false := by unfold asksI; simp; omega
  obtain ⟨i0, hi, hz0, hz1, hz2⟩ := info_parts info_str
  obtain ⟨dk, qk, zk, hfmt⟩ := fmt_dig k hk
  have HF := Lib.hid hfmt
  have HT := Lib.hid T
  have HL := Lib.hid hL
  clear hc
  have QK := Lib.hid qk
  clear qk hfmt T hL
  go_enter Tryd.func41, Tryd.ntmps41
  go_wp2_with fail
  refine (iname_any _ _ (HT.out.isa.below ((Below.refl _ _).alloc (Nat.le_refl _) _) (Nat.le_refl _))).mono ?_
  rintro e w' ⟨rfl, rfl⟩
  go_wp2_with fail
  have hts0 := TS.new w ⟨o, a, b, c, k⟩
  unfold str at hts0
  simp only [] at hts0
  obtain ⟨sb, hsb⟩ : ∃ sb, w.heap.size + 1 + 1 = sb := ⟨_, rfl⟩
  obtain ⟨v0, hv0⟩ : ∃ v0, Value.slice (some ⟨w.heap.size + 1, 0, none⟩) 1 1 = v0 := ⟨_, rfl⟩
  rw [hsb, hv0] at hts0 ⊢
  generalize (((w.alloc (.cells #[.int .i64 o, .int .i64 a, .int .i64 b, .int .i64 c, .int .u32 k] 34)).alloc (.cells #[.string ⟨(opName o).toArray⟩] 9)).alloc (.cells #[v0] 39)) = W0 at hts0 ⊢
  clear hsb hv0
  have HS0 := Lib.hid hts0
  clear hts0
  refine (HF.out _ (HT.out.below HS0.out.bel (Nat.le_refl _)).pow).mono ?_
  rintro e W1 ⟨rfl, hb⟩
  have HS : Hid (TS w W1 sb ⟨o, a, b, c, k⟩ v0 [opName o]) := Lib.hid (HS0.out.below hb)
  clear hb HS0
  have TI : Hid (TabI W1) := Lib.hid (HT.out.below HS.out.bel (Nat.le_refl _)).isa
  obtain ⟨c0, c1, c2, c3, c4⟩ := HS.out.blk.c
  have k1 : W1.cell? ⟨sb, 0, none⟩ = some v0 := cell_of_row W1 sb 0 _ _ _ HS.out.head
  have k2 := frozen_of_row W1 sb 0 _ _ HS.out.head
  have hsl : sb < W1.heap.size := (Array.getElem?_eq_some_iff.1 HS.out.head).1
  have hwz := HS.out.bel.size
  simp only [] at c0 c1 c2 c3 c4
  go_wp2_with fail
  refine (jumps_any _ _ TI.out).mono ?_
  rintro e w' ⟨rfl, rfl⟩
  go_wp2_with fail
  refine (asks_any _ _ TI.out).mono ?_
  rintro e w' ⟨rfl, rfl⟩
  go_wp2_with fail
  refine (HS.out.join (by simp) (by simp) (by rw [HL.out]; exact hlen)).mono ?_
  rintro e w8 ⟨rfl, hb⟩
  have HE := Lib.hid (HS.out.bel.trans (hb.mono HS.out.bel.size))
  clear hb
  rw [HL.out]
  go_wp2_with fail
  go_ret
  exact ⟨rfl, HE.out⟩
set_option maxHeartbeats 4000000 in
set_option maxRecDepth 100000 in
theorem told_1 (w : World) (o a b c : Int) (k : Nat) (T : TabA w) (hc : o = 1) (ha : 0 ≤ a ∧ a ≤ 7) (hbb : 0 ≤ b ∧ b ≤ 8) (hcc : 0 ≤ c ∧ c ≤ 7) (hk : k ≤ 4294967295)  (L : B8) (hL : joinB 32 [opName o, regW a, decB k] = L) (hlen : L.length ≤ 1000) :
    Calls Tryd.prog 41 #[.agg #[.int .i64 o, .int .i64 a, .int .i64 b, .int .i64 c, .int .u32 k]] w (TP w ⟨o, a, b, c, k⟩ L) := by
  have e1 : (o == 1) = true := by simp; omega
  have e27 : (o == 27) = false := by simp; omega
  have e2 : (o == 2) = false := by simp; omega
  have e13 : (o == 13) = false := by simp; omega
  have e21 : (o == 21) = false := by simp; omega
  have e22 : (o == 22) = false := by simp; omega
  have e3 : decide (3 ≤ o) = false := by simp; omega
  have hj : jumps o = false := by unfold jumps; simp; omega
  have hs : asksI o = false := by unfold asksI; simp; omega
  obtain ⟨i0, hi, hz0, hz1, hz2⟩ := info_parts info_str
  obtain ⟨dk, qk, zk, hfmt⟩ := fmt_dig k hk
  have HF := Lib.hid hfmt
  have HT := Lib.hid T
  have HL := Lib.hid hL
  clear hc
  have hqq : dk = strB (decB k) := by
    rw [qk]
  have HQ := Lib.hid hqq
  clear hqq
  have QK := Lib.hid qk
  clear qk hfmt T hL
  go_enter Tryd.func41, Tryd.ntmps41
  go_wp2_with fail
  refine (iname_any _ _ (HT.out.isa.below ((Below.refl _ _).alloc (Nat.le_refl _) _) (Nat.le_refl _))).mono ?_
  rintro e w' ⟨rfl, rfl⟩
  go_wp2_with fail
  have hts0 := TS.new w ⟨o, a, b, c, k⟩
  unfold str at hts0
  simp only [] at hts0
  obtain ⟨sb, hsb⟩ : ∃ sb, w.heap.size + 1 + 1 = sb := ⟨_, rfl⟩
  obtain ⟨v0, hv0⟩ : ∃ v0, Value.slice (some ⟨w.heap.size + 1, 0, none⟩) 1 1 = v0 := ⟨_, rfl⟩
  rw [hsb, hv0] at hts0 ⊢
  generalize (((w.alloc (.cells #[.int .i64 o, .int .i64 a, .int .i64 b, .int .i64 c, .int .u32 k] 34)).alloc (.cells #[.string ⟨(opName o).toArray⟩] 9)).alloc (.cells #[v0] 39)) = W0 at hts0 ⊢
  clear hsb hv0
  have HS0 := Lib.hid hts0
  clear hts0
  refine (HF.out _ (HT.out.below HS0.out.bel (Nat.le_refl _)).pow).mono ?_
  rintro e W1 ⟨rfl, hb⟩
  have HS : Hid (TS w W1 sb ⟨o, a, b, c, k⟩ v0 [opName o]) := Lib.hid (HS0.out.below hb)
  clear hb HS0
  have TI : Hid (TabI W1) := Lib.hid (HT.out.below HS.out.bel (Nat.le_refl _)).isa
  obtain ⟨c0, c1, c2, c3, c4⟩ := HS.out.blk.c
  have k1 : W1.cell? ⟨sb, 0, none⟩ = some v0 := cell_of_row W1 sb 0 _ _ _ HS.out.head
  have k2 := frozen_of_row W1 sb 0 _ _ HS.out.head
  have hsl : sb < W1.heap.size := (Array.getElem?_eq_some_iff.1 HS.out.head).1
  have hwz := HS.out.bel.size
  simp only [] at c0 c1 c2 c3 c4
  go_wp2_with fail
  refine (say_any w _ sb ⟨o, a, b, c, k⟩ _ _ HS.out (by simp) a ha).mono ?_
  rintro e W2 ⟨rfl, v2, hts⟩
  have HS1 : Hid (TS w W2 sb ⟨o, a, b, c, k⟩ v2 [opName o, regW a]) := Lib.hid hts
  clear hts HS c0 c1 c2 c3 c4 k1 k2 hsl hwz TI
  have HS := HS1
  clear HS1
  have TI : Hid (TabI W2) := Lib.hid (HT.out.below HS.out.bel (Nat.le_refl _)).isa
  obtain ⟨c0, c1, c2, c3, c4⟩ := HS.out.blk.c
  have k1 : W2.cell? ⟨sb, 0, none⟩ = some v2 := cell_of_row W2 sb 0 _ _ _ HS.out.head
  have k2 := frozen_of_row W2 sb 0 _ _ HS.out.head
  have hsl : sb < W2.heap.size := (Array.getElem?_eq_some_iff.1 HS.out.head).1
  have hwz := HS.out.bel.size
  simp only [] at c0 c1 c2 c3 c4
  have hown : W2.ownsRow w.heap.size 9 1 v2 2 [str (opName o), str (regW a)] := HS.out.own
  have hne := own_ne hown HS.out.head (by decide)
  go_wp2_with (at_builtin; refine wpList_append_lies _ rfl (.tmp 28) (.tmp 30) 39 rfl w.heap.size 9 i0 _ 1 16 Tryd.underlying39 hi hz0 hz1 hz2 rfl (by decide) v2 2 [str (opName o), str (regW a)] rfl (hown.alloc _) ⟨W2.heap.size, 0, none⟩ 1 1 [.string (dk)] rfl rfl (World.news_of_block (heap_alloc_new _ _)) (by simp [Value.oneCell']) (by decide) (by unfold maxLen; omega) (by omega) (by simp; omega) _ rfl ?_; intro g1 cap w9 ho hgr hat hlt1; have k0 : w9.heap[sb]? = some (.cells #[v2] 39 (0, 0)) := (hgr.block sb (by simp; omega) (fun e => hne e.symm)).trans ((Below.heap_alloc _ _ _ hsl).trans HS.out.head); have j1 : w9.cell? ⟨sb, 0, none⟩ = some v2 := cell_of_row w9 sb 0 _ _ _ k0; have j2 := frozen_of_row w9 sb 0 _ _ k0; have hgr2 : W2.grownBy w9 v2.ownBlock := grown_from hgr rfl rfl rfl (by simp <;> omega) (fun i hi' => Below.heap_alloc _ _ _ hi'); have ho2 : w9.ownsRow w.heap.size 9 1 (.slice (some ⟨g1, 0, none⟩) 3 cap) 3 ([str (opName o), str (regW a)] ++ [.string (dk)]) := ho; rw [HQ.out] at ho2; have HS9 : Hid (TS w (w9.setCell ⟨sb, 0, none⟩ (.slice (some ⟨g1, 0, none⟩) 3 cap)) sb ⟨o, a, b, c, k⟩ (.slice (some ⟨g1, 0, none⟩) 3 cap) [opName o, regW a, decB k]) := Lib.hid (HS.out.app (x := decB k) hgr2 ho2 rfl); clear ho hgr hat hlt1 k0 hgr2 ho2)
  refine (HS9.out.join (by simp) (by simp) (by rw [HL.out]; exact hlen)).mono ?_
  rintro e w8 ⟨rfl, hb⟩
  have HE := Lib.hid (HS9.out.bel.trans (hb.mono HS9.out.bel.size))
  clear hb
  rw [HL.out]
  go_wp2_with fail
  go_ret
  exact ⟨rfl, HE.out⟩
set_option maxHeartbeats 4000000 in
set_option maxRecDepth 100000 in
theorem told_1y (w : World) (o a b c : Int) (k : Nat) (T : TabA w) (hc : o = 27) (ha : 0 ≤ a ∧ a ≤ 7) (hbb : 0 ≤ b ∧ b ≤ 8) (hcc : 0 ≤ c ∧ c ≤ 7) (hk : k ≤ 4294967295)  (L : B8) (hL : joinB 32 [opName o, regW a, decB k] = L) (hlen : L.length ≤ 1000) :
    Calls Tryd.prog 41 #[.agg #[.int .i64 o, .int .i64 a, .int .i64 b, .int .i64 c, .int .u32 k]] w (TP w ⟨o, a, b, c, k⟩ L) := by
  have e1 : (o == 1) = false := by simp; omega
  have e27 : (o == 27) = true := by simp; omega
  have e2 : (o == 2) = false := by simp; omega
  have e13 : (o == 13) = false := by simp; omega
  have e21 : (o == 21) = false := by simp; omega
  have e22 : (o == 22) = false := by simp; omega
  have e3 : decide (3 ≤ o) = true := by simp; omega
  have e12 : decide (o ≤ 12) = false := by simp; omega
  have hj : jumps o = false := by unfold jumps; simp; omega
  have hs : asksI o = false := by unfold asksI; simp; omega
  obtain ⟨i0, hi, hz0, hz1, hz2⟩ := info_parts info_str
  obtain ⟨dk, qk, zk, hfmt⟩ := fmt_dig k hk
  have HF := Lib.hid hfmt
  have HT := Lib.hid T
  have HL := Lib.hid hL
  clear hc
  have hqq : dk = strB (decB k) := by
    rw [qk]
  have HQ := Lib.hid hqq
  clear hqq
  have QK := Lib.hid qk
  clear qk hfmt T hL
  go_enter Tryd.func41, Tryd.ntmps41
  go_wp2_with fail
  refine (iname_any _ _ (HT.out.isa.below ((Below.refl _ _).alloc (Nat.le_refl _) _) (Nat.le_refl _))).mono ?_
  rintro e w' ⟨rfl, rfl⟩
  go_wp2_with fail
  have hts0 := TS.new w ⟨o, a, b, c, k⟩
  unfold str at hts0
  simp only [] at hts0
  obtain ⟨sb, hsb⟩ : ∃ sb, w.heap.size + 1 + 1 = sb := ⟨_, rfl⟩
  obtain ⟨v0, hv0⟩ : ∃ v0, Value.slice (some ⟨w.heap.size + 1, 0, none⟩) 1 1 = v0 := ⟨_, rfl⟩
  rw [hsb, hv0] at hts0 ⊢
  generalize (((w.alloc (.cells #[.int .i64 o, .int .i64 a, .int .i64 b, .int .i64 c, .int .u32 k] 34)).alloc (.cells #[.string ⟨(opName o).toArray⟩] 9)).alloc (.cells #[v0] 39)) = W0 at hts0 ⊢
  clear hsb hv0
  have HS0 := Lib.hid hts0
  clear hts0
  refine (HF.out _ (HT.out.below HS0.out.bel (Nat.le_refl _)).pow).mono ?_
  rintro e W1 ⟨rfl, hb⟩
  have HS : Hid (TS w W1 sb ⟨o, a, b, c, k⟩ v0 [opName o]) := Lib.hid (HS0.out.below hb)
  clear hb HS0
  have TI : Hid (TabI W1) := Lib.hid (HT.out.below HS.out.bel (Nat.le_refl _)).isa
  obtain ⟨c0, c1, c2, c3, c4⟩ := HS.out.blk.c
  have k1 : W1.cell? ⟨sb, 0, none⟩ = some v0 := cell_of_row W1 sb 0 _ _ _ HS.out.head
  have k2 := frozen_of_row W1 sb 0 _ _ HS.out.head
  have hsl : sb < W1.heap.size := (Array.getElem?_eq_some_iff.1 HS.out.head).1
  have hwz := HS.out.bel.size
  simp only [] at c0 c1 c2 c3 c4
  go_wp2_with fail
  refine (say_any w _ sb ⟨o, a, b, c, k⟩ _ _ HS.out (by simp) a ha).mono ?_
  rintro e W2 ⟨rfl, v2, hts⟩
  have HS1 : Hid (TS w W2 sb ⟨o, a, b, c, k⟩ v2 [opName o, regW a]) := Lib.hid hts
  clear hts HS c0 c1 c2 c3 c4 k1 k2 hsl hwz TI
  have HS := HS1
  clear HS1
  have TI : Hid (TabI W2) := Lib.hid (HT.out.below HS.out.bel (Nat.le_refl _)).isa
  obtain ⟨c0, c1, c2, c3, c4⟩ := HS.out.blk.c
  have k1 : W2.cell? ⟨sb, 0, none⟩ = some v2 := cell_of_row W2 sb 0 _ _ _ HS.out.head
  have k2 := frozen_of_row W2 sb 0 _ _ HS.out.head
  have hsl : sb < W2.heap.size := (Array.getElem?_eq_some_iff.1 HS.out.head).1
  have hwz := HS.out.bel.size
  simp only [] at c0 c1 c2 c3 c4
  have hown : W2.ownsRow w.heap.size 9 1 v2 2 [str (opName o), str (regW a)] := HS.out.own
  have hne := own_ne hown HS.out.head (by decide)
  go_wp2_with (at_builtin; refine wpList_append_lies _ rfl (.tmp 28) (.tmp 30) 39 rfl w.heap.size 9 i0 _ 1 16 Tryd.underlying39 hi hz0 hz1 hz2 rfl (by decide) v2 2 [str (opName o), str (regW a)] rfl (hown.alloc _) ⟨W2.heap.size, 0, none⟩ 1 1 [.string (dk)] rfl rfl (World.news_of_block (heap_alloc_new _ _)) (by simp [Value.oneCell']) (by decide) (by unfold maxLen; omega) (by omega) (by simp; omega) _ rfl ?_; intro g1 cap w9 ho hgr hat hlt1; have k0 : w9.heap[sb]? = some (.cells #[v2] 39 (0, 0)) := (hgr.block sb (by simp; omega) (fun e => hne e.symm)).trans ((Below.heap_alloc _ _ _ hsl).trans HS.out.head); have j1 : w9.cell? ⟨sb, 0, none⟩ = some v2 := cell_of_row w9 sb 0 _ _ _ k0; have j2 := frozen_of_row w9 sb 0 _ _ k0; have hgr2 : W2.grownBy w9 v2.ownBlock := grown_from hgr rfl rfl rfl (by simp <;> omega) (fun i hi' => Below.heap_alloc _ _ _ hi'); have ho2 : w9.ownsRow w.heap.size 9 1 (.slice (some ⟨g1, 0, none⟩) 3 cap) 3 ([str (opName o), str (regW a)] ++ [.string (dk)]) := ho; rw [HQ.out] at ho2; have HS9 : Hid (TS w (w9.setCell ⟨sb, 0, none⟩ (.slice (some ⟨g1, 0, none⟩) 3 cap)) sb ⟨o, a, b, c, k⟩ (.slice (some ⟨g1, 0, none⟩) 3 cap) [opName o, regW a, decB k]) := Lib.hid (HS.out.app (x := decB k) hgr2 ho2 rfl); clear ho hgr hat hlt1 k0 hgr2 ho2)
  refine (HS9.out.join (by simp) (by simp) (by rw [HL.out]; exact hlen)).mono ?_
  rintro e w8 ⟨rfl, hb⟩
  have HE := Lib.hid (HS9.out.bel.trans (hb.mono HS9.out.bel.size))
  clear hb
  rw [HL.out]
  go_wp2_with fail
  go_ret
  exact ⟨rfl, HE.out⟩
set_option maxHeartbeats 4000000 in
set_option maxRecDepth 100000 in
theorem told_2 (w : World) (o a b c : Int) (k : Nat) (T : TabA w) (hc : o = 2) (ha : 0 ≤ a ∧ a ≤ 7) (hbb : 0 ≤ b ∧ b ≤ 8) (hcc : 0 ≤ c ∧ c ≤ 7) (hk : k ≤ 4294967295) (hb7 : b ≤ 7) (L : B8) (hL : joinB 32 [opName o, regW a, regW b] = L) (hlen : L.length ≤ 1000) :
    Calls Tryd.prog 41 #[.agg #[.int .i64 o, .int .i64 a, .int .i64 b, .int .i64 c, .int .u32 k]] w (TP w ⟨o, a, b, c, k⟩ L) := by
  have e1 : (o == 1) = false := by simp; omega
  have e27 : (o == 27) = false := by simp; omega
  have e2 : (o == 2) = true := by simp; omega
  have e13 : (o == 13) = false := by simp; omega
  have e21 : (o == 21) = false := by simp; omega
  have e22 : (o == 22) = false := by simp; omega
  have e3 : decide (3 ≤ o) = false := by simp; omega
  have hj : jumps o = false := by unfold jumps; simp; omega
  have hs : asksI o = false := by unfold asksI; simp; omega
  obtain ⟨i0, hi, hz0, hz1, hz2⟩ := info_parts info_str
  obtain ⟨dk, qk, zk, hfmt⟩ := fmt_dig k hk
  have HF := Lib.hid hfmt
  have HT := Lib.hid T
  have HL := Lib.hid hL
  clear hc
  have QK := Lib.hid qk
  clear qk hfmt T hL
  go_enter Tryd.func41, Tryd.ntmps41
  go_wp2_with fail
  refine (iname_any _ _ (HT.out.isa.below ((Below.refl _ _).alloc (Nat.le_refl _) _) (Nat.le_refl _))).mono ?_
  rintro e w' ⟨rfl, rfl⟩
  go_wp2_with fail
  have hts0 := TS.new w ⟨o, a, b, c, k⟩
  unfold str at hts0
  simp only [] at hts0
  obtain ⟨sb, hsb⟩ : ∃ sb, w.heap.size + 1 + 1 = sb := ⟨_, rfl⟩
  obtain ⟨v0, hv0⟩ : ∃ v0, Value.slice (some ⟨w.heap.size + 1, 0, none⟩) 1 1 = v0 := ⟨_, rfl⟩
  rw [hsb, hv0] at hts0 ⊢
  generalize (((w.alloc (.cells #[.int .i64 o, .int .i64 a, .int .i64 b, .int .i64 c, .int .u32 k] 34)).alloc (.cells #[.string ⟨(opName o).toArray⟩] 9)).alloc (.cells #[v0] 39)) = W0 at hts0 ⊢
  clear hsb hv0
  have HS0 := Lib.hid hts0
  clear hts0
  refine (HF.out _ (HT.out.below HS0.out.bel (Nat.le_refl _)).pow).mono ?_
  rintro e W1 ⟨rfl, hb⟩
  have HS : Hid (TS w W1 sb ⟨o, a, b, c, k⟩ v0 [opName o]) := Lib.hid (HS0.out.below hb)
  clear hb HS0
  have TI : Hid (TabI W1) := Lib.hid (HT.out.below HS.out.bel (Nat.le_refl _)).isa
  obtain ⟨c0, c1, c2, c3, c4⟩ := HS.out.blk.c
  have k1 : W1.cell? ⟨sb, 0, none⟩ = some v0 := cell_of_row W1 sb 0 _ _ _ HS.out.head
  have k2 := frozen_of_row W1 sb 0 _ _ HS.out.head
  have hsl : sb < W1.heap.size := (Array.getElem?_eq_some_iff.1 HS.out.head).1
  have hwz := HS.out.bel.size
  simp only [] at c0 c1 c2 c3 c4
  go_wp2_with fail
  refine (say_any w _ sb ⟨o, a, b, c, k⟩ _ _ HS.out (by simp) a ha).mono ?_
  rintro e W2 ⟨rfl, v2, hts⟩
  have HS1 : Hid (TS w W2 sb ⟨o, a, b, c, k⟩ v2 [opName o, regW a]) := Lib.hid hts
  clear hts HS c0 c1 c2 c3 c4 k1 k2 hsl hwz TI
  have HS := HS1
  clear HS1
  have TI : Hid (TabI W2) := Lib.hid (HT.out.below HS.out.bel (Nat.le_refl _)).isa
  obtain ⟨c0, c1, c2, c3, c4⟩ := HS.out.blk.c
  have k1 : W2.cell? ⟨sb, 0, none⟩ = some v2 := cell_of_row W2 sb 0 _ _ _ HS.out.head
  have k2 := frozen_of_row W2 sb 0 _ _ HS.out.head
  have hsl : sb < W2.heap.size := (Array.getElem?_eq_some_iff.1 HS.out.head).1
  have hwz := HS.out.bel.size
  simp only [] at c0 c1 c2 c3 c4
  go_wp2_with fail
  refine (say_any w _ sb ⟨o, a, b, c, k⟩ _ _ HS.out (by simp) b ⟨hbb.1, by omega⟩).mono ?_
  rintro e W3 ⟨rfl, v3, hts⟩
  have HS1 : Hid (TS w W3 sb ⟨o, a, b, c, k⟩ v3 [opName o, regW a, regW b]) := Lib.hid hts
  clear hts HS c0 c1 c2 c3 c4 k1 k2 hsl hwz TI
  have HS := HS1
  clear HS1
  have TI : Hid (TabI W3) := Lib.hid (HT.out.below HS.out.bel (Nat.le_refl _)).isa
  obtain ⟨c0, c1, c2, c3, c4⟩ := HS.out.blk.c
  have k1 : W3.cell? ⟨sb, 0, none⟩ = some v3 := cell_of_row W3 sb 0 _ _ _ HS.out.head
  have k2 := frozen_of_row W3 sb 0 _ _ HS.out.head
  have hsl : sb < W3.heap.size := (Array.getElem?_eq_some_iff.1 HS.out.head).1
  have hwz := HS.out.bel.size
  simp only [] at c0 c1 c2 c3 c4
  go_wp2_with fail
  refine (HS.out.join (by simp) (by simp) (by rw [HL.out]; exact hlen)).mono ?_
  rintro e w8 ⟨rfl, hb⟩
  have HE := Lib.hid (HS.out.bel.trans (hb.mono HS.out.bel.size))
  clear hb
  rw [HL.out]
  go_wp2_with fail
  go_ret
  exact ⟨rfl, HE.out⟩
set_option maxHeartbeats 4000000 in
set_option maxRecDepth 100000 in
theorem told_3 (w : World) (o a b c : Int) (k : Nat) (T : TabA w) (hc : 3 ≤ o ∧ o ≤ 12) (ha : 0 ≤ a ∧ a ≤ 7) (hbb : 0 ≤ b ∧ b ≤ 8) (hcc : 0 ≤ c ∧ c ≤ 7) (hk : k ≤ 4294967295) (hb7 : b ≤ 7) (L : B8) (hL : joinB 32 [opName o, regW a, regW b, regW c] = L) (hlen : L.length ≤ 1000) :
    Calls Tryd.prog 41 #[.agg #[.int .i64 o, .int .i64 a, .int .i64 b, .int .i64 c, .int .u32 k]] w (TP w ⟨o, a, b, c, k⟩ L) := by
  have e1 : (o == 1) = false := by simp; omega
  have e27 : (o == 27) = false := by simp; omega
  have e2 : (o == 2) = false := by simp; omega
  have e13 : (o == 13) = false := by simp; omega
  have e21 : (o == 21) = false := by simp; omega
  have e22 : (o == 22) = false := by simp; omega
  have e3 : decide (3 ≤ o) = true := by simp; omega
  have e12 : decide (o ≤ 12) = true := by simp; omega
  have hj : jumps o = false := by unfold jumps; simp; omega
  have hs : asksI o = false := by unfold asksI; simp; omega
  obtain ⟨i0, hi, hz0, hz1, hz2⟩ := info_parts info_str
  obtain ⟨dk, qk, zk, hfmt⟩ := fmt_dig k hk
  have HF := Lib.hid hfmt
  have HT := Lib.hid T
  have HL := Lib.hid hL
  clear hc
  have QK := Lib.hid qk
  clear qk hfmt T hL
  go_enter Tryd.func41, Tryd.ntmps41
  go_wp2_with fail
  refine (iname_any _ _ (HT.out.isa.below ((Below.refl _ _).alloc (Nat.le_refl _) _) (Nat.le_refl _))).mono ?_
  rintro e w' ⟨rfl, rfl⟩
  go_wp2_with fail
  have hts0 := TS.new w ⟨o, a, b, c, k⟩
  unfold str at hts0
  simp only [] at hts0
  obtain ⟨sb, hsb⟩ : ∃ sb, w.heap.size + 1 + 1 = sb := ⟨_, rfl⟩
  obtain ⟨v0, hv0⟩ : ∃ v0, Value.slice (some ⟨w.heap.size + 1, 0, none⟩) 1 1 = v0 := ⟨_, rfl⟩
  rw [hsb, hv0] at hts0 ⊢
  generalize (((w.alloc (.cells #[.int .i64 o, .int .i64 a, .int .i64 b, .int .i64 c, .int .u32 k] 34)).alloc (.cells #[.string ⟨(opName o).toArray⟩] 9)).alloc (.cells #[v0] 39)) = W0 at hts0 ⊢
  clear hsb hv0
  have HS0 := Lib.hid hts0
  clear hts0
  refine (HF.out _ (HT.out.below HS0.out.bel (Nat.le_refl _)).pow).mono ?_
  rintro e W1 ⟨rfl, hb⟩
  have HS : Hid (TS w W1 sb ⟨o, a, b, c, k⟩ v0 [opName o]) := Lib.hid (HS0.out.below hb)
  clear hb HS0
  have TI : Hid (TabI W1) := Lib.hid (HT.out.below HS.out.bel (Nat.le_refl _)).isa
  obtain ⟨c0, c1, c2, c3, c4⟩ := HS.out.blk.c
  have k1 : W1.cell? ⟨sb, 0, none⟩ = some v0 := cell_of_row W1 sb 0 _ _ _ HS.out.head
  have k2 := frozen_of_row W1 sb 0 _ _ HS.out.head
  have hsl : sb < W1.heap.size := (Array.getElem?_eq_some_iff.1 HS.out.head).1
  have hwz := HS.out.bel.size
  simp only [] at c0 c1 c2 c3 c4
  go_wp2_with fail
  refine (say_any w _ sb ⟨o, a, b, c, k⟩ _ _ HS.out (by simp) a ha).mono ?_
  rintro e W2 ⟨rfl, v2, hts⟩
  have HS1 : Hid (TS w W2 sb ⟨o, a, b, c, k⟩ v2 [opName o, regW a]) := Lib.hid hts
  clear hts HS c0 c1 c2 c3 c4 k1 k2 hsl hwz TI
  have HS := HS1
  clear HS1
  have TI : Hid (TabI W2) := Lib.hid (HT.out.below HS.out.bel (Nat.le_refl _)).isa
  obtain ⟨c0, c1, c2, c3, c4⟩ := HS.out.blk.c
  have k1 : W2.cell? ⟨sb, 0, none⟩ = some v2 := cell_of_row W2 sb 0 _ _ _ HS.out.head
  have k2 := frozen_of_row W2 sb 0 _ _ HS.out.head
  have hsl : sb < W2.heap.size := (Array.getElem?_eq_some_iff.1 HS.out.head).1
  have hwz := HS.out.bel.size
  simp only [] at c0 c1 c2 c3 c4
  go_wp2_with fail
  refine (say_any w _ sb ⟨o, a, b, c, k⟩ _ _ HS.out (by simp) b ⟨hbb.1, by omega⟩).mono ?_
  rintro e W3 ⟨rfl, v3, hts⟩
  have HS1 : Hid (TS w W3 sb ⟨o, a, b, c, k⟩ v3 [opName o, regW a, regW b]) := Lib.hid hts
  clear hts HS c0 c1 c2 c3 c4 k1 k2 hsl hwz TI
  have HS := HS1
  clear HS1
  have TI : Hid (TabI W3) := Lib.hid (HT.out.below HS.out.bel (Nat.le_refl _)).isa
  obtain ⟨c0, c1, c2, c3, c4⟩ := HS.out.blk.c
  have k1 : W3.cell? ⟨sb, 0, none⟩ = some v3 := cell_of_row W3 sb 0 _ _ _ HS.out.head
  have k2 := frozen_of_row W3 sb 0 _ _ HS.out.head
  have hsl : sb < W3.heap.size := (Array.getElem?_eq_some_iff.1 HS.out.head).1
  have hwz := HS.out.bel.size
  simp only [] at c0 c1 c2 c3 c4
  go_wp2_with fail
  refine (say_any w _ sb ⟨o, a, b, c, k⟩ _ _ HS.out (by simp) c hcc).mono ?_
  rintro e W4 ⟨rfl, v4, hts⟩
  have HS1 : Hid (TS w W4 sb ⟨o, a, b, c, k⟩ v4 [opName o, regW a, regW b, regW c]) := Lib.hid hts
  clear hts HS c0 c1 c2 c3 c4 k1 k2 hsl hwz TI
  have HS := HS1
  clear HS1
  have TI : Hid (TabI W4) := Lib.hid (HT.out.below HS.out.bel (Nat.le_refl _)).isa
  obtain ⟨c0, c1, c2, c3, c4⟩ := HS.out.blk.c
  have k1 : W4.cell? ⟨sb, 0, none⟩ = some v4 := cell_of_row W4 sb 0 _ _ _ HS.out.head
  have k2 := frozen_of_row W4 sb 0 _ _ HS.out.head
  have hsl : sb < W4.heap.size := (Array.getElem?_eq_some_iff.1 HS.out.head).1
  have hwz := HS.out.bel.size
  simp only [] at c0 c1 c2 c3 c4
  go_wp2_with fail
  refine (HS.out.join (by simp) (by simp) (by rw [HL.out]; exact hlen)).mono ?_
  rintro e w8 ⟨rfl, hb⟩
  have HE := Lib.hid (HS.out.bel.trans (hb.mono HS.out.bel.size))
  clear hb
  rw [HL.out]
  go_wp2_with fail
  go_ret
  exact ⟨rfl, HE.out⟩
set_option maxHeartbeats 4000000 in
set_option maxRecDepth 100000 in
theorem told_4 (w : World) (o a b c : Int) (k : Nat) (T : TabA w) (hc : o = 13) (ha : 0 ≤ a ∧ a ≤ 7) (hbb : 0 ≤ b ∧ b ≤ 8) (hcc : 0 ≤ c ∧ c ≤ 7) (hk : k ≤ 4294967295)  (L : B8) (hL : joinB 32 [opName o, 64 :: decB k] = L) (hlen : L.length ≤ 1000) :
    Calls Tryd.prog 41 #[.agg #[.int .i64 o, .int .i64 a, .int .i64 b, .int .i64 c, .int .u32 k]] w (TP w ⟨o, a, b, c, k⟩ L) := by
  have e1 : (o == 1) = false := by simp; omega
  have e27 : (o == 27) = false := by simp; omega
  have e2 : (o == 2) = false := by simp; omega
  have e13 : (o == 13) = true := by simp; omega
  have e21 : (o == 21) = false := by simp; omega
  have e22 : (o == 22) = false := by simp; omega
  have e3 : decide (3 ≤ o) = true := by simp; omega
  have e12 : decide (o ≤ 12) = false := by simp; omega
  have hj : jumps o = true := by unfold jumps; simp; omega
  have hs : asksI o = false := by unfold asksI; simp; omega
  obtain ⟨i0, hi, hz0, hz1, hz2⟩ := info_parts info_str
  obtain ⟨dk, qk, zk, hfmt⟩ := fmt_dig k hk
  have HF := Lib.hid hfmt
  have HT := Lib.hid T
  have HL := Lib.hid hL
  clear hc
  have hqq : (⟨#[64]⟩ : ByteArray) ++ dk = strB (64 :: decB k) := by
    rw [qk]; rw [show (⟨#[64]⟩ : ByteArray) = strB [64] from rfl, strB_app]; rfl
  have HQ := Lib.hid hqq
  clear hqq
  have QK := Lib.hid qk
  clear qk hfmt T hL
  go_enter Tryd.func41, Tryd.ntmps41
  go_wp2_with fail
  refine (iname_any _ _ (HT.out.isa.below ((Below.refl _ _).alloc (Nat.le_refl _) _) (Nat.le_refl _))).mono ?_
  rintro e w' ⟨rfl, rfl⟩
  go_wp2_with fail
  have hts0 := TS.new w ⟨o, a, b, c, k⟩
  unfold str at hts0
  simp only [] at hts0
  obtain ⟨sb, hsb⟩ : ∃ sb, w.heap.size + 1 + 1 = sb := ⟨_, rfl⟩
  obtain ⟨v0, hv0⟩ : ∃ v0, Value.slice (some ⟨w.heap.size + 1, 0, none⟩) 1 1 = v0 := ⟨_, rfl⟩
  rw [hsb, hv0] at hts0 ⊢
  generalize (((w.alloc (.cells #[.int .i64 o, .int .i64 a, .int .i64 b, .int .i64 c, .int .u32 k] 34)).alloc (.cells #[.string ⟨(opName o).toArray⟩] 9)).alloc (.cells #[v0] 39)) = W0 at hts0 ⊢
  clear hsb hv0
  have HS0 := Lib.hid hts0
  clear hts0
  refine (HF.out _ (HT.out.below HS0.out.bel (Nat.le_refl _)).pow).mono ?_
  rintro e W1 ⟨rfl, hb⟩
  have HS : Hid (TS w W1 sb ⟨o, a, b, c, k⟩ v0 [opName o]) := Lib.hid (HS0.out.below hb)
  clear hb HS0
  have TI : Hid (TabI W1) := Lib.hid (HT.out.below HS.out.bel (Nat.le_refl _)).isa
  obtain ⟨c0, c1, c2, c3, c4⟩ := HS.out.blk.c
  have k1 : W1.cell? ⟨sb, 0, none⟩ = some v0 := cell_of_row W1 sb 0 _ _ _ HS.out.head
  have k2 := frozen_of_row W1 sb 0 _ _ HS.out.head
  have hsl : sb < W1.heap.size := (Array.getElem?_eq_some_iff.1 HS.out.head).1
  have hwz := HS.out.bel.size
  simp only [] at c0 c1 c2 c3 c4
  have hown : W1.ownsRow w.heap.size 9 1 v0 1 [str (opName o)] := HS.out.own
  have hne := own_ne hown HS.out.head (by decide)
  go_wp2_with (at_builtin; refine wpList_append_lies _ rfl (.tmp 69) (.tmp 72) 39 rfl w.heap.size 9 i0 _ 1 16 Tryd.underlying39 hi hz0 hz1 hz2 rfl (by decide) v0 1 [str (opName o)] rfl (hown.alloc _) ⟨W1.heap.size, 0, none⟩ 1 1 [.string ((⟨#[64]⟩ : ByteArray) ++ dk)] rfl rfl (World.news_of_block (heap_alloc_new _ _)) (by simp [Value.oneCell']) (by decide) (by unfold maxLen; omega) (by omega) (by simp; omega) _ rfl ?_; intro g1 cap w9 ho hgr hat hlt1; have k0 : w9.heap[sb]? = some (.cells #[v0] 39 (0, 0)) := (hgr.block sb (by simp; omega) (fun e => hne e.symm)).trans ((Below.heap_alloc _ _ _ hsl).trans HS.out.head); have j1 : w9.cell? ⟨sb, 0, none⟩ = some v0 := cell_of_row w9 sb 0 _ _ _ k0; have j2 := frozen_of_row w9 sb 0 _ _ k0; have hgr2 : W1.grownBy w9 v0.ownBlock := grown_from hgr rfl rfl rfl (by simp <;> omega) (fun i hi' => Below.heap_alloc _ _ _ hi'); have ho2 : w9.ownsRow w.heap.size 9 1 (.slice (some ⟨g1, 0, none⟩) 2 cap) 2 ([str (opName o)] ++ [.string ((⟨#[64]⟩ : ByteArray) ++ dk)]) := ho; rw [HQ.out] at ho2; have HS9 : Hid (TS w (w9.setCell ⟨sb, 0, none⟩ (.slice (some ⟨g1, 0, none⟩) 2 cap)) sb ⟨o, a, b, c, k⟩ (.slice (some ⟨g1, 0, none⟩) 2 cap) [opName o, 64 :: decB k]) := Lib.hid (HS.out.app (x := 64 :: decB k) hgr2 ho2 rfl); clear ho hgr hat hlt1 k0 hgr2 ho2)
  refine (HS9.out.join (by simp) (by simp) (by rw [HL.out]; exact hlen)).mono ?_
  rintro e w8 ⟨rfl, hb⟩
  have HE := Lib.hid (HS9.out.bel.trans (hb.mono HS9.out.bel.size))
  clear hb
  rw [HL.out]
  go_wp2_with fail
  go_ret
  exact ⟨rfl, HE.out⟩
set_option maxHeartbeats 4000000 in
set_option maxRecDepth 100000 in
theorem told_5 (w : World) (o a b c : Int) (k : Nat) (T : TabA w) (hc : o = 14 ∨ o = 15) (ha : 0 ≤ a ∧ a ≤ 7) (hbb : 0 ≤ b ∧ b ≤ 8) (hcc : 0 ≤ c ∧ c ≤ 7) (hk : k ≤ 4294967295)  (L : B8) (hL : joinB 32 [opName o, regW a, 64 :: decB k] = L) (hlen : L.length ≤ 1000) :
    Calls Tryd.prog 41 #[.agg #[.int .i64 o, .int .i64 a, .int .i64 b, .int .i64 c, .int .u32 k]] w (TP w ⟨o, a, b, c, k⟩ L) := by
  have e1 : (o == 1) = false := by simp; omega
  have e27 : (o == 27) = false := by simp; omega
  have e2 : (o == 2) = false := by simp; omega
  have e13 : (o == 13) = false := by simp; omega
  have e21 : (o == 21) = false := by simp; omega
  have e22 : (o == 22) = false := by simp; omega
  have e3 : decide (3 ≤ o) = true := by simp; omega
  have e12 : decide (o ≤ 12) = false := by simp; omega
  have hj : jumps o = true := by unfold jumps; simp; omega
  have hs : asksI o = false := by unfold asksI; simp; omega
  obtain ⟨i0, hi, hz0, hz1, hz2⟩ := info_parts info_str
  obtain ⟨dk, qk, zk, hfmt⟩ := fmt_dig k hk
  have HF := Lib.hid hfmt
  have HT := Lib.hid T
  have HL := Lib.hid hL
  clear hc
  have hqq : (⟨#[64]⟩ : ByteArray) ++ dk = strB (64 :: decB k) := by
    rw [qk]; rw [show (⟨#[64]⟩ : ByteArray) = strB [64] from rfl, strB_app]; rfl
  have HQ := Lib.hid hqq
  clear hqq
  have QK := Lib.hid qk
  clear qk hfmt T hL
  go_enter Tryd.func41, Tryd.ntmps41
  go_wp2_with fail
  refine (iname_any _ _ (HT.out.isa.below ((Below.refl _ _).alloc (Nat.le_refl _) _) (Nat.le_refl _))).mono ?_
  rintro e w' ⟨rfl, rfl⟩
  go_wp2_with fail
  have hts0 := TS.new w ⟨o, a, b, c, k⟩
  unfold str at hts0
  simp only [] at hts0
  obtain ⟨sb, hsb⟩ : ∃ sb, w.heap.size + 1 + 1 = sb := ⟨_, rfl⟩
  obtain ⟨v0, hv0⟩ : ∃ v0, Value.slice (some ⟨w.heap.size + 1, 0, none⟩) 1 1 = v0 := ⟨_, rfl⟩
  rw [hsb, hv0] at hts0 ⊢
  generalize (((w.alloc (.cells #[.int .i64 o, .int .i64 a, .int .i64 b, .int .i64 c, .int .u32 k] 34)).alloc (.cells #[.string ⟨(opName o).toArray⟩] 9)).alloc (.cells #[v0] 39)) = W0 at hts0 ⊢
  clear hsb hv0
  have HS0 := Lib.hid hts0
  clear hts0
  refine (HF.out _ (HT.out.below HS0.out.bel (Nat.le_refl _)).pow).mono ?_
  rintro e W1 ⟨rfl, hb⟩
  have HS : Hid (TS w W1 sb ⟨o, a, b, c, k⟩ v0 [opName o]) := Lib.hid (HS0.out.below hb)
  clear hb HS0
  have TI : Hid (TabI W1) := Lib.hid (HT.out.below HS.out.bel (Nat.le_refl _)).isa
  obtain ⟨c0, c1, c2, c3, c4⟩ := HS.out.blk.c
  have k1 : W1.cell? ⟨sb, 0, none⟩ = some v0 := cell_of_row W1 sb 0 _ _ _ HS.out.head
  have k2 := frozen_of_row W1 sb 0 _ _ HS.out.head
  have hsl : sb < W1.heap.size := (Array.getElem?_eq_some_iff.1 HS.out.head).1
  have hwz := HS.out.bel.size
  simp only [] at c0 c1 c2 c3 c4
  go_wp2_with fail
  refine (jumps_any _ _ TI.out).mono ?_
  rintro e w' ⟨rfl, rfl⟩
  go_wp2_with fail
  refine (say_any w _ sb ⟨o, a, b, c, k⟩ _ _ HS.out (by simp) a ha).mono ?_
  rintro e W2 ⟨rfl, v2, hts⟩
  have HS1 : Hid (TS w W2 sb ⟨o, a, b, c, k⟩ v2 [opName o, regW a]) := Lib.hid hts
  clear hts HS c0 c1 c2 c3 c4 k1 k2 hsl hwz TI
  have HS := HS1
  clear HS1
  have TI : Hid (TabI W2) := Lib.hid (HT.out.below HS.out.bel (Nat.le_refl _)).isa
  obtain ⟨c0, c1, c2, c3, c4⟩ := HS.out.blk.c
  have k1 : W2.cell? ⟨sb, 0, none⟩ = some v2 := cell_of_row W2 sb 0 _ _ _ HS.out.head
  have k2 := frozen_of_row W2 sb 0 _ _ HS.out.head
  have hsl : sb < W2.heap.size := (Array.getElem?_eq_some_iff.1 HS.out.head).1
  have hwz := HS.out.bel.size
  simp only [] at c0 c1 c2 c3 c4
  have hown : W2.ownsRow w.heap.size 9 1 v2 2 [str (opName o), str (regW a)] := HS.out.own
  have hne := own_ne hown HS.out.head (by decide)
  go_wp2_with (at_builtin; refine wpList_append_lies _ rfl (.tmp 82) (.tmp 85) 39 rfl w.heap.size 9 i0 _ 1 16 Tryd.underlying39 hi hz0 hz1 hz2 rfl (by decide) v2 2 [str (opName o), str (regW a)] rfl (hown.alloc _) ⟨W2.heap.size, 0, none⟩ 1 1 [.string ((⟨#[64]⟩ : ByteArray) ++ dk)] rfl rfl (World.news_of_block (heap_alloc_new _ _)) (by simp [Value.oneCell']) (by decide) (by unfold maxLen; omega) (by omega) (by simp; omega) _ rfl ?_; intro g1 cap w9 ho hgr hat hlt1; have k0 : w9.heap[sb]? = some (.cells #[v2] 39 (0, 0)) := (hgr.block sb (by simp; omega) (fun e => hne e.symm)).trans ((Below.heap_alloc _ _ _ hsl).trans HS.out.head); have j1 : w9.cell? ⟨sb, 0, none⟩ = some v2 := cell_of_row w9 sb 0 _ _ _ k0; have j2 := frozen_of_row w9 sb 0 _ _ k0; have hgr2 : W2.grownBy w9 v2.ownBlock := grown_from hgr rfl rfl rfl (by simp <;> omega) (fun i hi' => Below.heap_alloc _ _ _ hi'); have ho2 : w9.ownsRow w.heap.size 9 1 (.slice (some ⟨g1, 0, none⟩) 3 cap) 3 ([str (opName o), str (regW a)] ++ [.string ((⟨#[64]⟩ : ByteArray) ++ dk)]) := ho; rw [HQ.out] at ho2; have HS9 : Hid (TS w (w9.setCell ⟨sb, 0, none⟩ (.slice (some ⟨g1, 0, none⟩) 3 cap)) sb ⟨o, a, b, c, k⟩ (.slice (some ⟨g1, 0, none⟩) 3 cap) [opName o, regW a, 64 :: decB k]) := Lib.hid (HS.out.app (x := 64 :: decB k) hgr2 ho2 rfl); clear ho hgr hat hlt1 k0 hgr2 ho2)
  refine (HS9.out.join (by simp) (by simp) (by rw [HL.out]; exact hlen)).mono ?_
  rintro e w8 ⟨rfl, hb⟩
  have HE := Lib.hid (HS9.out.bel.trans (hb.mono HS9.out.bel.size))
  clear hb
  rw [HL.out]
  go_wp2_with fail
  go_ret
  exact ⟨rfl, HE.out⟩
set_option maxHeartbeats 4000000 in
set_option maxRecDepth 100000 in
theorem told_8 (w : World) (o a b c : Int) (k : Nat) (T : TabA w) (hc : o = 22) (ha : 0 ≤ a ∧ a ≤ 7) (hbb : 0 ≤ b ∧ b ≤ 8) (hcc : 0 ≤ c ∧ c ≤ 7) (hk : k ≤ 4294967295)  (L : B8) (hL : joinB 32 [opName o, regW a] = L) (hlen : L.length ≤ 1000) :
    Calls Tryd.prog 41 #[.agg #[.int .i64 o, .int .i64 a, .int .i64 b, .int .i64 c, .int .u32 k]] w (TP w ⟨o, a, b, c, k⟩ L) := by
  have e1 : (o == 1) = false := by simp; omega
  have e27 : (o == 27) = false := by simp; omega
  have e2 : (o == 2) = false := by simp; omega
  have e13 : (o == 13) = false := by simp; omega
  have e21 : (o == 21) = false := by simp; omega
  have e22 : (o == 22) = true := by simp; omega
  have e3 : decide (3 ≤ o) = true := by simp; omega
  have e12 : decide (o ≤ 12) = false := by simp; omega
  have hj : jumps o = false := by unfold jumps; simp; omega
  have hs : asksI o = false := by unfold asksI; simp; omega
  obtain ⟨i0, hi, hz0, hz1, hz2⟩ := info_parts info_str
  obtain ⟨dk, qk, zk, hfmt⟩ := fmt_dig k hk
  have HF := Lib.hid hfmt
  have HT := Lib.hid T
  have HL := Lib.hid hL
  clear hc
  have QK := Lib.hid qk
  clear qk hfmt T hL
  go_enter Tryd.func41, Tryd.ntmps41
  go_wp2_with fail
  refine (iname_any _ _ (HT.out.isa.below ((Below.refl _ _).alloc (Nat.le_refl _) _) (Nat.le_refl _))).mono ?_
  rintro e w' ⟨rfl, rfl⟩
  go_wp2_with fail
  have hts0 := TS.new w ⟨o, a, b, c, k⟩
  unfold str at hts0
  simp only [] at hts0
  obtain ⟨sb, hsb⟩ : ∃ sb, w.heap.size + 1 + 1 = sb := ⟨_, rfl⟩
  obtain ⟨v0, hv0⟩ : ∃ v0, Value.slice (some ⟨w.heap.size + 1, 0, none⟩) 1 1 = v0 := ⟨_, rfl⟩
  rw [hsb, hv0] at hts0 ⊢
  generalize (((w.alloc (.cells #[.int .i64 o, .int .i64 a, .int .i64 b, .int .i64 c, .int .u32 k] 34)).alloc (.cells #[.string ⟨(opName o).toArray⟩] 9)).alloc (.cells #[v0] 39)) = W0 at hts0 ⊢
  clear hsb hv0
  have HS0 := Lib.hid hts0
  clear hts0
  refine (HF.out _ (HT.out.below HS0.out.bel (Nat.le_refl _)).pow).mono ?_
  rintro e W1 ⟨rfl, hb⟩
  have HS : Hid (TS w W1 sb ⟨o, a, b, c, k⟩ v0 [opName o]) := Lib.hid (HS0.out.below hb)
  clear hb HS0
  have TI : Hid (TabI W1) := Lib.hid (HT.out.below HS.out.bel (Nat.le_refl _)).isa
  obtain ⟨c0, c1, c2, c3, c4⟩ := HS.out.blk.c
  have k1 : W1.cell? ⟨sb, 0, none⟩ = some v0 := cell_of_row W1 sb 0 _ _ _ HS.out.head
  have k2 := frozen_of_row W1 sb 0 _ _ HS.out.head
  have hsl : sb < W1.heap.size := (Array.getElem?_eq_some_iff.1 HS.out.head).1
  have hwz := HS.out.bel.size
  simp only [] at c0 c1 c2 c3 c4
  go_wp2_with fail
  refine (jumps_any _ _ TI.out).mono ?_
  rintro e w' ⟨rfl, rfl⟩
  go_wp2_with fail
  refine (asks_any _ _ TI.out).mono ?_
  rintro e w' ⟨rfl, rfl⟩
  go_wp2_with fail
  refine (say_any w _ sb ⟨o, a, b, c, k⟩ _ _ HS.out (by simp) a ha).mono ?_
  rintro e W2 ⟨rfl, v2, hts⟩
  have HS1 : Hid (TS w W2 sb ⟨o, a, b, c, k⟩ v2 [opName o, regW a]) := Lib.hid hts
  clear hts HS c0 c1 c2 c3 c4 k1 k2 hsl hwz TI
  have HS := HS1
  clear HS1
  have TI : Hid (TabI W2) := Lib.hid (HT.out.below HS.out.bel (Nat.le_refl _)).isa
  obtain ⟨c0, c1, c2, c3, c4⟩ := HS.out.blk.c
  have k1 : W2.cell? ⟨sb, 0, none⟩ = some v2 := cell_of_row W2 sb 0 _ _ _ HS.out.head
  have k2 := frozen_of_row W2 sb 0 _ _ HS.out.head
  have hsl : sb < W2.heap.size := (Array.getElem?_eq_some_iff.1 HS.out.head).1
  have hwz := HS.out.bel.size
  simp only [] at c0 c1 c2 c3 c4
  go_wp2_with fail
  refine (HS.out.join (by simp) (by simp) (by rw [HL.out]; exact hlen)).mono ?_
  rintro e w8 ⟨rfl, hb⟩
  have HE := Lib.hid (HS.out.bel.trans (hb.mono HS.out.bel.size))
  clear hb
  rw [HL.out]
  go_wp2_with fail
  go_ret
  exact ⟨rfl, HE.out⟩
set_option maxHeartbeats 4000000 in
set_option maxRecDepth 100000 in
theorem told_6a (w : World) (o a b c : Int) (k : Nat) (T : TabA w) (hc : o = 16 ∨ o = 17 ∨ o = 19 ∨ o = 20 ∨ o = 23 ∨ o = 24) (ha : 0 ≤ a ∧ a ≤ 7) (hbb : 0 ≤ b ∧ b ≤ 8) (hcc : 0 ≤ c ∧ c ≤ 7) (hk : k ≤ 4294967295) (hb8 : b = 8) (L : B8) (hL : joinB 32 [opName o, regW a, 91 :: (decB k ++ [93])] = L) (hlen : L.length ≤ 1000) :
    Calls Tryd.prog 41 #[.agg #[.int .i64 o, .int .i64 a, .int .i64 b, .int .i64 c, .int .u32 k]] w (TP w ⟨o, a, b, c, k⟩ L) := by
  have e1 : (o == 1) = false := by simp; omega
  have e27 : (o == 27) = false := by simp; omega
  have e2 : (o == 2) = false := by simp; omega
  have e13 : (o == 13) = false := by simp; omega
  have e21 : (o == 21) = false := by simp; omega
  have e22 : (o == 22) = false := by simp; omega
  have e3 : decide (3 ≤ o) = true := by simp; omega
  have e12 : decide (o ≤ 12) = false := by simp; omega
  have hj : jumps o = false := by unfold jumps; simp; omega
  have hs : asksI o = true := by unfold asksI; simp; omega
  obtain ⟨i0, hi, hz0, hz1, hz2⟩ := info_parts info_str
  obtain ⟨dk, qk, zk, hfmt⟩ := fmt_dig k hk
  have HF := Lib.hid hfmt
  have HT := Lib.hid T
  have HL := Lib.hid hL
  clear hc
  have e8 : (b == 8) = true := by simpa using hb8
  clear hb8
  have hqq : (⟨#[91]⟩ : ByteArray) ++ dk ++ ⟨#[93]⟩ = strB (91 :: (decB k ++ [93])) := by
    rw [qk]; rw [show (⟨#[91]⟩ : ByteArray) = strB [91] from rfl, show (⟨#[93]⟩ : ByteArray) = strB [93] from rfl, strB_app, strB_app]; rfl
  have HQ := Lib.hid hqq
  clear hqq
  have QK := Lib.hid qk
  clear qk hfmt T hL
  go_enter Tryd.func41, Tryd.ntmps41
  go_wp2_with fail
  refine (iname_any _ _ (HT.out.isa.below ((Below.refl _ _).alloc (Nat.le_refl _) _) (Nat.le_refl _))).mono ?_
  rintro e w' ⟨rfl, rfl⟩
  go_wp2_with fail
  have hts0 := TS.new w ⟨o, a, b, c, k⟩
  unfold str at hts0
  simp only [] at hts0
  obtain ⟨sb, hsb⟩ : ∃ sb, w.heap.size + 1 + 1 = sb := ⟨_, rfl⟩
  obtain ⟨v0, hv0⟩ : ∃ v0, Value.slice (some ⟨w.heap.size + 1, 0, none⟩) 1 1 = v0 := ⟨_, rfl⟩
  rw [hsb, hv0] at hts0 ⊢
  generalize (((w.alloc (.cells #[.int .i64 o, .int .i64 a, .int .i64 b, .int .i64 c, .int .u32 k] 34)).alloc (.cells #[.string ⟨(opName o).toArray⟩] 9)).alloc (.cells #[v0] 39)) = W0 at hts0 ⊢
  clear hsb hv0
  have HS0 := Lib.hid hts0
  clear hts0
  refine (HF.out _ (HT.out.below HS0.out.bel (Nat.le_refl _)).pow).mono ?_
  rintro e W1 ⟨rfl, hb⟩
  have HS : Hid (TS w W1 sb ⟨o, a, b, c, k⟩ v0 [opName o]) := Lib.hid (HS0.out.below hb)
  clear hb HS0
  have TI : Hid (TabI W1) := Lib.hid (HT.out.below HS.out.bel (Nat.le_refl _)).isa
  obtain ⟨c0, c1, c2, c3, c4⟩ := HS.out.blk.c
  have k1 : W1.cell? ⟨sb, 0, none⟩ = some v0 := cell_of_row W1 sb 0 _ _ _ HS.out.head
  have k2 := frozen_of_row W1 sb 0 _ _ HS.out.head
  have hsl : sb < W1.heap.size := (Array.getElem?_eq_some_iff.1 HS.out.head).1
  have hwz := HS.out.bel.size
  simp only [] at c0 c1 c2 c3 c4
  go_wp2_with fail
  refine (jumps_any _ _ TI.out).mono ?_
  rintro e w' ⟨rfl, rfl⟩
  go_wp2_with fail
  refine (asks_any _ _ TI.out).mono ?_
  rintro e w' ⟨rfl, rfl⟩
  go_wp2_with fail
  refine (say_any w _ sb ⟨o, a, b, c, k⟩ _ _ HS.out (by simp) a ha).mono ?_
  rintro e W2 ⟨rfl, v2, hts⟩
  have HS1 : Hid (TS w W2 sb ⟨o, a, b, c, k⟩ v2 [opName o, regW a]) := Lib.hid hts
  clear hts HS c0 c1 c2 c3 c4 k1 k2 hsl hwz TI
  have HS := HS1
  clear HS1
  have TI : Hid (TabI W2) := Lib.hid (HT.out.below HS.out.bel (Nat.le_refl _)).isa
  obtain ⟨c0, c1, c2, c3, c4⟩ := HS.out.blk.c
  have k1 : W2.cell? ⟨sb, 0, none⟩ = some v2 := cell_of_row W2 sb 0 _ _ _ HS.out.head
  have k2 := frozen_of_row W2 sb 0 _ _ HS.out.head
  have hsl : sb < W2.heap.size := (Array.getElem?_eq_some_iff.1 HS.out.head).1
  have hwz := HS.out.bel.size
  simp only [] at c0 c1 c2 c3 c4
  have hown : W2.ownsRow w.heap.size 9 1 v2 2 [str (opName o), str (regW a)] := HS.out.own
  have hne := own_ne hown HS.out.head (by decide)
  go_wp2_with (at_builtin; refine wpList_append_lies _ rfl (.tmp 105) (.tmp 109) 39 rfl w.heap.size 9 i0 _ 1 16 Tryd.underlying39 hi hz0 hz1 hz2 rfl (by decide) v2 2 [str (opName o), str (regW a)] rfl (hown.alloc _) ⟨W2.heap.size, 0, none⟩ 1 1 [.string ((⟨#[91]⟩ : ByteArray) ++ dk ++ ⟨#[93]⟩)] rfl rfl (World.news_of_block (heap_alloc_new _ _)) (by simp [Value.oneCell']) (by decide) (by unfold maxLen; omega) (by omega) (by simp; omega) _ rfl ?_; intro g1 cap w9 ho hgr hat hlt1; have k0 : w9.heap[sb]? = some (.cells #[v2] 39 (0, 0)) := (hgr.block sb (by simp; omega) (fun e => hne e.symm)).trans ((Below.heap_alloc _ _ _ hsl).trans HS.out.head); have j1 : w9.cell? ⟨sb, 0, none⟩ = some v2 := cell_of_row w9 sb 0 _ _ _ k0; have j2 := frozen_of_row w9 sb 0 _ _ k0; have hgr2 : W2.grownBy w9 v2.ownBlock := grown_from hgr rfl rfl rfl (by simp <;> omega) (fun i hi' => Below.heap_alloc _ _ _ hi'); have ho2 : w9.ownsRow w.heap.size 9 1 (.slice (some ⟨g1, 0, none⟩) 3 cap) 3 ([str (opName o), str (regW a)] ++ [.string ((⟨#[91]⟩ : ByteArray) ++ dk ++ ⟨#[93]⟩)]) := ho; rw [HQ.out] at ho2; have HS9 : Hid (TS w (w9.setCell ⟨sb, 0, none⟩ (.slice (some ⟨g1, 0, none⟩) 3 cap)) sb ⟨o, a, b, c, k⟩ (.slice (some ⟨g1, 0, none⟩) 3 cap) [opName o, regW a, 91 :: (decB k ++ [93])]) := Lib.hid (HS.out.app (x := 91 :: (decB k ++ [93])) hgr2 ho2 rfl); clear ho hgr hat hlt1 k0 hgr2 ho2)
  refine (HS9.out.join (by simp) (by simp) (by rw [HL.out]; exact hlen)).mono ?_
  rintro e w8 ⟨rfl, hb⟩
  have HE := Lib.hid (HS9.out.bel.trans (hb.mono HS9.out.bel.size))
  clear hb
  rw [HL.out]
  go_wp2_with fail
  go_ret
  exact ⟨rfl, HE.out⟩
set_option maxHeartbeats 4000000 in
set_option maxRecDepth 100000 in
theorem told_6b (w : World) (o a b c : Int) (k : Nat) (T : TabA w) (hc : o = 16 ∨ o = 17 ∨ o = 19 ∨ o = 20 ∨ o = 23 ∨ o = 24) (ha : 0 ≤ a ∧ a ≤ 7) (hbb : 0 ≤ b ∧ b ≤ 8) (hcc : 0 ≤ c ∧ c ≤ 7) (hk : k ≤ 4294967295) (hb8 : ¬ b = 8) (L : B8) (hL : joinB 32 [opName o, regW a, 91 :: (regW b ++ (43 :: (decB k ++ [93])))] = L) (hlen : L.length ≤ 1000) :
    Calls Tryd.prog 41 #[.agg #[.int .i64 o, .int .i64 a, .int .i64 b, .int .i64 c, .int .u32 k]] w (TP w ⟨o, a, b, c, k⟩ L) := by
  have e1 : (o == 1) = false := by simp; omega
  have e27 : (o == 27) = false := by simp; omega
  have e2 : (o == 2) = false := by simp; omega
  have e13 : (o == 13) = false := by simp; omega
  have e21 : (o == 21) = false := by simp; omega
  have e22 : (o == 22) = false := by simp; omega
  have e3 : decide (3 ≤ o) = true := by simp; omega
  have e12 : decide (o ≤ 12) = false := by simp; omega
  have hj : jumps o = false := by unfold jumps; simp; omega
  have hs : asksI o = true := by unfold asksI; simp; omega
  obtain ⟨i0, hi, hz0, hz1, hz2⟩ := info_parts info_str
  obtain ⟨dk, qk, zk, hfmt⟩ := fmt_dig k hk
  have HF := Lib.hid hfmt
  have HT := Lib.hid T
  have HL := Lib.hid hL
  clear hc
  have e8 : (b == 8) = false := by simpa using hb8
  have hb7 : b ≤ 7 := by omega
  have QK := Lib.hid qk
  clear qk hfmt T hL
  go_enter Tryd.func41, Tryd.ntmps41
  go_wp2_with fail
  refine (iname_any _ _ (HT.out.isa.below ((Below.refl _ _).alloc (Nat.le_refl _) _) (Nat.le_refl _))).mono ?_
  rintro e w' ⟨rfl, rfl⟩
  go_wp2_with fail
  have hts0 := TS.new w ⟨o, a, b, c, k⟩
  unfold str at hts0
  simp only [] at hts0
  obtain ⟨sb, hsb⟩ : ∃ sb, w.heap.size + 1 + 1 = sb := ⟨_, rfl⟩
  obtain ⟨v0, hv0⟩ : ∃ v0, Value.slice (some ⟨w.heap.size + 1, 0, none⟩) 1 1 = v0 := ⟨_, rfl⟩
  rw [hsb, hv0] at hts0 ⊢
  generalize (((w.alloc (.cells #[.int .i64 o, .int .i64 a, .int .i64 b, .int .i64 c, .int .u32 k] 34)).alloc (.cells #[.string ⟨(opName o).toArray⟩] 9)).alloc (.cells #[v0] 39)) = W0 at hts0 ⊢
  clear hsb hv0
  have HS0 := Lib.hid hts0
  clear hts0
  refine (HF.out _ (HT.out.below HS0.out.bel (Nat.le_refl _)).pow).mono ?_
  rintro e W1 ⟨rfl, hb⟩
  have HS : Hid (TS w W1 sb ⟨o, a, b, c, k⟩ v0 [opName o]) := Lib.hid (HS0.out.below hb)
  clear hb HS0
  have TI : Hid (TabI W1) := Lib.hid (HT.out.below HS.out.bel (Nat.le_refl _)).isa
  obtain ⟨c0, c1, c2, c3, c4⟩ := HS.out.blk.c
  have k1 : W1.cell? ⟨sb, 0, none⟩ = some v0 := cell_of_row W1 sb 0 _ _ _ HS.out.head
  have k2 := frozen_of_row W1 sb 0 _ _ HS.out.head
  have hsl : sb < W1.heap.size := (Array.getElem?_eq_some_iff.1 HS.out.head).1
  have hwz := HS.out.bel.size
  simp only [] at c0 c1 c2 c3 c4
  go_wp2_with fail
  refine (jumps_any _ _ TI.out).mono ?_
  rintro e w' ⟨rfl, rfl⟩
  go_wp2_with fail
  refine (asks_any _ _ TI.out).mono ?_
  rintro e w' ⟨rfl, rfl⟩
  go_wp2_with fail
  refine (say_any w _ sb ⟨o, a, b, c, k⟩ _ _ HS.out (by simp) a ha).mono ?_
  rintro e W2 ⟨rfl, v2, hts⟩
  have HS1 : Hid (TS w W2 sb ⟨o, a, b, c, k⟩ v2 [opName o, regW a]) := Lib.hid hts
  clear hts HS c0 c1 c2 c3 c4 k1 k2 hsl hwz TI
  have HS := HS1
  clear HS1
  have TI : Hid (TabI W2) := Lib.hid (HT.out.below HS.out.bel (Nat.le_refl _)).isa
  obtain ⟨c0, c1, c2, c3, c4⟩ := HS.out.blk.c
  have k1 : W2.cell? ⟨sb, 0, none⟩ = some v2 := cell_of_row W2 sb 0 _ _ _ HS.out.head
  have k2 := frozen_of_row W2 sb 0 _ _ HS.out.head
  have hsl : sb < W2.heap.size := (Array.getElem?_eq_some_iff.1 HS.out.head).1
  have hwz := HS.out.bel.size
  simp only [] at c0 c1 c2 c3 c4
  go_wp2_with fail
  have hown : W2.ownsRow w.heap.size 9 1 v2 2 [str (opName o), str (regW a)] := HS.out.own
  have hne := own_ne hown HS.out.head (by decide)
  obtain ⟨db, qb, zb, hI⟩ := itoa_dig b ⟨hbb.1, hb7⟩
  have hqq : (⟨#[91, 114]⟩ : ByteArray) ++ db ++ ⟨#[43]⟩ ++ dk ++ ⟨#[93]⟩ = strB (91 :: (regW b ++ (43 :: (decB k ++ [93])))) := by
    rw [QK.out, show (⟨#[91, 114]⟩ : ByteArray) = strB [91] ++ strB [114] by rw [strB_app]; rfl, ByteArray.append_assoc (a := strB [91]), qb, strB_app, show (⟨#[43]⟩ : ByteArray) = strB [43] from rfl, show (⟨#[93]⟩ : ByteArray) = strB [93] from rfl, strB_app, strB_app, strB_app]
    simp
  have HQ := Lib.hid hqq
  have HI := Lib.hid hI
  clear hqq qb hI
  have y1 : (9223372036854775807 < 2 + db.size) = False := eq_false (by omega)
  have y2 : (9223372036854775807 < 2 + db.size + 1) = False := eq_false (by omega)
  have y3 : (9223372036854775807 < 2 + db.size + 1 + dk.size) = False := eq_false (by omega)
  have y4 : (9223372036854775807 < 2 + db.size + 1 + dk.size + 1) = False := eq_false (by omega)
  have x1 : (9223372036854775807 < (ByteArray.mk #[91, 114]).size + db.size) = False := y1
  have x2 : (9223372036854775807 < (ByteArray.mk #[91, 114]).size + db.size + (ByteArray.mk #[43]).size) = False := y2
  have x3 : (9223372036854775807 < (ByteArray.mk #[91, 114]).size + db.size + (ByteArray.mk #[43]).size + dk.size) = False := y3
  have x4 : (9223372036854775807 < (ByteArray.mk #[91, 114]).size + db.size + (ByteArray.mk #[43]).size + dk.size + (ByteArray.mk #[93]).size) = False := y4
  go_region_law (first
    | (refine step_append_lies _ rfl (.tmp 111) (.tmp 120) 39 rfl w.heap.size 9 i0 _ 1 16 Tryd.underlying39 hi hz0 hz1 hz2 rfl (by decide) v2 2 [str (opName o), str (regW a)] rfl (hown.alloc _) ⟨W2.heap.size, 0, none⟩ 1 1 [.string ((⟨#[91, 114]⟩ : ByteArray) ++ db ++ ⟨#[43]⟩ ++ dk ++ ⟨#[93]⟩)] rfl rfl (World.news_of_block (heap_alloc_new _ _)) (by simp [Value.oneCell']) (by decide) (by unfold maxLen; omega) (by omega) (by simp; omega) _ rfl ?_; intro g1 cap w9 ho hgr hat hlt1; have k0 : w9.heap[sb]? = some (.cells #[v2] 39 (0, 0)) := (hgr.block sb (by simp; omega) (fun e => hne e.symm)).trans ((Below.heap_alloc _ _ _ hsl).trans HS.out.head); have j1 : w9.cell? ⟨sb, 0, none⟩ = some v2 := cell_of_row w9 sb 0 _ _ _ k0; have j2 := frozen_of_row w9 sb 0 _ _ k0; have hgr2 : W2.grownBy w9 v2.ownBlock := grown_from hgr rfl rfl rfl (by simp <;> omega) (fun i hi' => Below.heap_alloc _ _ _ hi'); have ho2 : w9.ownsRow w.heap.size 9 1 (.slice (some ⟨g1, 0, none⟩) 3 cap) 3 ([str (opName o), str (regW a)] ++ [.string ((⟨#[91, 114]⟩ : ByteArray) ++ db ++ ⟨#[43]⟩ ++ dk ++ ⟨#[93]⟩)]) := ho; rw [HQ.out] at ho2; have HS9 : Hid (TS w (w9.setCell ⟨sb, 0, none⟩ (.slice (some ⟨g1, 0, none⟩) 3 cap)) sb ⟨o, a, b, c, k⟩ (.slice (some ⟨g1, 0, none⟩) 3 cap) [opName o, regW a, 91 :: (regW b ++ (43 :: (decB k ++ [93])))]) := Lib.hid (HS.out.app (x := 91 :: (regW b ++ (43 :: (decB k ++ [93])))) hgr2 ho2 rfl); clear ho hgr hat hlt1 k0 hgr2 ho2)
    | (go_simp; go_at_call 59; go_must (with_reducible refine (HI.out _).mono ?_; rintro e w5 ⟨rfl, rfl⟩)))
  all_goals go_wp2_with fail
  all_goals
    refine (HS9.out.join (by simp) (by simp) (by rw [HL.out]; exact hlen)).mono ?_
    rintro e w8 ⟨rfl, hb⟩
    have HE := Lib.hid (HS9.out.bel.trans (hb.mono HS9.out.bel.size))
    clear hb
    rw [HL.out]
    go_wp2_with fail
    go_ret
    exact ⟨rfl, HE.out⟩
set_option maxHeartbeats 4000000 in
set_option maxRecDepth 100000 in
theorem told_7a (w : World) (o a b c : Int) (k : Nat) (T : TabA w) (hc : o = 21) (ha : 0 ≤ a ∧ a ≤ 7) (hbb : 0 ≤ b ∧ b ≤ 8) (hcc : 0 ≤ c ∧ c ≤ 7) (hk : k ≤ 4294967295) (hb8 : b = 8) (L : B8) (hL : joinB 32 [opName o, regW a, regW c, 91 :: (decB k ++ [93])] = L) (hlen : L.length ≤ 1000) :
    Calls Tryd.prog 41 #[.agg #[.int .i64 o, .int .i64 a, .int .i64 b, .int .i64 c, .int .u32 k]] w (TP w ⟨o, a, b, c, k⟩ L) := by
  have e1 : (o == 1) = false := by simp; omega
  have e27 : (o == 27) = false := by simp; omega
  have e2 : (o == 2) = false := by simp; omega
  have e13 : (o == 13) = false := by simp; omega
  have e21 : (o == 21) = true := by simp; omega
  have e22 : (o == 22) = false := by simp; omega
  have e3 : decide (3 ≤ o) = true := by simp; omega
  have e12 : decide (o ≤ 12) = false := by simp; omega
  have hj : jumps o = false := by unfold jumps; simp; omega
  have hs : asksI o = true := by unfold asksI; simp; omega
  obtain ⟨i0, hi, hz0, hz1, hz2⟩ := info_parts info_str
  obtain ⟨dk, qk, zk, hfmt⟩ := fmt_dig k hk
  have HF := Lib.hid hfmt
  have HT := Lib.hid T
  have HL := Lib.hid hL
  clear hc
  have e8 : (b == 8) = true := by simpa using hb8
  clear hb8
  have hqq : (⟨#[91]⟩ : ByteArray) ++ dk ++ ⟨#[93]⟩ = strB (91 :: (decB k ++ [93])) := by
    rw [qk]; rw [show (⟨#[91]⟩ : ByteArray) = strB [91] from rfl, show (⟨#[93]⟩ : ByteArray) = strB [93] from rfl, strB_app, strB_app]; rfl
  have HQ := Lib.hid hqq
  clear hqq
  have QK := Lib.hid qk
  clear qk hfmt T hL
  go_enter Tryd.func41, Tryd.ntmps41
  go_wp2_with fail
  refine (iname_any _ _ (HT.out.isa.below ((Below.refl _ _).alloc (Nat.le_refl _) _) (Nat.le_refl _))).mono ?_
  rintro e w' ⟨rfl, rfl⟩
  go_wp2_with fail
  have hts0 := TS.new w ⟨o, a, b, c, k⟩
  unfold str at hts0
  simp only [] at hts0
  obtain ⟨sb, hsb⟩ : ∃ sb, w.heap.size + 1 + 1 = sb := ⟨_, rfl⟩
  obtain ⟨v0, hv0⟩ : ∃ v0, Value.slice (some ⟨w.heap.size + 1, 0, none⟩) 1 1 = v0 := ⟨_, rfl⟩
  rw [hsb, hv0] at hts0 ⊢
  generalize (((w.alloc (.cells #[.int .i64 o, .int .i64 a, .int .i64 b, .int .i64 c, .int .u32 k] 34)).alloc (.cells #[.string ⟨(opName o).toArray⟩] 9)).alloc (.cells #[v0] 39)) = W0 at hts0 ⊢
  clear hsb hv0
  have HS0 := Lib.hid hts0
  clear hts0
  refine (HF.out _ (HT.out.below HS0.out.bel (Nat.le_refl _)).pow).mono ?_
  rintro e W1 ⟨rfl, hb⟩
  have HS : Hid (TS w W1 sb ⟨o, a, b, c, k⟩ v0 [opName o]) := Lib.hid (HS0.out.below hb)
  clear hb HS0
  have TI : Hid (TabI W1) := Lib.hid (HT.out.below HS.out.bel (Nat.le_refl _)).isa
  obtain ⟨c0, c1, c2, c3, c4⟩ := HS.out.blk.c
  have k1 : W1.cell? ⟨sb, 0, none⟩ = some v0 := cell_of_row W1 sb 0 _ _ _ HS.out.head
  have k2 := frozen_of_row W1 sb 0 _ _ HS.out.head
  have hsl : sb < W1.heap.size := (Array.getElem?_eq_some_iff.1 HS.out.head).1
  have hwz := HS.out.bel.size
  simp only [] at c0 c1 c2 c3 c4
  go_wp2_with fail
  refine (jumps_any _ _ TI.out).mono ?_
  rintro e w' ⟨rfl, rfl⟩
  go_wp2_with fail
  refine (asks_any _ _ TI.out).mono ?_
  rintro e w' ⟨rfl, rfl⟩
  go_wp2_with fail
  refine (say_any w _ sb ⟨o, a, b, c, k⟩ _ _ HS.out (by simp) a ha).mono ?_
  rintro e W2 ⟨rfl, v2, hts⟩
  have HS1 : Hid (TS w W2 sb ⟨o, a, b, c, k⟩ v2 [opName o, regW a]) := Lib.hid hts
  clear hts HS c0 c1 c2 c3 c4 k1 k2 hsl hwz TI
  have HS := HS1
  clear HS1
  have TI : Hid (TabI W2) := Lib.hid (HT.out.below HS.out.bel (Nat.le_refl _)).isa
  obtain ⟨c0, c1, c2, c3, c4⟩ := HS.out.blk.c
  have k1 : W2.cell? ⟨sb, 0, none⟩ = some v2 := cell_of_row W2 sb 0 _ _ _ HS.out.head
  have k2 := frozen_of_row W2 sb 0 _ _ HS.out.head
  have hsl : sb < W2.heap.size := (Array.getElem?_eq_some_iff.1 HS.out.head).1
  have hwz := HS.out.bel.size
  simp only [] at c0 c1 c2 c3 c4
  go_wp2_with fail
  refine (say_any w _ sb ⟨o, a, b, c, k⟩ _ _ HS.out (by simp) c hcc).mono ?_
  rintro e W3 ⟨rfl, v3, hts⟩
  have HS1 : Hid (TS w W3 sb ⟨o, a, b, c, k⟩ v3 [opName o, regW a, regW c]) := Lib.hid hts
  clear hts HS c0 c1 c2 c3 c4 k1 k2 hsl hwz TI
  have HS := HS1
  clear HS1
  have TI : Hid (TabI W3) := Lib.hid (HT.out.below HS.out.bel (Nat.le_refl _)).isa
  obtain ⟨c0, c1, c2, c3, c4⟩ := HS.out.blk.c
  have k1 : W3.cell? ⟨sb, 0, none⟩ = some v3 := cell_of_row W3 sb 0 _ _ _ HS.out.head
  have k2 := frozen_of_row W3 sb 0 _ _ HS.out.head
  have hsl : sb < W3.heap.size := (Array.getElem?_eq_some_iff.1 HS.out.head).1
  have hwz := HS.out.bel.size
  simp only [] at c0 c1 c2 c3 c4
  have hown : W3.ownsRow w.heap.size 9 1 v3 3 [str (opName o), str (regW a), str (regW c)] := HS.out.own
  have hne := own_ne hown HS.out.head (by decide)
  go_wp2_with (at_builtin; refine wpList_append_lies _ rfl (.tmp 105) (.tmp 109) 39 rfl w.heap.size 9 i0 _ 1 16 Tryd.underlying39 hi hz0 hz1 hz2 rfl (by decide) v3 3 [str (opName o), str (regW a), str (regW c)] rfl (hown.alloc _) ⟨W3.heap.size, 0, none⟩ 1 1 [.string ((⟨#[91]⟩ : ByteArray) ++ dk ++ ⟨#[93]⟩)] rfl rfl (World.news_of_block (heap_alloc_new _ _)) (by simp [Value.oneCell']) (by decide) (by unfold maxLen; omega) (by omega) (by simp; omega) _ rfl ?_; intro g1 cap w9 ho hgr hat hlt1; have k0 : w9.heap[sb]? = some (.cells #[v3] 39 (0, 0)) := (hgr.block sb (by simp; omega) (fun e => hne e.symm)).trans ((Below.heap_alloc _ _ _ hsl).trans HS.out.head); have j1 : w9.cell? ⟨sb, 0, none⟩ = some v3 := cell_of_row w9 sb 0 _ _ _ k0; have j2 := frozen_of_row w9 sb 0 _ _ k0; have hgr2 : W3.grownBy w9 v3.ownBlock := grown_from hgr rfl rfl rfl (by simp <;> omega) (fun i hi' => Below.heap_alloc _ _ _ hi'); have ho2 : w9.ownsRow w.heap.size 9 1 (.slice (some ⟨g1, 0, none⟩) 4 cap) 4 ([str (opName o), str (regW a), str (regW c)] ++ [.string ((⟨#[91]⟩ : ByteArray) ++ dk ++ ⟨#[93]⟩)]) := ho; rw [HQ.out] at ho2; have HS9 : Hid (TS w (w9.setCell ⟨sb, 0, none⟩ (.slice (some ⟨g1, 0, none⟩) 4 cap)) sb ⟨o, a, b, c, k⟩ (.slice (some ⟨g1, 0, none⟩) 4 cap) [opName o, regW a, regW c, 91 :: (decB k ++ [93])]) := Lib.hid (HS.out.app (x := 91 :: (decB k ++ [93])) hgr2 ho2 rfl); clear ho hgr hat hlt1 k0 hgr2 ho2)
  refine (HS9.out.join (by simp) (by simp) (by rw [HL.out]; exact hlen)).mono ?_
  rintro e w8 ⟨rfl, hb⟩
  have HE := Lib.hid (HS9.out.bel.trans (hb.mono HS9.out.bel.size))
  clear hb
  rw [HL.out]
  go_wp2_with fail
  go_ret
  exact ⟨rfl, HE.out⟩
set_option maxHeartbeats 4000000 in
set_option maxRecDepth 100000 in
theorem told_7b (w : World) (o a b c : Int) (k : Nat) (T : TabA w) (hc : o = 21) (ha : 0 ≤ a ∧ a ≤ 7) (hbb : 0 ≤ b ∧ b ≤ 8) (hcc : 0 ≤ c ∧ c ≤ 7) (hk : k ≤ 4294967295) (hb8 : ¬ b = 8) (L : B8) (hL : joinB 32 [opName o, regW a, regW c, 91 :: (regW b ++ (43 :: (decB k ++ [93])))] = L) (hlen : L.length ≤ 1000) :
    Calls Tryd.prog 41 #[.agg #[.int .i64 o, .int .i64 a, .int .i64 b, .int .i64 c, .int .u32 k]] w (TP w ⟨o, a, b, c, k⟩ L) := by
  have e1 : (o == 1) = false := by simp; omega
  have e27 : (o == 27) = false := by simp; omega
  have e2 : (o == 2) = false := by simp; omega
  have e13 : (o == 13) = false := by simp; omega
  have e21 : (o == 21) = true := by simp; omega
  have e22 : (o == 22) = false := by simp; omega
  have e3 : decide (3 ≤ o) = true := by simp; omega
  have e12 : decide (o ≤ 12) = false := by simp; omega
  have hj : jumps o = false := by unfold jumps; simp; omega
  have hs : asksI o = true := by unfold asksI; simp; omega
  obtain ⟨i0, hi, hz0, hz1, hz2⟩ := info_parts info_str
  obtain ⟨dk, qk, zk, hfmt⟩ := fmt_dig k hk
  have HF := Lib.hid hfmt
  have HT := Lib.hid T
  have HL := Lib.hid hL
  clear hc
  have e8 : (b == 8) = false := by simpa using hb8
  have hb7 : b ≤ 7 := by omega
  have QK := Lib.hid qk
  clear qk hfmt T hL
  go_enter Tryd.func41, Tryd.ntmps41
  go_wp2_with fail
  refine (iname_any _ _ (HT.out.isa.below ((Below.refl _ _).alloc (Nat.le_refl _) _) (Nat.le_refl _))).mono ?_
  rintro e w' ⟨rfl, rfl⟩
  go_wp2_with fail
  have hts0 := TS.new w ⟨o, a, b, c, k⟩
  unfold str at hts0
  simp only [] at hts0
  obtain ⟨sb, hsb⟩ : ∃ sb, w.heap.size + 1 + 1 = sb := ⟨_, rfl⟩
  obtain ⟨v0, hv0⟩ : ∃ v0, Value.slice (some ⟨w.heap.size + 1, 0, none⟩) 1 1 = v0 := ⟨_, rfl⟩
  rw [hsb, hv0] at hts0 ⊢
  generalize (((w.alloc (.cells #[.int .i64 o, .int .i64 a, .int .i64 b, .int .i64 c, .int .u32 k] 34)).alloc (.cells #[.string ⟨(opName o).toArray⟩] 9)).alloc (.cells #[v0] 39)) = W0 at hts0 ⊢
  clear hsb hv0
  have HS0 := Lib.hid hts0
  clear hts0
  refine (HF.out _ (HT.out.below HS0.out.bel (Nat.le_refl _)).pow).mono ?_
  rintro e W1 ⟨rfl, hb⟩
  have HS : Hid (TS w W1 sb ⟨o, a, b, c, k⟩ v0 [opName o]) := Lib.hid (HS0.out.below hb)
  clear hb HS0
  have TI : Hid (TabI W1) := Lib.hid (HT.out.below HS.out.bel (Nat.le_refl _)).isa
  obtain ⟨c0, c1, c2, c3, c4⟩ := HS.out.blk.c
  have k1 : W1.cell? ⟨sb, 0, none⟩ = some v0 := cell_of_row W1 sb 0 _ _ _ HS.out.head
  have k2 := frozen_of_row W1 sb 0 _ _ HS.out.head
  have hsl : sb < W1.heap.size := (Array.getElem?_eq_some_iff.1 HS.out.head).1
  have hwz := HS.out.bel.size
  simp only [] at c0 c1 c2 c3 c4
  go_wp2_with fail
  refine (jumps_any _ _ TI.out).mono ?_
  rintro e w' ⟨rfl, rfl⟩
  go_wp2_with fail
  refine (asks_any _ _ TI.out).mono ?_
  rintro e w' ⟨rfl, rfl⟩
  go_wp2_with fail
  refine (say_any w _ sb ⟨o, a, b, c, k⟩ _ _ HS.out (by simp) a ha).mono ?_
  rintro e W2 ⟨rfl, v2, hts⟩
  have HS1 : Hid (TS w W2 sb ⟨o, a, b, c, k⟩ v2 [opName o, regW a]) := Lib.hid hts
  clear hts HS c0 c1 c2 c3 c4 k1 k2 hsl hwz TI
  have HS := HS1
  clear HS1
  have TI : Hid (TabI W2) := Lib.hid (HT.out.below HS.out.bel (Nat.le_refl _)).isa
  obtain ⟨c0, c1, c2, c3, c4⟩ := HS.out.blk.c
  have k1 : W2.cell? ⟨sb, 0, none⟩ = some v2 := cell_of_row W2 sb 0 _ _ _ HS.out.head
  have k2 := frozen_of_row W2 sb 0 _ _ HS.out.head
  have hsl : sb < W2.heap.size := (Array.getElem?_eq_some_iff.1 HS.out.head).1
  have hwz := HS.out.bel.size
  simp only [] at c0 c1 c2 c3 c4
  go_wp2_with fail
  refine (say_any w _ sb ⟨o, a, b, c, k⟩ _ _ HS.out (by simp) c hcc).mono ?_
  rintro e W3 ⟨rfl, v3, hts⟩
  have HS1 : Hid (TS w W3 sb ⟨o, a, b, c, k⟩ v3 [opName o, regW a, regW c]) := Lib.hid hts
  clear hts HS c0 c1 c2 c3 c4 k1 k2 hsl hwz TI
  have HS := HS1
  clear HS1
  have TI : Hid (TabI W3) := Lib.hid (HT.out.below HS.out.bel (Nat.le_refl _)).isa
  obtain ⟨c0, c1, c2, c3, c4⟩ := HS.out.blk.c
  have k1 : W3.cell? ⟨sb, 0, none⟩ = some v3 := cell_of_row W3 sb 0 _ _ _ HS.out.head
  have k2 := frozen_of_row W3 sb 0 _ _ HS.out.head
  have hsl : sb < W3.heap.size := (Array.getElem?_eq_some_iff.1 HS.out.head).1
  have hwz := HS.out.bel.size
  simp only [] at c0 c1 c2 c3 c4
  go_wp2_with fail
  have hown : W3.ownsRow w.heap.size 9 1 v3 3 [str (opName o), str (regW a), str (regW c)] := HS.out.own
  have hne := own_ne hown HS.out.head (by decide)
  obtain ⟨db, qb, zb, hI⟩ := itoa_dig b ⟨hbb.1, hb7⟩
  have hqq : (⟨#[91, 114]⟩ : ByteArray) ++ db ++ ⟨#[43]⟩ ++ dk ++ ⟨#[93]⟩ = strB (91 :: (regW b ++ (43 :: (decB k ++ [93])))) := by
    rw [QK.out, show (⟨#[91, 114]⟩ : ByteArray) = strB [91] ++ strB [114] by rw [strB_app]; rfl, ByteArray.append_assoc (a := strB [91]), qb, strB_app, show (⟨#[43]⟩ : ByteArray) = strB [43] from rfl, show (⟨#[93]⟩ : ByteArray) = strB [93] from rfl, strB_app, strB_app, strB_app]
    simp
  have HQ := Lib.hid hqq
  have HI := Lib.hid hI
  clear hqq qb hI
  have y1 : (9223372036854775807 < 2 + db.size) = False := eq_false (by omega)
  have y2 : (9223372036854775807 < 2 + db.size + 1) = False := eq_false (by omega)
  have y3 : (9223372036854775807 < 2 + db.size + 1 + dk.size) = False := eq_false (by omega)
  have y4 : (9223372036854775807 < 2 + db.size + 1 + dk.size + 1) = False := eq_false (by omega)
  have x1 : (9223372036854775807 < (ByteArray.mk #[91, 114]).size + db.size) = False := y1
  have x2 : (9223372036854775807 < (ByteArray.mk #[91, 114]).size + db.size + (ByteArray.mk #[43]).size) = False := y2
  have x3 : (9223372036854775807 < (ByteArray.mk #[91, 114]).size + db.size + (ByteArray.mk #[43]).size + dk.size) = False := y3
  have x4 : (9223372036854775807 < (ByteArray.mk #[91, 114]).size + db.size + (ByteArray.mk #[43]).size + dk.size + (ByteArray.mk #[93]).size) = False := y4
  go_region_law (first
    | (refine step_append_lies _ rfl (.tmp 111) (.tmp 120) 39 rfl w.heap.size 9 i0 _ 1 16 Tryd.underlying39 hi hz0 hz1 hz2 rfl (by decide) v3 3 [str (opName o), str (regW a), str (regW c)] rfl (hown.alloc _) ⟨W3.heap.size, 0, none⟩ 1 1 [.string ((⟨#[91, 114]⟩ : ByteArray) ++ db ++ ⟨#[43]⟩ ++ dk ++ ⟨#[93]⟩)] rfl rfl (World.news_of_block (heap_alloc_new _ _)) (by simp [Value.oneCell']) (by decide) (by unfold maxLen; omega) (by omega) (by simp; omega) _ rfl ?_; intro g1 cap w9 ho hgr hat hlt1; have k0 : w9.heap[sb]? = some (.cells #[v3] 39 (0, 0)) := (hgr.block sb (by simp; omega) (fun e => hne e.symm)).trans ((Below.heap_alloc _ _ _ hsl).trans HS.out.head); have j1 : w9.cell? ⟨sb, 0, none⟩ = some v3 := cell_of_row w9 sb 0 _ _ _ k0; have j2 := frozen_of_row w9 sb 0 _ _ k0; have hgr2 : W3.grownBy w9 v3.ownBlock := grown_from hgr rfl rfl rfl (by simp <;> omega) (fun i hi' => Below.heap_alloc _ _ _ hi'); have ho2 : w9.ownsRow w.heap.size 9 1 (.slice (some ⟨g1, 0, none⟩) 4 cap) 4 ([str (opName o), str (regW a), str (regW c)] ++ [.string ((⟨#[91, 114]⟩ : ByteArray) ++ db ++ ⟨#[43]⟩ ++ dk ++ ⟨#[93]⟩)]) := ho; rw [HQ.out] at ho2; have HS9 : Hid (TS w (w9.setCell ⟨sb, 0, none⟩ (.slice (some ⟨g1, 0, none⟩) 4 cap)) sb ⟨o, a, b, c, k⟩ (.slice (some ⟨g1, 0, none⟩) 4 cap) [opName o, regW a, regW c, 91 :: (regW b ++ (43 :: (decB k ++ [93])))]) := Lib.hid (HS.out.app (x := 91 :: (regW b ++ (43 :: (decB k ++ [93])))) hgr2 ho2 rfl); clear ho hgr hat hlt1 k0 hgr2 ho2)
    | (go_simp; go_at_call 59; go_must (with_reducible refine (HI.out _).mono ?_; rintro e w5 ⟨rfl, rfl⟩)))
  all_goals go_wp2_with fail
  all_goals
    refine (HS9.out.join (by simp) (by simp) (by rw [HL.out]; exact hlen)).mono ?_
    rintro e w8 ⟨rfl, hb⟩
    have HE := Lib.hid (HS9.out.bel.trans (hb.mono HS9.out.bel.size))
    clear hb
    rw [HL.out]
    go_wp2_with fail
    go_ret
    exact ⟨rfl, HE.out⟩
theorem line_of {i : Ins} {F : B8} (hF : opField i.op = F) : joinB 32 (opName i.op :: wordsB i [] F) = lineOf i [] := by unfold lineOf wordsOf; rw [hF]
theorem told_any (w : World) (o a b c k : Int) (h : Fits ⟨o, a, b, c, k⟩ []) (T : TabA w) : Calls Tryd.prog 41 #[.agg #[.int .i64 o, .int .i64 a, .int .i64 b, .int .i64 c, .int .u32 k]] w fun e w' => e = .returned (.string (strB (lineOf ⟨o, a, b, c, k⟩ []))) ∧ Below w.heap.size w w' := by
  obtain ⟨ha, hb, hc, hk, _, _⟩ := h.all
  have hop := h.op
  have hll := line_len h
  have hbb := h.b.2
  simp only [] at ha hb hc hk hop hbb
  obtain ⟨n, rfl⟩ := Int.eq_ofNat_of_zero_le hk.1
  have hn : n ≤ 4294967295 := by omega
  have hend : ∀ (w : World), Calls Tryd.prog 41 #[.agg #[.int .i64 o, .int .i64 a, .int .i64 b, .int .i64 c, .int .u32 (n : Int)]] w (TP w ⟨o, a, b, c, n⟩ (lineOf ⟨o, a, b, c, n⟩ [])) → Calls Tryd.prog 41 #[.agg #[.int .i64 o, .int .i64 a, .int .i64 b, .int .i64 c, .int .u32 (n : Int)]] w fun e w' => e = .returned (.string (strB (lineOf ⟨o, a, b, c, n⟩ []))) ∧ Below w.heap.size w w' := fun w hp => hp.mono fun e w' h => ⟨h.val, h.bel⟩
  refine hend w ?_
  have hcl : o = 0 ∨ (o = 18 ∨ o = 25 ∨ o = 26) ∨ o = 1 ∨ o = 27 ∨ o = 2 ∨ (3 ≤ o ∧ o ≤ 12) ∨ o = 13 ∨ (o = 14 ∨ o = 15) ∨ o = 22 ∨ o = 21 ∨ (o = 16 ∨ o = 17 ∨ o = 19 ∨ o = 20 ∨ o = 23 ∨ o = 24) := by omega
  rcases hcl with h | h | h | h | h | h | h | h | h | h | h
  · have hF : opField o = ([] : B8) := by
      rw [h]; rfl
    exact told_0 w o a b c n T h ha hb hc hn _ (by rw [← line_of (i := ⟨o, a, b, c, (n : Int)⟩) hF]; simp [wordsB]) (by omega)
  · have hF : opField o = ([] : B8) := by
      rcases h with rfl | rfl | rfl <;> rfl
    exact told_0y w o a b c n T h ha hb hc hn _ (by rw [← line_of (i := ⟨o, a, b, c, (n : Int)⟩) hF]; simp [wordsB]) (by omega)
  · have hF : opField o = ([65, 75] : B8) := by
      rw [h]; rfl
    exact told_1 w o a b c n T h ha hb hc hn _ (by rw [← line_of (i := ⟨o, a, b, c, (n : Int)⟩) hF]; simp [wordsB]) (by omega)
  · have hF : opField o = ([65, 75] : B8) := by
      rw [h]; rfl
    exact told_1y w o a b c n T h ha hb hc hn _ (by rw [← line_of (i := ⟨o, a, b, c, (n : Int)⟩) hF]; simp [wordsB]) (by omega)
  · have hF : opField o = ([65, 66] : B8) := by
      rw [h]; rfl
    have hb7 : b ≤ 7 := by
      have h1 : hasB o 66 = true := by unfold hasB; rw [hF]; rfl
      have h2 : hasB o 77 = false := by unfold hasB; rw [hF]; rfl
      rw [h1, h2] at hbb; simpa using hbb
    exact told_2 w o a b c n T h ha hb hc hn hb7 _ (by rw [← line_of (i := ⟨o, a, b, c, (n : Int)⟩) hF]; simp [wordsB]) (by omega)
  · have hF : opField o = ([65, 66, 67] : B8) := by
      have : o = 3 ∨ o = 4 ∨ o = 5 ∨ o = 6 ∨ o = 7 ∨ o = 8 ∨ o = 9 ∨ o = 10 ∨ o = 11 ∨ o = 12 := by omega
      rcases this with rfl | rfl | rfl | rfl | rfl | rfl | rfl | rfl | rfl | rfl <;> rfl
    have hb7 : b ≤ 7 := by
      have h1 : hasB o 66 = true := by unfold hasB; rw [hF]; rfl
      have h2 : hasB o 77 = false := by unfold hasB; rw [hF]; rfl
      rw [h1, h2] at hbb; simpa using hbb
    exact told_3 w o a b c n T h ha hb hc hn hb7 _ (by rw [← line_of (i := ⟨o, a, b, c, (n : Int)⟩) hF]; simp [wordsB]) (by omega)
  · have hF : opField o = ([84] : B8) := by
      rw [h]; rfl
    exact told_4 w o a b c n T h ha hb hc hn _ (by rw [← line_of (i := ⟨o, a, b, c, (n : Int)⟩) hF]; simp [wordsB]) (by omega)
  · have hF : opField o = ([65, 84] : B8) := by
      rcases h with rfl | rfl <;> rfl
    exact told_5 w o a b c n T h ha hb hc hn _ (by rw [← line_of (i := ⟨o, a, b, c, (n : Int)⟩) hF]; simp [wordsB]) (by omega)
  · have hF : opField o = ([65] : B8) := by
      rw [h]; rfl
    exact told_8 w o a b c n T h ha hb hc hn _ (by rw [← line_of (i := ⟨o, a, b, c, (n : Int)⟩) hF]; simp [wordsB]) (by omega)
  · have hF : opField o = ([65, 67, 77, 75] : B8) := by
      rw [h]; rfl
    by_cases hb8 : b = 8
    · exact told_7a w o a b c n T h ha hb hc hn hb8 _ (by rw [← line_of (i := ⟨o, a, b, c, (n : Int)⟩) hF]; simp [wordsB, addrW, hb8]) (by omega)
    · exact told_7b w o a b c n T h ha hb hc hn hb8 _ (by rw [← line_of (i := ⟨o, a, b, c, (n : Int)⟩) hF]; simp [wordsB, addrW, hb8]) (by omega)
  · have hF : opField o = ([65, 77, 75] : B8) := by
      rcases h with rfl | rfl | rfl | rfl | rfl | rfl <;> rfl
    by_cases hb8 : b = 8
    · exact told_6a w o a b c n T h ha hb hc hn hb8 _ (by rw [← line_of (i := ⟨o, a, b, c, (n : Int)⟩) hF]; simp [wordsB, addrW, hb8]) (by omega)
    · exact told_6b w o a b c n T h ha hb hc hn hb8 _ (by rw [← line_of (i := ⟨o, a, b, c, (n : Int)⟩) hF]; simp [wordsB, addrW, hb8]) (by omega)
end Go.Proofs.YtlopmejmionnpaaDoor.As
