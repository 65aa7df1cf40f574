/- Memory while a text is read by the package asm: the code, the jumps, the places' map. -/
import Derived.Test.YtlopmejmionnpaaDoorPaL
import Derived.Test.YtlopmejmionnpaaDoorCode
import Derived.Test.YtlopmejmionnpaaDoorRefH
set_option linter.unusedVariables false
namespace Go.Proofs.YtlopmejmionnpaaDoor.As
open Go.RowKit

def jCells (j : Jmp) : List Value := [.int .i64 j.at_, .int .i64 j.line, .string ⟨j.to.toArray⟩]
def flatJ (l : List Jmp) : List Value := l.flatMap jCells
theorem flatJ_snoc (l : List Jmp) (j : Jmp) : flatJ (l ++ [j]) = flatJ l ++ jCells j := by simp [flatJ]
theorem flatJ_get (l : List Jmp) (i : Nat) (x : Jmp) (h : l[i]? = some x) (j : Nat) (hj : j < 3) : (flatJ l)[i * 3 + j]? = (jCells x)[j]? := flatMap_get jCells 3 (fun _ => rfl) l i x h j hj
theorem infoJ : (Tryd.prog.info? 66).map (fun i => (i.zero, i.size, i.bytes)) = some (some (.agg #[.int .i64 0, .int .i64 0, .string ByteArray.empty]), 3, 32) := by kernel_rfl

/-- What lies in memory while the lines are gone through. -/
structure PM (w1 wr : World) (mb : Nat) (f : B8 → Option Nat) (n : Nat) (out : List Ins) (js : List Jmp) (ov jv : Value) : Prop where
  o : wr.ownsRow w1.heap.size 34 5 ov out.length (flat out)
  j : wr.ownsRow w1.heap.size 66 3 jv js.length (flatJ js)
  m : ∃ cnt D, cnt ≤ n ∧ wr.ownsMap Tryd.prog 9 (plainElem Tryd.prog 3) mb cnt D ∧ DReads D f
  only : Only (AtR mb) w1 wr
  mlt : mb < w1.heap.size
variable {w1 wr wr' : World} {mb n : Nat} {f : B8 → Option Nat} {out : List Ins} {js : List Jmp} {ov jv : Value}
theorem map_of_blk {w w' : World} {mb cnt : Nat} {D : DataW Unit} (h : w.ownsMap Tryd.prog 9 (plainElem Tryd.prog 3) mb cnt D) (e : w'.heap[mb]? = w.heap[mb]?) : w'.ownsMap (H := Unit) Tryd.prog 9 (plainElem Tryd.prog 3) mb cnt D := by
  obtain ⟨es, cl, hb, r⟩ := h
  exact ⟨es, cl, e.trans hb, r⟩
theorem PM.mono (h : PM w1 wr mb f n out js ov jv) {n' : Nat} (hn : n ≤ n') : PM w1 wr mb f n' out js ov jv := by
  obtain ⟨o, j, ⟨cnt, D, a, b, c⟩, d, e⟩ := h
  exact ⟨o, j, ⟨cnt, D, by omega, b, c⟩, d, e⟩
theorem PM.size (h : PM w1 wr mb f n out js ov jv) : w1.heap.size ≤ wr.heap.size := h.only.size
theorem PM.below (h : PM w1 wr mb f n out js ov jv) (hb : Below wr.heap.size wr wr') : PM w1 wr' mb f n out js ov jv := by
  obtain ⟨o, j, ⟨cnt, D, a, b, c⟩, d, e⟩ := h
  have hon : Only (fun _ => False) wr wr' := Only.of_below hb (Nat.le_refl _)
  exact ⟨own_only o hon (fun _ _ e => e), own_only j hon (fun _ _ e => e), ⟨cnt, D, a, map_of_blk b (hb.block mb (Nat.lt_of_lt_of_le e d.size)), c⟩, only_tr d (only_bl hb), e⟩
theorem only_grown {w w' : World} {R : Nat} {row : Option Nat} (hg : w.grownBy w' row) {a : World} (ha : Only (AtR R) a w) (hr : ∀ k, row = some k → k = R ∨ a.heap.size ≤ k) : Only (AtR R) a w' :=
  ⟨hg.os.trans ha.os, hg.tape.trans ha.tape, hg.output.trans ha.output, Nat.le_trans ha.size hg.size, fun k hk hn => (hg.block k (Nat.lt_of_lt_of_le hk ha.size) (fun e => by
    rcases hr k e.symm with e2 | e2
    · exact hn e2
    · omega)).trans (ha.block k hk hn)⟩
/-- The map has one more. -/
theorem PM.put (h : PM w1 wr mb f n out js ov jv) {cnt : Nat} {D : DataW Unit} (hm : wr.ownsMap Tryd.prog 9 (plainElem Tryd.prog 3) mb cnt D) (hn : cnt ≤ n) (f' : B8 → Option Nat) (D' : DataW Unit) (hd : DReads D' f')
    (hm' : wr'.ownsMap Tryd.prog 9 (plainElem Tryd.prog 3) mb (cnt + 1) D') (hg : wr.grownBy wr' (some mb)) : PM w1 wr' mb f' (n + 1) out js ov jv := by
  obtain ⟨o, j, _, d, e⟩ := h
  obtain ⟨es, cl, hb, _⟩ := hm
  exact ⟨o.kept hg (.inr fun e => own_neMap o hb e), j.kept hg (.inr fun e => own_neMap j hb e), ⟨cnt + 1, D', by omega, hm', hd⟩, only_grown hg d (fun k hk => .inl (by injection hk with hk; exact hk.symm)), e⟩
/-- The jumps have one more. -/
theorem PM.jadd (h : PM w1 wr mb f n out js ov jv) {v' : Value} (x : Jmp) (hj : wr'.ownsRow w1.heap.size 66 3 v' (js.length + 1) (flatJ js ++ jCells x)) (hg : wr.grownBy wr' jv.ownBlock) : PM w1 wr' mb f n out (js ++ [x]) ov v' := by
  obtain ⟨o, j, ⟨cnt, D, a, b, c⟩, d, e⟩ := h
  refine ⟨?_, by rw [flatJ_snoc, List.length_append, List.length_singleton]; exact hj, ⟨cnt, D, a, map_of_blk b (hg.block mb (Nat.lt_of_lt_of_le e d.size) (fun e2 => ?_)), c⟩, only_grown hg d (fun k hk => .inr (j.lt k hk).1), e⟩
  · exact o.kept hg (by
      cases ho : ov.ownBlock with
      | none => exact .inl rfl
      | some k => exact .inr (fun e2 => own_ne2 o j (by decide) k ho e2.symm))
  · obtain ⟨es, cl, hb, _⟩ := b
    exact own_neMap j hb e2.symm
/-- The code has one more. -/
theorem PM.oadd (h : PM w1 wr mb f n out js ov jv) {v' : Value} (x : Ins) (ho : wr'.ownsRow w1.heap.size 34 5 v' (out.length + 1) (flat out ++ x.cells)) (hg : wr.grownBy wr' ov.ownBlock) : PM w1 wr' mb f n (out ++ [x]) js v' jv := by
  obtain ⟨o, j, ⟨cnt, D, a, b, c⟩, d, e⟩ := h
  refine ⟨by rw [flat_snoc, List.length_append, List.length_singleton]; exact ho, ?_, ⟨cnt, D, a, map_of_blk b (hg.block mb (Nat.lt_of_lt_of_le e d.size) (fun e2 => ?_)), c⟩, only_grown hg d (fun k hk => .inr (o.lt k hk).1), e⟩
  · exact j.kept hg (by
      cases hj : jv.ownBlock with
      | none => exact .inl rfl
      | some k => exact .inr (fun e2 => own_ne2 j o (by decide) k hj e2.symm))
  · obtain ⟨es, cl, hb, _⟩ := b
    exact own_neMap o hb e2.symm
set_option maxRecDepth 100000 in
/-- A look-up among the places. -/
theorem map_look {W : World} {mb cnt : Nat} {D : DataW Unit} {f : B8 → Option Nat} (hm : W.ownsMap Tryd.prog 9 (plainElem Tryd.prog 3) mb cnt D) (hd : DReads D f) (nm : ByteArray) (hnm : nm.size ≤ maxLen) :
    (Instr.lookup 40 (.map (some mb)) (.string nm) true).run Tryd.prog W = .ok (.tuple #[.int .i64 (((f nm.data.toList).getD 0 : Nat) : Int), .bool (f nm.data.toList).isSome]) W := by
  have hkey := _root_.Go.WideMaps.keyOf_string_mk Tryd.underlying9 hnm
  have hz : (plainElem (H := Unit) Tryd.prog 3 (.int .i64 0)) = some (.lit (.int .i64 0), []) := plainElem_int Tryd.underlying3 (by decide)
  obtain ⟨v, ps, hrun, hv⟩ := hm.look_ok lawS Tryd.underlying40 (zeroE W) hz hkey
  obtain ⟨c, rfl, hc, hwc⟩ := plainElem_int_inv Tryd.underlying3 hv
  have hc2 := congrArg Prod.fst hc
  simp only at hc2
  rw [hrun]
  obtain ⟨h1, h2⟩ := hd.2 nm.data.toList
  rw [h1]
  cases hf : f nm.data.toList with
  | some m =>
    rw [h2 m hf] at hc2
    injection hc2 with hc2
    injection hc2 with _ hc2
    rw [← hc2]; rfl
  | none =>
    rw [hf] at h1
    rw [Maps.atKey_of_not_has h1] at hc2
    injection hc2 with hc2
    injection hc2 with _ hc2
    rw [← hc2]; rfl

/-! ### Plain: what holds of the lines gone through -/
theorem hasB_jumps (op : Int) : hasB op 84 = jumps op := by
  by_cases h : 0 ≤ op ∧ op < 28
  · obtain ⟨k, rfl⟩ := Int.eq_ofNat_of_zero_le h.1
    have : ∀ k : Nat, k < 28 → hasB k 84 = jumps k := by decide
    exact this k (by omega)
  · rw [jumps_out op (by omega)]
    unfold hasB opField
    rw [if_neg h]; rfl
theorem pass1_most {ws : List B8} : ∀ {n : Nat} {o : List Ins}, pass1 ws n = .ok o → o.length ≤ 4000
  | 0, o, h => by injection h with h; rw [← h]; simp
  | n + 1, o, h => by
    obtain ⟨o1, h1, h2⟩ := pass1_pre h
    have := pass1_most h1
    unfold lineB at h2
    split at h2
    · injection h2 with h2; rw [← h2]; exact this
    · split at h2
      · split at h2
        · cases h2
        · split at h2
          · cases h2
          · injection h2 with h2; rw [← h2]; exact this
      · split at h2
        · cases h2
        · split at h2
          · cases h2
          · injection h2 with h2
            rw [← h2, List.length_append, List.length_singleton]; omega
theorem jmps_at (ws : List B8) : ∀ n, ∀ j ∈ jmps ws n, j.at_ < cntI ws n
  | 0, j, h => by cases h
  | n + 1, j, h => by
    have hm := cntI_mono ws n 1
    rcases List.mem_append.1 h with h | h
    · have := jmps_at ws n j h; omega
    · unfold jmpOf at h
      split at h
      · rename_i hi
        split at h
        · split at h
          · have : j = _ := List.mem_singleton.1 h
            rw [this, cntI, if_pos hi]
            show cntI ws n < _
            omega
          · cases h
        · cases h
      · cases h
theorem jmps_to (ws : List B8) (L : Nat) (hL : ∀ l ∈ ws, l.length ≤ L) : ∀ n, ∀ j ∈ jmps ws n, j.to.length ≤ L
  | 0, j, h => by cases h
  | n + 1, j, h => by
    rcases List.mem_append.1 h with h | h
    · exact jmps_to ws L hL n j h
    · unfold jmpOf at h
      split at h
      · split at h
        · rename_i x hx
          split at h
          · have e : j = _ := List.mem_singleton.1 h
            rw [e]
            show x.2.length ≤ L
            refine Nat.le_trans (readB_to hx) ?_
            by_cases hn : n < ws.length
            · exact hL _ (by rw [List.getD_eq_getElem?_getD, List.getElem?_eq_getElem hn]; exact List.getElem_mem hn)
            · rw [List.getD_eq_getElem?_getD, List.getElem?_eq_none (by omega)]; simp
          · cases h
        · cases h
      · cases h
theorem jmps_len (ws : List B8) : ∀ n, (jmps ws n).length ≤ n
  | 0 => Nat.le_refl _
  | n + 1 => by
    have := jmps_len ws n
    rw [jmps, List.length_append]
    have : (jmpOf ws n).length ≤ 1 := by
      unfold jmpOf
      split
      · split
        · split <;> simp
        · simp
      · simp
    omega
theorem jmps_line (ws : List B8) : ∀ n, ∀ j ∈ jmps ws n, j.line ≤ n
  | 0, j, h => by cases h
  | n + 1, j, h => by
    rcases List.mem_append.1 h with h | h
    · have := jmps_line ws n j h; omega
    · unfold jmpOf at h
      split at h
      · split at h
        · split at h
          · have e : j = _ := List.mem_singleton.1 h
            rw [e]; exact Nat.le_refl _
          · cases h
        · cases h
      · cases h
theorem suffix_at (l : B8) : Lib.hasSuffix l [58] = decide (l.getLast? = some 58) ∧ (l.getLast? = some 58 → Lib.trimSuffix l [58] = l.dropLast) := by
  have e : Lib.hasSuffix l [58] = decide (l.getLast? = some 58) := by
    unfold Lib.hasSuffix
    by_cases h : l.getLast? = some 58
    · rw [decide_eq_true h]
      obtain ⟨ys, rfl⟩ := List.getLast?_eq_some_iff.1 h
      simp
    · rw [decide_eq_false h]
      cases hq : [58].isSuffixOf l with
      | false => rfl
      | true =>
        have hq2 : [58].isSuffixOf l = true := hq
        rw [List.isSuffixOf_iff_suffix] at hq2
        obtain ⟨ys, hy⟩ := hq2
        exact absurd (by rw [← hy]; simp) h
  refine ⟨e, fun h => ?_⟩
  unfold Lib.trimSuffix
  rw [e, if_pos (by simpa using h), List.dropLast_eq_take]; rfl
end Go.Proofs.YtlopmejmionnpaaDoor.As
