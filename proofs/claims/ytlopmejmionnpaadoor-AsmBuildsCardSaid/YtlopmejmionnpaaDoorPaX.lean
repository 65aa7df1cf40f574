/- The library's contract of (*strings.Builder).WriteString, laid by hand; names for the walks. The walks of the package asm: what a line's words are gathered in. -/
import Derived.Test.YtlopmejmionnpaaDoorShelf
import Derived.Test.YtlopmejmionnpaaDoorPaV
import Derived.Test.YtlopmejmionnpaaDoorPaR
section
set_option linter.unusedVariables false
namespace Go.Proofs
open Go.Shelf
def Tryd.lays166_ren : Go.Shelf.Ren := ⟨fun | 166 => 40 | 240 => 57 | 276 => 73 | n => n, fun | 9 => 9 | 3 => 3 | 4 => 4 | 0 => 0 | 20 => 20 | 72 => 81 | 70 => 79 | 37 => 73 | 75 => 83 | 164 => 112 | 5 => 5 | 80 => 86 | n => n, fun | n => n⟩
theorem Tryd.lays166 : Go.Proofs.Lays.n166 Tryd.prog Tryd.lays166_ren := {
  mixed := by kernel_rfl
  f166 := Tryd.func40.trans (congrArg some (by kernel_rfl))
  f240 := Tryd.func57.trans (congrArg some (by kernel_rfl))
  f276 := Tryd.func73.trans (congrArg some (by kernel_rfl))
  t0 := Tryd.underlying0
  a0 := Tryd.isAgg0
  z0 := Tryd.sizeOf0
  v0 := Tryd.zeroValue0
  t3 := Tryd.underlying3
  a3 := Tryd.isAgg3
  z3 := Tryd.sizeOf3
  v3 := Tryd.zeroValue3
  t4 := Tryd.underlying4
  a4 := Tryd.isAgg4
  z4 := Tryd.sizeOf4
  v4 := Tryd.zeroValue4
  t9 := Tryd.underlying9
  a9 := Tryd.isAgg9
  z9 := Tryd.sizeOf9
  v9 := Tryd.zeroValue9
  t20 := Tryd.underlying20
  a20 := Tryd.isAgg20
  z20 := Tryd.sizeOf20
  v20 := Tryd.zeroValue20
  t37 := Tryd.underlying73
  a37 := Tryd.isAgg73
  z37 := Tryd.sizeOf73
  v37 := Tryd.zeroValue73
  t70 := Tryd.underlying79
  a70 := Tryd.isAgg79
  z70 := Tryd.sizeOf79
  v70 := Tryd.zeroValue79
  t72 := Tryd.underlying81
  a72 := Tryd.isAgg81
  z72 := Tryd.sizeOf81
  v72 := Tryd.zeroValue81
  t75 := Tryd.underlying83
  a75 := Tryd.isAgg83
  z75 := Tryd.sizeOf83
  v75 := Tryd.zeroValue83
  t164 := Tryd.underlying112
  a164 := Tryd.isAgg112
  z164 := Tryd.sizeOf112
  v164 := Tryd.zeroValue112 }
theorem Tryd.Builder_Extra_166 : Builder.Extra Tryd.prog Tryd.lays166_ren := {
  sizeBuilder := by kernel_rfl
  liesBuilder := by kernel_rfl
  t5 := Tryd.underlying5
  a5 := Tryd.isAgg5
  z5 := Tryd.sizeOf5
  v5 := Tryd.zeroValue5
  infoByte := by kernel_rfl
  cellsByte := by kernel_rfl
  sizeByte := by kernel_rfl
  neB5 := by decide }
open Go.RowKit in
theorem Tryd.Builder_WriteString (B b : Nat) (bs : List Value) (s : ByteArray) (w : World) (h : Lib.IsBuilder 81 5 B b bs w) (hlen : bs.length + s.size ≤ 140737488355328) (hBw : B ≤ w.heap.size) :
    Calls Tryd.prog 40 #[.pointer (some ⟨b, 0, none⟩), .string s] w fun e w' => e = .returned (.tuple #[.int .i64 s.size, .nilIface]) ∧ (Lib.BuilderAt 81 5 B b (.pointer (some ⟨b, 0, none⟩)) (bs ++ Lib.strCells s) w' ∧ Below B w w') := Any.Builder_WriteString Tryd.lays166 Tryd.Builder_Extra_166 B b bs s w h hlen hBw
end Go.Proofs
end
section
set_option linter.unusedVariables false
set_option linter.unusedSimpArgs false
namespace Go.Proofs.YtlopmejmionnpaaDoor.As
open Go.RowKit

theorem dec_dig (n : Nat) : Lib.decDigits n = decB n := by
  induction n using Nat.strongRecOn with
  | _ n ih =>
    rw [Lib.decDigits, decB]
    by_cases h : n < 10
    · rw [dif_pos h, if_pos h]
    · rw [dif_neg h, if_neg h, ih (n / 10) (by omega)]
theorem join_eq : ∀ (ws : List B8), ws ≠ [] → Lib.join ws [32] = joinB 32 ws
  | [], h => absurd rfl h
  | [w], _ => by simp [Lib.join, joinB, List.intercalate]
  | w :: v :: r, _ => by
    have ih := join_eq (v :: r) (by simp)
    rw [joinB, ← ih]
    simp [Lib.join, List.intercalate]
/-- While a line is told: its words so far. -/
structure TS (w W : World) (sb : Nat) (i : Ins) (v : Value) (ws : List B8) : Prop where
  own : W.ownsRow w.heap.size 9 1 v ws.length (ws.map str)
  head : W.heap[sb]? = some (.cells #[v] 39 (0, 0))
  lo : w.heap.size ≤ sb
  bel : Below w.heap.size w W
  blk : Blk W w.heap.size i
theorem TS.below {w W W' : World} {sb : Nat} {i : Ins} {v : Value} {ws : List B8} (h : TS w W sb i v ws) (hb : Below W.heap.size W W') : TS w W' sb i v ws :=
  ⟨own_only h.own (Only.of_below (F := fun _ => False) hb (Nat.le_refl _)) (fun _ _ e => e), (hb.block sb (Array.getElem?_eq_some_iff.1 h.head).1).trans h.head, h.lo, h.bel.trans (hb.mono h.bel.size), h.blk.below hb h.blk.lt⟩
theorem TS.app {w W w1 : World} {sb g n cap : Nat} {i : Ins} {v : Value} {ws : List B8} {x : B8} (h : TS w W sb i v ws) (hgr : W.grownBy w1 v.ownBlock)
    (ho : w1.ownsRow w.heap.size 9 1 (.slice (some ⟨g, 0, none⟩) n cap) n (ws.map str ++ [str x])) (hn : n = ws.length + 1) : TS w (w1.setCell ⟨sb, 0, none⟩ (.slice (some ⟨g, 0, none⟩) n cap)) sb i (.slice (some ⟨g, 0, none⟩) n cap) (ws ++ [x]) := by
  have hlt : sb < W.heap.size := (Array.getElem?_eq_some_iff.1 h.head).1
  have hne := own_ne h.own h.head (by decide)
  have hk : w1.heap[sb]? = some (.cells #[v] 39 (0, 0)) := (hgr.block sb hlt (fun e => hne e.symm)).trans h.head
  have hne1 := own_ne ho hk (by decide)
  have hib := h.blk.lt
  have hnei := own_ne h.own h.blk (by decide)
  have hsi : sb ≠ w.heap.size := fun e => by
    have h1 := h.head
    have h2 := h.blk
    unfold Blk at h2
    rw [e] at h1
    rw [h1] at h2
    simp at h2
  subst hn
  refine ⟨?_, ?_, h.lo, ?_, ?_⟩
  · rw [List.length_append, List.map_append]
    exact ownsRow_setCell_other ho hne1 _
  · exact (heap_setCell_same w1 sb 0 _ _ _ hk).trans (by simp)
  · refine ⟨hgr.os.trans h.bel.os, hgr.tape.trans h.bel.tape, hgr.output.trans h.bel.output, ?_, fun k hk => ?_⟩
    · have := h.bel.size; have := hgr.size; simp [World.setCell]; omega
    · have hb := h.bel.size
      have hlo := h.lo
      refine (heap_setCell_other _ _ _ _ (show k ≠ sb by omega)).trans ((hgr.block k (by omega) (fun e => ?_)).trans (h.bel.block k hk))
      have := (h.own.lt k e.symm).1
      omega
  · exact (heap_setCell_other _ _ _ _ (fun e => hsi e.symm)).trans ((hgr.block _ hib (fun e => hnei e.symm)).trans h.blk)
theorem itoa_dig (r : Int) (h : 0 ≤ r ∧ r ≤ 7) : ∃ d : ByteArray, strB [114] ++ d = strB (regW r) ∧ d.size ≤ 10 ∧ ∀ w : World, Calls Tryd.prog 59 #[.int .i64 r] w fun e w' => e = .returned (.string d) ∧ w' = w := by
  obtain ⟨n, rfl⟩ := Int.eq_ofNat_of_zero_le h.1
  refine ⟨strB (decB n), ?_, ?_, fun w => ?_⟩
  · rw [strB_app, decB_small (by omega)]; rfl
  · rw [strB_size, decB_small (by omega)]; simp
  · have := Tryd.strconv_Itoa_small n (by omega) w
    rw [dec_dig] at this
    exact this
set_option maxHeartbeats 2000000 in
set_option maxRecDepth 100000 in
theorem say_any (w W : World) (sb : Nat) (i : Ins) (v : Value) (ws : List B8) (h : TS w W sb i v ws) (hl : ws.length ≤ 5) (r : Int) (hr : 0 ≤ r ∧ r ≤ 7) :
    Calls Tryd.prog 58 #[.int .i64 r, .pointer (some ⟨sb, 0, none⟩)] W fun e W' => e = .returned (.tuple #[]) ∧ ∃ v', TS w W' sb i v' (ws ++ [regW r]) := by
  obtain ⟨i0, hi, hz0, hz1, hz2⟩ := info_parts info_str
  obtain ⟨d, qd, zd, hd⟩ := itoa_dig r hr
  have HS := Lib.hid h
  have hown := h.own
  have c0 := cell_of_row W sb 0 _ _ _ h.head
  have f0 := frozen_of_row W sb 0 _ _ h.head
  simp at c0
  have hlt : sb < W.heap.size := (Array.getElem?_eq_some_iff.1 h.head).1
  have hwz := h.bel.size
  have hne := own_ne hown h.head (by decide)
  have QD := Lib.hid qd
  have ID := Lib.hid hd
  have hq : (⟨#[114]⟩ : ByteArray) ++ d = strB (regW r) := qd
  clear h qd hd
  go_enter Tryd.func58, Tryd.ntmps58
  go_wp2_with fail
  have y1 : (9223372036854775807 < 1 + d.size) = False := eq_false (by omega)
  have y2 : (9223372036854775807 < (ByteArray.mk #[114]).size + d.size) = False := y1
  go_region_law (first
    | (refine step_append_lies _ rfl (.tmp 3) (.tmp 7) 39 rfl w.heap.size 9 i0 _ 1 16 Tryd.underlying39 hi hz0 hz1 hz2 rfl (by decide) v _ _ rfl (hown.alloc _) ⟨W.heap.size, 0, none⟩ 1 1 [str (regW r)] rfl rfl (World.news_of_block (heap_alloc_new _ _)) (by simp [Value.oneCell', str]) (by decide) (by unfold maxLen; omega) (by omega) (by simp; omega) _ rfl ?_; intro g1 cap w1 ho hgr hat hlt1; have k0 : w1.heap[sb]? = some (.cells #[v] 39 (0, 0)) := (hgr.block sb (by simp; omega) (fun e => hne e.symm)).trans ((Below.heap_alloc _ _ _ hlt).trans HS.out.head); have k1 : w1.cell? ⟨sb, 0, none⟩ = some v := cell_of_row w1 sb 0 _ _ _ k0; have k2 := frozen_of_row w1 sb 0 _ _ k0)
    | (go_simp; go_at_call 59; go_must (with_reducible refine (ID.out _).mono ?_; rintro e w5 ⟨rfl, rfl⟩)))
  all_goals
    go_end0
    have hgr2 : W.grownBy w1 v.ownBlock := grown_from hgr rfl rfl rfl (by simp <;> omega) (fun i hi' => Below.heap_alloc _ _ _ hi')
    exact ⟨rfl, _, HS.out.app hgr2 ho rfl⟩
end Go.Proofs.YtlopmejmionnpaaDoor.As
end
