/- Threads, events and a machine sc in memory; the walks of what a thread asks of it. -/
import Derived.Test.YtackbadmcgjncaaGreatDoorCoP
import Derived.Test.YtackbadmcgjncaaGreatDoorRd
import Derived.Test.YtackbadmcgjncaaGreatDoorIsa
import Derived.Deep.RegionWith
import Derived.Deep.RegionHeld
import Derived.Deep.RegionHeldLaw
import Derived.Deep.QuietTactic
import Derived.BigQuiet
set_option linter.unusedVariables false
set_option linter.unusedSimpArgs false
set_option maxRecDepth 20000
namespace Go.Proofs.YtackbadmcgjncaaGreatDoor.As
open Go.RowKit

theorem bl_drewN {B : Nat} {a w : World} (h : Below B a w) (n : Nat) : Below B a (w.drewN n) := ⟨h.os, h.tape, h.output, h.size, h.block⟩
theorem bl_drew {B : Nat} {a w : World} (h : Below B a w) : Below B a w.drew := ⟨h.os, h.tape, h.output, h.size, h.block⟩
theorem on_drewN {F : Nat → Prop} {a w : World} (h : Only F a w) (n : Nat) : Only F a (w.drewN n) := ⟨h.os, h.tape, h.output, h.size, h.block⟩
theorem Only.set1 {F : Nat → Prop} {a w : World} (h : Only F a w) {p : Addr} (hp : F p.block) (v : Value) : Only F a (w.setCell p v) := by
  refine ⟨h.os, h.tape, h.output, ?_, fun k hk hn => ?_⟩
  · have := h.size; simpa using this
  · obtain ⟨g, i, sp⟩ := p
    exact (heap_setCell_other _ _ _ _ (fun e => hn (by subst e; exact hp))).trans (h.block k hk hn)
def w32 (l : List Int) : List Value := l.map (Value.int .u32)
def Th.cells (t : Th) : List Value := .int .i64 t.pc :: (w32 t.regs ++ [.int .i64 t.st])
def Ev.cells (e : Ev) : List Value := [.int .i64 e.kind, .int .i64 e.who, .int .i64 e.pc, .int .i64 e.addr, .int .u32 e.val, .int .u32 e.old, .int .u32 e.k, .bool e.ok]
def flatE (l : List Ev) : List Value := l.flatMap Ev.cells
theorem flatE_snoc (l : List Ev) (e : Ev) : flatE (l ++ [e]) = flatE l ++ e.cells := by simp [flatE]
/-- A machine's memory, its events, whose step it is. -/
structure Sc where
  mem : List Int
  evs : List Ev
  who : Int
/-- Sixteen words at most wide: no list grows beyond it. -/
def Sc.Small (s : Sc) (n : Nat) : Prop := s.mem.length ≤ 1024 ∧ s.evs.length ≤ n
def Sc.note (s : Sc) (e : Ev) : Sc := { s with evs := s.evs ++ [{ e with who := s.who }] }
def Sc.store (s : Sc) (ad : Nat) (v : Int) : Sc := { s with mem := s.mem.set ad v }
/-- A machine sc at mb, its words at mm; Z: what it has nothing to do with. -/
def ScM (Z : Nat → Prop) (w : World) (mb mm mc b0 : Nat) (cv tv kv : Value) (s : Sc) : Prop :=
  mm ≠ mb ∧ ¬ Z mb ∧ ¬ Z mm ∧ (∀ k, Z k → k < w.heap.size) ∧ b0 ≤ w.heap.size ∧ mm < w.heap.size ∧
  ∃ ev arr, w.heap[mb]? = some (.cells #[cv, tv, .slice (some ⟨mm, 0, none⟩) s.mem.length mc, kv, ev, .int .i64 s.who] 153 (0, 0)) ∧
    w.heap[mm]? = some (.cells arr 41 (0, 0)) ∧ (∀ (j : Nat) v, s.mem[j]? = some v → arr[j]? = some (.int .u32 v)) ∧ s.mem.length ≤ arr.size ∧
    w.ownsRow b0 59 8 ev s.evs.length (flatE s.evs) ∧ ev.ownBlock ≠ some mb ∧ ev.ownBlock ≠ some mm ∧ ∀ k, Z k → ev.ownBlock ≠ some k
theorem ScM.lt {Z : Nat → Prop} {w : World} {mb mm mc b0 : Nat} {cv tv kv : Value} {s : Sc} (h : ScM Z w mb mm mc b0 cv tv kv s) : mb < w.heap.size := by
  obtain ⟨_, _, _, _, _, _, ev, arr, h, _⟩ := h
  exact (Array.getElem?_eq_some_iff.1 h).1
/-- What stands elsewhere may turn. -/
theorem ScM.keep {Z F : Nat → Prop} {w w' : World} {mb mm mc b0 : Nat} {cv tv kv : Value} {s : Sc} (h : ScM Z w mb mm mc b0 cv tv kv s) (ho : Only F w w') (hF : ∀ k, F k → k < w.heap.size → Z k) : ScM Z w' mb mm mc b0 cv tv kv s := by
  have hlt := h.lt
  obtain ⟨h1, h2, h3, h4, h5, h6, ev, arr, hb, hm, hc, hs, ho2, e1, e2, e3⟩ := h
  have hev : ∀ k, ev.ownBlock = some k → ¬ F k := fun k e hf => e3 k (hF k hf (ho2.lt k e).2) e
  refine ⟨h1, h2, h3, fun k hk => Nat.lt_of_lt_of_le (h4 k hk) ho.size, Nat.le_trans h5 ho.size, Nat.lt_of_lt_of_le h6 ho.size, ev, arr, (ho.block _ hlt (fun e => h2 (hF _ e hlt))).trans hb, (ho.block _ h6 (fun e => h3 (hF _ e h6))).trans hm, hc, hs, own_only ho2 ho hev, e1, e2, e3⟩
/-- More may be kept from it. -/
theorem ScM.more {Z Z' : Nat → Prop} {w : World} {mb mm mc b0 : Nat} {cv tv kv : Value} {s : Sc} (h : ScM Z w mb mm mc b0 cv tv kv s) (hZ : ∀ k, Z' k → k < w.heap.size ∧ (Z k ∨ ∃ t f a, w.heap[k]? = some (.cells a t f) ∧ t ≠ 59 ∧ k ≠ mb ∧ k ≠ mm)) : ScM Z' w mb mm mc b0 cv tv kv s := by
  obtain ⟨h1, h2, h3, h4, h5, h6, ev, arr, hb, hm, hc, hs, ho2, e1, e2, e3⟩ := h
  refine ⟨h1, fun hk => ?_, fun hk => ?_, fun k hk => (hZ k hk).1, h5, h6, ev, arr, hb, hm, hc, hs, ho2, e1, e2, fun k hk e => ?_⟩
  · rcases (hZ _ hk).2 with h | ⟨_, _, _, _, _, h, _⟩
    · exact h2 h
    · exact h rfl
  · rcases (hZ _ hk).2 with h | ⟨_, _, _, _, _, _, h⟩
    · exact h3 h
    · exact h rfl
  · rcases (hZ _ hk).2 with h | ⟨t, f, a, hh, ht, _⟩
    · exact e3 k h e
    · rcases ho2.2 with ⟨rfl, _⟩ | ⟨g, cap, cur, rfl, _, hg, _⟩
      · cases e
      · injection e with e
        subst e
        rw [hh] at hg
        injection hg with hg
        injection hg with _ hg
        exact ht hg
theorem ScM.less {Z Z' : Nat → Prop} {w : World} {mb mm mc b0 : Nat} {cv tv kv : Value} {s : Sc} (h : ScM Z w mb mm mc b0 cv tv kv s) (hZ : ∀ k, Z' k → Z k) : ScM Z' w mb mm mc b0 cv tv kv s := by
  obtain ⟨h1, h2, h3, h4, h5, h6, ev, arr, hb, hm, hc, hs, ho2, e1, e2, e3⟩ := h
  exact ⟨h1, fun e => h2 (hZ _ e), fun e => h3 (hZ _ e), fun k e => h4 k (hZ _ e), h5, h6, ev, arr, hb, hm, hc, hs, ho2, e1, e2, fun k e => e3 k (hZ _ e)⟩
theorem infoEv : (Tryz.prog.info? 59).map (fun i => (i.zero, i.size, i.bytes)) = some (some (.agg #[.int .i64 0, .int .i64 0, .int .i64 0, .int .i64 0, .int .u32 0, .int .u32 0, .int .u32 0, .bool false]), 8, 48) := by kernel_rfl
theorem load_sc (Z : Nat → Prop) (w : World) (mb mm mc b0 : Nat) (cv tv kv : Value) (s : Sc) (h : ScM Z w mb mm mc b0 cv tv kv s) (ad : Nat) (ha : ad < s.mem.length) :
    Calls Tryz.prog 88 #[.pointer (some ⟨mb, 0, none⟩), .int .i64 ad] w fun e w' => e = .returned (.int .u32 (s.mem.getD ad 0)) ∧ w' = w := by
  obtain ⟨_, _, _, _, _, _, ev, arr, hb, hm, hc, hs, _⟩ := h
  obtain ⟨v, hv⟩ : ∃ v, s.mem[ad]? = some v := ⟨_, List.getElem?_eq_getElem ha⟩
  have e1 : s.mem.getD ad 0 = v := by rw [List.getD_eq_getElem?_getD, hv]; rfl
  rw [e1]
  have c2 : w.cell? ⟨mb, 2, none⟩ = some (.slice (some ⟨mm, 0, none⟩) s.mem.length mc) := cell_of_row w mb 2 _ _ _ hb
  have d : w.cell? ⟨mm, ad, none⟩ = some (.int .u32 v) := (cell_of_row w mm ad _ _ _ hm).trans (hc ad v hv)
  have hi : (ad : Int) < (s.mem.length : Int) := by omega
  clear hb hm hc hs e1 hv
  go_enter Tryz.func88, Tryz.ntmps88
  go_wp2_with fail
  go_ret
  exact ⟨rfl, rfl⟩
theorem ScM.stored {Z : Nat → Prop} {w : World} {mb mm mc b0 : Nat} {cv tv kv : Value} {s : Sc} (h : ScM Z w mb mm mc b0 cv tv kv s) {ad : Nat} (ha : ad < s.mem.length) (v : Int) :
    ScM Z (w.setCell ⟨mm, ad, none⟩ (.int .u32 v)) mb mm mc b0 cv tv kv (s.store ad v) ∧ Only (fun k => k = mm) w (w.setCell ⟨mm, ad, none⟩ (.int .u32 v)) := by
  have hO : Only (fun k => k = mm) w (w.setCell ⟨mm, ad, none⟩ (.int .u32 v)) := Only.set1 (F := fun k => k = mm) (p := ⟨mm, ad, none⟩) (Only.refl _ w) rfl _
  obtain ⟨h1, h2, h3, h4, h5, h6, ev, arr, hb, hm, hc, hs, ho2, e1, e2, e3⟩ := h
  have hlt := (Array.getElem?_eq_some_iff.1 hb).1
  refine ⟨⟨h1, h2, h3, fun k hk => Nat.lt_of_lt_of_le (h4 k hk) hO.size, Nat.le_trans h5 hO.size, Nat.lt_of_lt_of_le h6 hO.size, ev, arr.setIfInBounds ad (.int .u32 v), ?_, heap_setCell_same _ mm ad _ _ _ hm, fun j u hu => ?_, ?_, ?_, e1, e2, e3⟩, hO⟩
  · rw [show (s.store ad v).mem.length = s.mem.length from List.length_set]
    exact (hO.block _ hlt (fun e => h1 e.symm)).trans hb
  · have hu' : (s.mem.set ad v)[j]? = some u := hu
    rw [List.getElem?_set] at hu'
    rw [Array.getElem?_setIfInBounds]
    by_cases e : ad = j
    · subst e
      rw [if_pos rfl, if_pos ha] at hu'
      injection hu' with hu'
      rw [if_pos rfl, if_pos (by omega), hu']
    · rw [if_neg e] at hu'
      rw [if_neg e]
      exact hc j u hu'
  · rw [show (s.store ad v).mem.length = s.mem.length from List.length_set, Array.size_setIfInBounds]; exact hs
  · exact own_only ho2 hO (fun k e f => by subst f; exact e2 e)
theorem store_sc (Z : Nat → Prop) (w : World) (mb mm mc b0 : Nat) (cv tv kv : Value) (s : Sc) (h : ScM Z w mb mm mc b0 cv tv kv s) (ad : Nat) (ha : ad < s.mem.length) (v : Int) :
    Calls Tryz.prog 90 #[.pointer (some ⟨mb, 0, none⟩), .int .i64 ad, .int .u32 v] w fun e w' => e = .returned (.tuple #[]) ∧ ScM Z w' mb mm mc b0 cv tv kv (s.store ad v) ∧ Only (fun k => k = mm) w w' := by
  have HS := Lib.hid (h.stored ha v)
  obtain ⟨_, _, _, _, _, _, ev, arr, hb, hm, hc, hs, _⟩ := h
  obtain ⟨u, hu⟩ : ∃ u, s.mem[ad]? = some u := ⟨_, List.getElem?_eq_getElem ha⟩
  have c2 : w.cell? ⟨mb, 2, none⟩ = some (.slice (some ⟨mm, 0, none⟩) s.mem.length mc) := cell_of_row w mb 2 _ _ _ hb
  have d : w.cell? ⟨mm, ad, none⟩ = some (.int .u32 u) := (cell_of_row w mm ad _ _ _ hm).trans (hc ad u hu)
  have f : w.frozen? ⟨mm, ad, none⟩ = false := frozen_of_row w mm ad _ _ hm
  have hi : (ad : Int) < (s.mem.length : Int) := by omega
  clear hb hm hc hs hu
  go_enter Tryz.func90, Tryz.ntmps90
  go_wp2_with fail
  go_end0
  exact ⟨rfl, HS.out⟩
theorem swap_sc (Z : Nat → Prop) (w : World) (mb mm mc b0 : Nat) (cv tv kv : Value) (s : Sc) (h : ScM Z w mb mm mc b0 cv tv kv s) (ad : Nat) (ha : ad < s.mem.length) (v : Int) :
    Calls Tryz.prog 92 #[.pointer (some ⟨mb, 0, none⟩), .int .i64 ad, .int .u32 v] w fun e w' => (∃ u, e = .returned (.int .u32 u)) ∧ ScM Z w' mb mm mc b0 cv tv kv (s.store ad v) ∧ Only (fun k => k = mm) w w' := by
  have HS := Lib.hid (h.stored ha v)
  obtain ⟨_, _, _, _, _, _, ev, arr, hb, hm, hc, hs, _⟩ := h
  obtain ⟨u, hu⟩ : ∃ u, s.mem[ad]? = some u := ⟨_, List.getElem?_eq_getElem ha⟩
  have c2 : w.cell? ⟨mb, 2, none⟩ = some (.slice (some ⟨mm, 0, none⟩) s.mem.length mc) := cell_of_row w mb 2 _ _ _ hb
  have d : w.cell? ⟨mm, ad, none⟩ = some (.int .u32 u) := (cell_of_row w mm ad _ _ _ hm).trans (hc ad u hu)
  have f : w.frozen? ⟨mm, ad, none⟩ = false := frozen_of_row w mm ad _ _ hm
  have hi : (ad : Int) < (s.mem.length : Int) := by omega
  clear hb hm hc hs hu
  go_enter Tryz.func92, Tryz.ntmps92
  go_wp2_with fail
  go_ret
  exact ⟨⟨_, rfl⟩, HS.out⟩
theorem always_sc (w : World) : Calls Tryz.prog 89 #[] w fun e w' => e = .returned (.bool true) ∧ w' = w := by
  go_enter Tryz.func89, Tryz.ntmps89
  go_wp2_with fail
  go_ret
  exact ⟨rfl, rfl⟩
theorem nothing_sc (w : World) : Calls Tryz.prog 91 #[] w fun e w' => e = .returned (.tuple #[]) ∧ w' = w := by
  go_enter Tryz.func91, Tryz.ntmps91
  go_wp2_with fail
  go_end0
  exact ⟨rfl, rfl⟩
theorem noted {Z : Nat → Prop} {w w1 : World} {mb mm mc b0 g1 cap : Nat} {cv tv kv ev : Value} {arr : Array Value} {s : Sc} {e : Ev} (h1 : mm ≠ mb) (h2 : ¬ Z mb) (h3 : ¬ Z mm) (h4 : ∀ k, Z k → k < w.heap.size) (h5 : b0 ≤ w.heap.size) (h6 : mm < w.heap.size)
    (hb : w.heap[mb]? = some (.cells #[cv, tv, .slice (some ⟨mm, 0, none⟩) s.mem.length mc, kv, ev, .int .i64 s.who] 153 (0, 0))) (hm : w.heap[mm]? = some (.cells arr 41 (0, 0))) (hc : ∀ (j : Nat) v, s.mem[j]? = some v → arr[j]? = some (.int .u32 v)) (hs : s.mem.length ≤ arr.size)
    (ho : w1.ownsRow b0 59 8 (.slice (some ⟨g1, 0, none⟩) (s.evs.length + 1) cap) (s.evs.length + 1) (flatE s.evs ++ [.int .i64 e.kind, .int .i64 s.who, .int .i64 e.pc, .int .i64 e.addr, .int .u32 e.val, .int .u32 e.old, .int .u32 e.k, .bool e.ok]))
    (e1 : ev.ownBlock ≠ some mb) (e2 : ev.ownBlock ≠ some mm) (e3 : ∀ k, Z k → ev.ownBlock ≠ some k) (hgr : w.grownBy w1 ev.ownBlock) (hat : ev.ownBlock = some g1 ∨ w.heap.size ≤ g1)
    (k0 : w1.heap[mb]? = some (.cells #[cv, tv, .slice (some ⟨mm, 0, none⟩) s.mem.length mc, kv, ev, .int .i64 s.who] 153 (0, 0))) :
    ScM Z (w1.setCell ⟨mb, 4, none⟩ (.slice (some ⟨g1, 0, none⟩) (s.evs.length + 1) cap)) mb mm mc b0 cv tv kv (s.note e) ∧ Only (fun k => ¬ Z k) w (w1.setCell ⟨mb, 4, none⟩ (.slice (some ⟨g1, 0, none⟩) (s.evs.length + 1) cap)) := by
  have hlt := (Array.getElem?_eq_some_iff.1 hb).1
  have n1 : g1 ≠ mb := by
    rcases hat with h | h
    · intro q; subst q; exact e1 h
    · omega
  have n2 : g1 ≠ mm := by
    rcases hat with h | h
    · intro q; subst q; exact e2 h
    · omega
  have n3 : ∀ k, Z k → g1 ≠ k := by
    intro k hk
    rcases hat with h | h
    · intro q; subst q; exact e3 _ hk h
    · have := h4 k hk; omega
  have hO1 : Only (fun k => ¬ Z k) w w1 := ⟨hgr.os, hgr.tape, hgr.output, hgr.size, fun k hk hn => hgr.block k hk (fun q => e3 k (Classical.not_not.1 hn) q.symm)⟩
  have hO : Only (fun k => ¬ Z k) w (w1.setCell ⟨mb, 4, none⟩ (.slice (some ⟨g1, 0, none⟩) (s.evs.length + 1) cap)) := hO1.set1 (p := ⟨mb, 4, none⟩) h2 _
  have hlen : (s.note e).evs.length = s.evs.length + 1 := by simp [Sc.note]
  refine ⟨⟨h1, h2, h3, fun k hk => Nat.lt_of_lt_of_le (h4 k hk) hO.size, Nat.le_trans h5 hO.size, Nat.lt_of_lt_of_le h6 hO.size, .slice (some ⟨g1, 0, none⟩) (s.evs.length + 1) cap, arr, ?_, ?_, hc, hs, ?_, ?_, ?_, ?_⟩, hO⟩
  · exact (heap_setCell_same _ mb 4 _ _ _ k0).trans (by simp; exact ⟨rfl, rfl⟩)
  · exact (heap_setCell_other _ _ _ _ h1).trans ((hgr.block mm h6 (fun q => e2 q.symm)).trans hm)
  · rw [hlen, show (s.note e).evs = s.evs ++ [{ e with who := s.who }] from rfl, flatE_snoc]
    exact ownsRow_setCell_other ho (by simp [Value.ownBlock]; exact n1) _
  · simp [Value.ownBlock]; exact n1
  · simp [Value.ownBlock]; exact n2
  · intro k hk; simp [Value.ownBlock]; exact n3 k hk
set_option maxHeartbeats 2000000 in
theorem note_sc (Z : Nat → Prop) (w : World) (mb mm mc b0 : Nat) (cv tv kv : Value) (s : Sc) (h : ScM Z w mb mm mc b0 cv tv kv s) (hn : s.evs.length ≤ 1000000) (e : Ev) :
    Calls Tryz.prog 95 #[.pointer (some ⟨mb, 0, none⟩), .agg #[.int .i64 e.kind, .int .i64 e.who, .int .i64 e.pc, .int .i64 e.addr, .int .u32 e.val, .int .u32 e.old, .int .u32 e.k, .bool e.ok]] w fun r w' => r = .returned (.tuple #[]) ∧ ScM Z w' mb mm mc b0 cv tv kv (s.note e) ∧ Only (fun k => ¬ Z k) w w' := by
  have HH := Lib.hid h
  have hlt := h.lt
  obtain ⟨h1, h2, h3, h4, h5, h6, ev, arr, hb, hm, hc, hs, ho2, e1, e2, e3⟩ := h
  obtain ⟨i0, hi, hz0, hz1, hz2⟩ := info_parts infoEv
  have HO := Lib.hid ho2
  have HB := Lib.hid hb
  have HM := Lib.hid hm
  have HC := Lib.hid hc
  have HZ := Lib.hid h4
  have H2 := Lib.hid h2
  have H3 := Lib.hid h3
  have E2 := Lib.hid e2
  have E3 := Lib.hid e3
  have c4 : w.cell? ⟨mb, 4, none⟩ = some ev := cell_of_row w mb 4 _ _ _ hb
  have c5 : w.cell? ⟨mb, 5, none⟩ = some (.int .i64 s.who) := cell_of_row w mb 5 _ _ _ hb
  clear hb hm hc ho2 h2 h3 h4 e2 e3
  go_enter Tryz.func95, Tryz.ntmps95
  go_wp2_with fail
  go_region_law (refine step_append_lies _ rfl (.tmp 13) (.tmp 15) 56 rfl b0 59 i0 _ 8 48 Tryz.underlying56 hi hz0 hz1 hz2 rfl (by decide) ev _ _ rfl ((HO.out.alloc _).alloc _) ⟨w.heap.size + 1, 0, none⟩ 1 1 [.int .i64 e.kind, .int .i64 s.who, .int .i64 e.pc, .int .i64 e.addr, .int .u32 e.val, .int .u32 e.old, .int .u32 e.k, .bool e.ok] rfl rfl (World.news_of_block (heap_alloc2_new _ _ _)) (by simp [Value.oneCell']) (by decide) (by unfold maxLen; omega) (by omega) (by simp; omega) _ rfl ?_; intro g1 cap w1 ho hgr hat hlt1; have k0 : w1.heap[mb]? = some (.cells #[cv, tv, .slice (some ⟨mm, 0, none⟩) s.mem.length mc, kv, ev, .int .i64 s.who] 153 (0, 0)) := (hgr.block mb (by simp; omega) (fun q => e1 q.symm)).trans ((Below.heap_alloc _ _ _ (by simp; omega)).trans ((Below.heap_alloc _ _ _ hlt).trans HB.out)); have k1 : w1.cell? ⟨mb, 4, none⟩ = some ev := cell_of_row w1 mb 4 _ _ _ k0; have k2 := frozen_of_row w1 mb 4 _ _ k0)
  all_goals
    go_end0
    have hgr2 : w.grownBy w1 ev.ownBlock := grown_from hgr rfl rfl rfl (by simp <;> omega) (fun i hi' => (Below.heap_alloc _ _ _ (by simp; omega)).trans (Below.heap_alloc _ _ _ hi'))
    have hat2 : ev.ownBlock = some g1 ∨ w.heap.size ≤ g1 := by
      rcases hat with hat | hat
      · exact .inl hat
      · right; simp at hat; omega
    exact ⟨rfl, noted h1 H2.out H3.out HZ.out h5 h6 HB.out HM.out HC.out hs ho e1 E2.out E3.out hgr2 hat2 k0⟩
end Go.Proofs.YtackbadmcgjncaaGreatDoor.As
