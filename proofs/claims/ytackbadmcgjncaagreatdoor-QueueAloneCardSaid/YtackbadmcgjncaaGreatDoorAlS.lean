/- The walk of sc.New: a machine of one code. -/
import Derived.Test.YtackbadmcgjncaaGreatDoorAlK
import Derived.Test.YtackbadmcgjncaaGreatDoorAlN
import Derived.Deep.RegionHeldLaw
import Derived.Deep.AppendLies
import Derived.Deep.DeepMust
set_option linter.unusedVariables false
set_option linter.unusedSimpArgs false
set_option maxRecDepth 20000
namespace Go.Proofs.YtackbadmcgjncaaGreatDoor.As
open Go.RowKit

theorem infoC : (Tryz.prog.info? 38).map (fun i => (i.zero, i.size, i.bytes)) = some (some (.slice none 0 0), 1, 24) := by kernel_rfl
theorem one_flat (l : List Ins) : ∀ u ∈ flat l, u.oneCell' = true := by
  intro u hu
  obtain ⟨x, _, hx⟩ := List.mem_flatMap.1 hu
  simp only [Ins.cells, List.mem_cons, List.not_mem_nil, or_false] at hx
  rcases hx with rfl | rfl | rfl | rfl | rfl <;> rfl
theorem own_form {W : World} {base : Nat} {e : TypeId} {size : Nat} {v : Value} {k : Nat} {xs : List Value} (h : W.ownsRow base e size v k xs) (hk : 0 < k) : ∃ g cap, v = .slice (some ⟨g, 0, none⟩) k cap := by
  rcases h.2 with ⟨_, h0⟩ | ⟨g, cap, _, rfl, _⟩
  · omega
  · exact ⟨g, cap, rfl⟩
theorem own_mono {w : World} {b b' : Nat} {e : TypeId} {size n : Nat} {v : Value} {xs : List Value} (h : w.ownsRow b e size v n xs) (hb : b' ≤ b) : w.ownsRow b' e size v n xs := by
  obtain ⟨h1, h2⟩ := h
  refine ⟨h1, h2.imp id ?_⟩
  rintro ⟨g, cap, cur, a1, a2, a3⟩
  exact ⟨g, cap, cur, a1, by omega, a3⟩
theorem insof {w : World} {v : Value} {n : Nat} {L : List Ins} (h : Rd w 5 v n (flat L)) (hl : L.length = n) : InS w v n L := by
  obtain ⟨A, cap, rfl, hc, hl2, h⟩ := h
  refine ⟨hl, A, cap, rfl, fun hn => ?_⟩
  rcases h with ⟨_, h⟩ | h
  · omega
  · exact h
/-- A machine whose codes are still to come. -/
def N0 (w W : World) (mb tb mm mc : Nat) (mem : List Int) : Prop :=
  W.heap[mb]? = some (.cells #[.slice none 0 0, .slice (some ⟨tb, 0, none⟩) 1 1, .slice (some ⟨mm, 0, none⟩) mem.length mc, .slice none 0 0, .slice none 0 0, .int .i64 0] 153 (0, 0)) ∧ W.heap[tb]? = some (.cells #[.int .i64 0, .int .u32 0, .int .u32 0, .int .u32 0, .int .u32 0, .int .u32 0, .int .u32 0, .int .u32 0, .int .u32 0, .int .i64 0] 107 (0, 0)) ∧ W.ownsRow w.heap.size 41 1 (.slice (some ⟨mm, 0, none⟩) mem.length mc) mem.length (w32 mem) ∧ mm ≠ mb ∧ tb ≠ mb ∧ mm ≠ tb ∧ w.heap.size ≤ tb ∧ w.heap.size ≤ mb ∧ Below w.heap.size w W
/-- A machine with its code. -/
def N1 (w W : World) (mb tb mm mc len : Nat) (mem : List Int) (L : List Ins) : Prop :=
  ∃ cb2 ccap2 g2 cap2, W.heap[mb]? = some (.cells #[.slice (some ⟨cb2, 0, none⟩) 1 ccap2, .slice (some ⟨tb, 0, none⟩) 1 1, .slice (some ⟨mm, 0, none⟩) mem.length mc, .slice none 0 0, .slice none 0 0, .int .i64 0] 153 (0, 0)) ∧ W.heap[tb]? = some (.cells #[.int .i64 0, .int .u32 0, .int .u32 0, .int .u32 0, .int .u32 0, .int .u32 0, .int .u32 0, .int .u32 0, .int .u32 0, .int .i64 0] 107 (0, 0)) ∧ W.ownsRow w.heap.size 41 1 (.slice (some ⟨mm, 0, none⟩) mem.length mc) mem.length (w32 mem) ∧ mm ≠ mb ∧ tb ≠ mb ∧ mm ≠ tb ∧ w.heap.size ≤ tb ∧ w.heap.size ≤ mb ∧ Below w.heap.size w W ∧ W.cell? ⟨cb2, 0, none⟩ = some (.slice (some ⟨g2, 0, none⟩) len cap2) ∧ W.ownsRow w.heap.size 63 5 (.slice (some ⟨g2, 0, none⟩) len cap2) len (flat L) ∧ cb2 ≠ mb ∧ cb2 ≠ tb ∧ cb2 ≠ mm ∧ g2 ≠ mb ∧ g2 ≠ mm ∧ w.heap.size ≤ cb2
theorem N1.done {w W : World} {mb tb mm mc len : Nat} {mem : List Int} {L : List Ins} (h : N1 w W mb tb mm mc len mem L) (hm : L.length = len) :
    ∃ mb2 mm mc tb tcap cb2 ccap2 g2 cap2, (Ending.returned (.tuple #[.pointer (some ⟨mb, 0, none⟩), .int .i64 0])) = .returned (.tuple #[.pointer (some ⟨mb2, 0, none⟩), .int .i64 0]) ∧
      ScM (fun k => k < w.heap.size ∨ k = tb ∨ k = cb2 ∨ k = g2) W mb2 mm mc w.heap.size (.slice (some ⟨cb2, 0, none⟩) 1 ccap2) (.slice (some ⟨tb, 0, none⟩) 1 tcap) (.slice none 0 0) ⟨mem, [], 0⟩ ∧ ThB W tb th0 ∧ W.cell? ⟨cb2, 0, none⟩ = some (.slice (some ⟨g2, 0, none⟩) len cap2) ∧ InS W (.slice (some ⟨g2, 0, none⟩) len cap2) len L ∧ Below w.heap.size w W ∧ mem.length ≤ mc ∧ w.heap.size ≤ tb ∧ cb2 ≠ tb ∧ g2 ≠ tb := by
  obtain ⟨cb2, ccap2, g2, cap2, h1, h2, h3, n1, n2, n3, n4, n5, hB, hc, hi, m1, m2, m3, m4, m5, m6⟩ := h
  have hmm : w.heap.size ≤ mm ∧ mm < W.heap.size := h3.lt mm rfl
  have hgg : w.heap.size ≤ g2 ∧ g2 < W.heap.size := hi.lt g2 rfl
  have htl : tb < W.heap.size := (Array.getElem?_eq_some_iff.1 h2).1
  have hcl : cb2 < W.heap.size := block_lt_of_cell hc
  have hR := Rd.of_own h3
  have hmc : mem.length ≤ mc := by
    obtain ⟨A, cap', q, hcap, _⟩ := hR
    injection q with q1 q2 q3
    subst q3; exact hcap
  obtain ⟨arr, ha, hcont, hsz⟩ : ∃ arr, W.heap[mm]? = some (.cells arr 41 (0, 0)) ∧ (∀ (j : Nat) v, mem[j]? = some v → arr[j]? = some (.int .u32 v)) ∧ mem.length ≤ arr.size := by
    rcases h3.2 with ⟨e, _⟩ | ⟨g', cap', cur, e, _, hh, hcc, _, hsz, ht⟩
    · cases e
    · injection e with e1 e2 e3
      injection e1 with e1
      injection e1 with e1
      subst e1; subst e3
      refine ⟨cur, hh, fun j v hv => ?_, by omega⟩
      have hj : j < mem.length := (List.getElem?_eq_some_iff.1 hv).1
      have e5 : (cur.toList.take (mem.length * 1))[j]? = some (.int .u32 v) := by
        rw [ht]; simp [w32, hv]
      rw [List.getElem?_take, if_pos (by omega)] at e5
      simpa using e5
  have hgt : g2 ≠ tb := by
    intro e
    subst e
    rcases hi.2 with ⟨e, _⟩ | ⟨g', cap', cur, e, _, hh, _⟩
    · cases e
    · injection e with e1 e2 e3
      injection e1 with e1
      injection e1 with e1
      subst e1
      rw [h2] at hh
      injection hh with hh
      injection hh with _ hh
      exact absurd hh (by decide)
  refine ⟨mb, mm, mc, tb, 1, cb2, ccap2, g2, cap2, rfl, ⟨n1, ?_, ?_, ?_, hB.size, hmm.2, .slice none 0 0, arr, h1, ha, hcont, hsz, World.ownsRow_nil _ _ _ _, by simp [Value.ownBlock], by simp [Value.ownBlock], by simp [Value.ownBlock]⟩, ⟨rfl, h2⟩, hc, insof (Rd.of_own hi) hm, hB, hmc, n4, m2, hgt⟩
  · rintro (e | e | e | e) <;> omega
  · rintro (e | e | e | e) <;> omega
  · rintro k (e | e | e | e)
    · have := hB.size; omega
    all_goals omega
theorem own_eq {g n c k : Nat} (h : (Value.slice (some ⟨g, 0, none⟩) n c).ownBlock = some k) : g = k := by simpa [Value.ownBlock] using h
theorem N0.coded {w wr w3 w4 : World} {mb tb mm mc len g2 cap2 gc capc : Nat} {mem : List Int} {L : List Ins} (h : N0 w wr mb tb mm mc mem) (h3 : w3.ownsRow wr.drew.heap.size 63 5 (.slice (some ⟨g2, 0, none⟩) len cap2) len (flat L)) (b3 : Below wr.drew.heap.size wr.drew w3)
    (ho : w4.ownsRow w.heap.size 38 1 (.slice (some ⟨gc, 0, none⟩) (0 + 1) capc) (0 + 1) ([] ++ [.slice (some ⟨g2, 0, none⟩) len cap2])) (hgr : (w3.alloc (.cells #[.slice (some ⟨g2, 0, none⟩) len cap2] 38)).grownBy w4 (Value.slice none 0 0).ownBlock) (hat : (Value.slice none 0 0).ownBlock = some gc ∨ gc = w3.heap.size + 1) :
    N1 w (w4.setCell ⟨mb, 0, none⟩ (.slice (some ⟨gc, 0, none⟩) 1 capc)) mb tb mm mc len mem L := by
  obtain ⟨h1, h2, hm, n1, n2, n3, n4, n5, hB⟩ := h
  have hgc : gc = w3.heap.size + 1 := by
    rcases hat with e | e
    · cases e
    · exact e
  have hz : wr.heap.size ≤ w3.heap.size := b3.size
  have hwz := hB.size
  have hg2 := h3.lt g2 rfl
  simp only [World.size_drew] at hg2
  have hmm := hm.lt mm rfl
  have hml : mb < wr.heap.size := (Array.getElem?_eq_some_iff.1 h1).1
  have htl : tb < wr.heap.size := (Array.getElem?_eq_some_iff.1 h2).1
  have hO1 : Only (fun _ => False) wr (w3.alloc (.cells #[.slice (some ⟨g2, 0, none⟩) len cap2] 38)) := on_alloc (Only.of_below (F := fun _ => False) ((bl_drew (Below.refl wr.heap.size wr)).trans b3) (Nat.le_refl _)) _
  have hO2 : Only (fun _ => False) (w3.alloc (.cells #[.slice (some ⟨g2, 0, none⟩) len cap2] 38)) w4 := ⟨hgr.os, hgr.tape, hgr.output, hgr.size, fun k hk _ => hgr.block k hk (by simp [Value.ownBlock])⟩
  have hO3 : Only (fun k => k = mb) w4 (w4.setCell ⟨mb, 0, none⟩ (.slice (some ⟨gc, 0, none⟩) 1 capc)) := Only.set1 (F := fun k => k = mb) (p := ⟨mb, 0, none⟩) (Only.refl _ _) rfl _
  have hO4 : Only (fun _ => False) wr w4 := hO1.trans hO2 (fun _ e => e.elim)
  have hO5 : Only (fun k => k = mb) wr (w4.setCell ⟨mb, 0, none⟩ (.slice (some ⟨gc, 0, none⟩) 1 capc)) := (hO4.mono (fun _ e => e.elim)).trans hO3 (fun _ e => .inl e)
  have hm4 := (hO4.block mb hml (fun e => e)).trans h1
  have hi4 : (w4.setCell ⟨mb, 0, none⟩ (.slice (some ⟨gc, 0, none⟩) 1 capc)).ownsRow w.heap.size 63 5 (.slice (some ⟨g2, 0, none⟩) len cap2) len (flat L) :=
    own_only (own_only (own_mono (h3.alloc _) (by simp; omega)) hO2 (fun _ _ e => e)) hO3 (fun k e f => by have := own_eq e; omega)
  have hcc : (w4.setCell ⟨mb, 0, none⟩ (.slice (some ⟨gc, 0, none⟩) 1 capc)).cell? ⟨gc, 0, none⟩ = some (.slice (some ⟨g2, 0, none⟩) len cap2) := by
    refine (World.cell?_of_block (w := w4) (a := ⟨gc, 0, none⟩) (hO3.block gc ?_ (by show ¬ gc = mb; omega))).trans ?_
    · exact (ho.lt gc rfl).2
    · have := ho.cells (g := gc) rfl 0 _ rfl
      rw [add_at] at this
      simpa using this
  refine ⟨gc, capc, g2, cap2, (heap_setCell_same _ mb 0 _ _ _ hm4).trans (by simp), (hO5.block tb htl n2).trans h2, own_only hm hO5 (fun k e f => by have := own_eq e; omega), n1, n2, n3, n4, n5, ?_, hcc, hi4, by omega, by omega, by omega, by omega, by omega, by omega⟩
  exact ⟨hO5.os.trans hB.os, hO5.tape.trans hB.tape, hO5.output.trans hB.output, Nat.le_trans hB.size hO5.size, fun k hk => (hO5.block k (by omega) (by omega)).trans (hB.block k hk)⟩
set_option maxHeartbeats 4000000 in
theorem new_sc (w : World) (T : TabI w) (cb ccap g len cap : Nat) (L : List Ins) (mv : Value) (mem : List Int) (hcb : w.cell? ⟨cb, 0, none⟩ = some (.slice (some ⟨g, 0, none⟩) len cap)) (hLR : Rd w 5 (.slice (some ⟨g, 0, none⟩) len cap) len (flat L)) (hLl : L.length = len) (hr : ∀ x ∈ L, rightI x len = true) (hlen : len ≤ 4000) (hlen0 : 0 < len) (hm : mem.length ≤ 1024) (hm0 : 0 < mem.length) (hmv : Rd w 1 mv mem.length (w32 mem)) :
    Calls Tryz.prog 49 #[.agg #[.slice (some ⟨cb, 0, none⟩) 1 ccap, mv, .int .i64 1]] w fun e w' => ∃ mb mm mc tb tcap cb2 ccap2 g2 cap2, e = .returned (.tuple #[.pointer (some ⟨mb, 0, none⟩), .int .i64 0]) ∧
      ScM (fun k => k < w.heap.size ∨ k = tb ∨ k = cb2 ∨ k = g2) w' mb mm mc w.heap.size (.slice (some ⟨cb2, 0, none⟩) 1 ccap2) (.slice (some ⟨tb, 0, none⟩) 1 tcap) (.slice none 0 0) ⟨mem, [], 0⟩ ∧ ThB w' tb th0 ∧ w'.cell? ⟨cb2, 0, none⟩ = some (.slice (some ⟨g2, 0, none⟩) len cap2) ∧ InS w' (.slice (some ⟨g2, 0, none⟩) len cap2) len L ∧ Below w.heap.size w w' ∧ mem.length ≤ mc ∧ w.heap.size ≤ tb ∧ cb2 ≠ tb ∧ g2 ≠ tb := by
  obtain ⟨ma, mcap, rfl⟩ := hmv.form
  have HT := Lib.hid T
  obtain ⟨i0, hi, hz0, hz1, hz2⟩ := info_parts infoC
  have hL := insof hLR hLl
  have HL := Lib.hid hL
  have HLR := Lib.hid hLR
  have HR := Lib.hid hr
  have HM := Lib.hid hmv
  have hck := check_any (w.alloc (.cells #[.slice (some ⟨cb, 0, none⟩) 1 ccap, .slice ma mem.length mcap, .int .i64 1] 46 (0, 0))) (T.below ((Below.refl w.heap.size w).alloc (Nat.le_refl _) _) (Nat.le_refl _)) cb ccap g len cap mem.length mcap L ma (alloc_cell1 hcb) (hL.below ((Below.refl w.heap.size w).alloc (Nat.le_refl _) _) (Nat.le_refl _)) hr hlen hm
  clear T hL hr hmv hLR
  go_enter Tryz.func49, Tryz.ntmps49
  go_wp2_with (go_at_call 34; refine hck.mono ?_; rintro r w1 ⟨rfl, hb1⟩; have x0 : w1.cell? ⟨w.heap.size, 0, none⟩ = some (.slice (some ⟨cb, 0, none⟩) 1 ccap) := cell_of_row w1 w.heap.size 0 _ _ _ ((hb1.block w.heap.size (by simp)).trans (heap_alloc_new _ _)); have x1 : w1.cell? ⟨w.heap.size, 1, none⟩ = some (.slice ma mem.length mcap) := cell_of_row w1 w.heap.size 1 _ _ _ ((hb1.block w.heap.size (by simp)).trans (heap_alloc_new _ _)))
  have HW1 := Lib.hid (((Below.refl w.heap.size w).alloc (Nat.le_refl _) (.cells #[.slice (some ⟨cb, 0, none⟩) 1 ccap, .slice ma mem.length mcap, .int .i64 1] 46 (0, 0))).trans (hb1.mono (by simp)))
  have hsz1 : w.heap.size < w1.heap.size := by have := hb1.size; simp at this; omega
  clear hb1 hck
  have hmk : ∀ W, (Instr.makeSlice 87 (.int .i64 1) (.int .i64 1)).run Tryz.prog W = .ok (.slice (some ⟨W.heap.size, 0, none⟩) 1 1) (W.alloc (.cells #[.int .i64 0, .int .u32 0, .int .u32 0, .int .u32 0, .int .u32 0, .int .u32 0, .int .u32 0, .int .u32 0, .int .u32 0, .int .i64 0] 107 (0, 0))) := fun _ => by kernel_rfl
  have hA := cloneW_any w1.drew (.slice ma mem.length mcap) mem.length (w32 mem) (Rd.drew (HM.out.below HW1.out (Nat.le_refl _))) (by omega) (one_w32 _)
  have hB := cloneW_any (w1.alloc (.cells #[.int .i64 0, .int .u32 0, .int .u32 0, .int .u32 0, .int .u32 0, .int .u32 0, .int .u32 0, .int .u32 0, .int .u32 0, .int .i64 0] 107 (0, 0))).drew (.slice ma mem.length mcap) mem.length (w32 mem) (Rd.drew ((HM.out.below HW1.out (Nat.le_refl _)).alloc _)) (by omega) (one_w32 _)
  have X0 : w1.drew.cell? ⟨w.heap.size, 0, none⟩ = some (.slice (some ⟨cb, 0, none⟩) 1 ccap) := x0
  have X1 : w1.drew.cell? ⟨w.heap.size, 1, none⟩ = some (.slice ma mem.length mcap) := x1
  have Y0 : (w1.alloc (.cells #[.int .i64 0, .int .u32 0, .int .u32 0, .int .u32 0, .int .u32 0, .int .u32 0, .int .u32 0, .int .u32 0, .int .u32 0, .int .i64 0] 107 (0, 0))).drew.cell? ⟨w.heap.size, 0, none⟩ = some (.slice (some ⟨cb, 0, none⟩) 1 ccap) := alloc_cell1 x0
  have Y1 : (w1.alloc (.cells #[.int .i64 0, .int .u32 0, .int .u32 0, .int .u32 0, .int .u32 0, .int .u32 0, .int .u32 0, .int .u32 0, .int .u32 0, .int .i64 0] 107 (0, 0))).drew.cell? ⟨w.heap.size, 1, none⟩ = some (.slice ma mem.length mcap) := alloc_cell1 x1
  go_region_held3 (fun w' => w'.cell? ⟨w.heap.size, 0, none⟩ = some (.slice (some ⟨cb, 0, none⟩) 1 ccap) ∧ w'.cell? ⟨w.heap.size, 1, none⟩ = some (.slice ma mem.length mcap)) ((refine And.intro ?_ ?_) <;> first | with_reducible assumption | (with_reducible refine alloc_cell1 ?_; with_reducible assumption) | (with_reducible refine alloc_cell1 (alloc_cell1 ?_); with_reducible assumption)) (first
    | (go_at_call 35; with_reducible refine hA.mono ?_; rintro r w2 ⟨v', rfl, hown, hb2⟩; obtain ⟨mm, mc, rfl⟩ := own_form hown hm0; have e0 : w2.cell? ⟨w.heap.size, 0, none⟩ = some (.slice (some ⟨cb, 0, none⟩) 1 ccap) := (hb2.cell (p := ⟨w.heap.size, 0, none⟩) (by simp; omega)).trans X0; have e1 : w2.cell? ⟨w.heap.size, 1, none⟩ = some (.slice ma mem.length mcap) := (hb2.cell (p := ⟨w.heap.size, 1, none⟩) (by simp; omega)).trans X1)
    | (go_at_call 35; with_reducible refine hB.mono ?_; rintro r w2 ⟨v', rfl, hown, hb2⟩; obtain ⟨mm, mc, rfl⟩ := own_form hown hm0; have e0 : w2.cell? ⟨w.heap.size, 0, none⟩ = some (.slice (some ⟨cb, 0, none⟩) 1 ccap) := (hb2.cell (p := ⟨w.heap.size, 0, none⟩) (by simp; omega)).trans Y0; have e1 : w2.cell? ⟨w.heap.size, 1, none⟩ = some (.slice ma mem.length mcap) := (hb2.cell (p := ⟨w.heap.size, 1, none⟩) (by simp; omega)).trans Y1))
  · obtain ⟨mb, hmb⟩ : ∃ mb, w2.heap.size + 1 = mb := ⟨_, rfl⟩
    obtain ⟨tb, htb⟩ : ∃ tb, w2.heap.size = tb := ⟨_, rfl⟩
    have HN : Hid (N0 w ((w2.alloc (.cells #[.int .i64 0, .int .u32 0, .int .u32 0, .int .u32 0, .int .u32 0, .int .u32 0, .int .u32 0, .int .u32 0, .int .u32 0, .int .i64 0] 107)).alloc (.cells #[.slice none 0 0, .slice (some ⟨tb, 0, none⟩) 1 1, .slice (some ⟨mm, 0, none⟩) mem.length mc, .slice none 0 0, .slice none 0 0, .int .i64 0] 153 (0, 0))) mb tb mm mc mem) := by
      have hz2 : w1.heap.size ≤ w2.heap.size := hb2.size
      have hB2 : Below w.heap.size w w2 := HW1.out.trans ((bl_drew (Below.refl w.heap.size w1)).trans (hb2.mono (by simp; omega)))
      have hml := hown.lt mm rfl
      simp only [World.size_drew] at hml
      refine ⟨by rw [← hmb, ← World.size_alloc w2 (.cells #[.int .i64 0, .int .u32 0, .int .u32 0, .int .u32 0, .int .u32 0, .int .u32 0, .int .u32 0, .int .u32 0, .int .u32 0, .int .i64 0] 107)]; exact heap_alloc_new _ _, ?_, ?_, by omega, by omega, by omega, by omega, by omega, (hB2.alloc hB2.size _).alloc (by simp; omega) _⟩
      · rw [← htb]; exact (Below.heap_alloc _ _ _ (by simp)).trans (heap_alloc_new _ _)
      · exact own_mono ((hown.alloc _).alloc _) (by simp; omega)
    rw [hmb, htb]
    have xF : ((w2.alloc (.cells #[.int .i64 0, .int .u32 0, .int .u32 0, .int .u32 0, .int .u32 0, .int .u32 0, .int .u32 0, .int .u32 0, .int .u32 0, .int .i64 0] 107)).alloc (.cells #[.slice none 0 0, .slice (some ⟨tb, 0, none⟩) 1 1, .slice (some ⟨mm, 0, none⟩) mem.length mc, .slice none 0 0, .slice none 0 0, .int .i64 0] 153 (0, 0))).cell? ⟨w.heap.size, 0, none⟩ = some (.slice (some ⟨cb, 0, none⟩) 1 ccap) := alloc_cell1 (alloc_cell1 e0)
    generalize ((w2.alloc (.cells #[.int .i64 0, .int .u32 0, .int .u32 0, .int .u32 0, .int .u32 0, .int .u32 0, .int .u32 0, .int .u32 0, .int .u32 0, .int .i64 0] 107)).alloc (.cells #[.slice none 0 0, .slice (some ⟨tb, 0, none⟩) 1 1, .slice (some ⟨mm, 0, none⟩) mem.length mc, .slice none 0 0, .slice none 0 0, .int .i64 0] 153 (0, 0))) = WF at *
    clear e0 e1 hown hb2 hA hB X0 X1 Y0 Y1 x0 x1 hmk
    go_wp2_with fail
    go_loopw [31] (fun iv wr => (iv = .int .i64 0 ∧ Hid (N0 w wr mb tb mm mc mem)) ∨ (iv = .int .i64 1 ∧ Hid (N1 w wr mb tb mm mc len mem L))) (fun i _ => 1 - (intOf i).toNat)
    case atStart => exact .inl ⟨rfl, HN⟩
    case round =>
      clear HN
      rcases hrel with ⟨rfl, HN⟩ | ⟨rfl, HN⟩
      · have HN' := HN.out
        have hmB := HN'.1
        have hBw := HN'.2.2.2.2.2.2.2.2
        have hC := (hBw.cell (p := ⟨cb, 0, none⟩) (block_lt_of_cell hcb)).trans hcb
        have hcl := clone_any wr.drew (.slice (some ⟨g, 0, none⟩) len cap) len (flat L) (Rd.drew (HLR.out.below hBw (Nat.le_refl _))) (by omega) (one_flat _)
        have q0 : wr.cell? ⟨mb, 0, none⟩ = some (.slice none 0 0) := cell_of_row wr mb 0 _ _ _ hmB
        have q1 : wr.drew.cell? ⟨mb, 0, none⟩ = some (.slice none 0 0) := q0
        have hwz := hBw.size
        have hmlt : mb < wr.heap.size := (Array.getElem?_eq_some_iff.1 hmB).1
        clear HN' hmB hBw
        go_wp2_with fail
        go_region_law (first
          | (refine step_append_lies _ (by rfl) (.tmp 39) (.tmp 42) 43 (by rfl) w.heap.size 38 i0 _ 1 24 Tryz.underlying43 hi hz0 hz1 hz2 (by rfl) (by decide) (.slice none 0 0) 0 [] (by rfl) (World.ownsRow_nil _ _ _ _) ⟨w3.heap.size, 0, none⟩ 1 1 [.slice (some ⟨g2, 0, none⟩) len cap2] (by rfl) (by rfl) (cell_one_new _ _ _) (by simp [Value.oneCell']) (by decide) (by unfold maxLen; omega) (by omega) (by simp at hz3 ⊢; omega) (w3.heap.size + 1) (by simp) ?_; intro gc capc w4 ho hgr hat hlt4; have k0 : w4.heap[mb]? = wr.heap[mb]? := (hgr.block mb (by simp at hz3 ⊢; omega) (by simp [Value.ownBlock])).trans ((Below.heap_alloc _ _ _ (by simp at hz3; omega)).trans (B3.out.block mb (by simp; omega))); have k1 := k0.trans HN.out.1; have k2 : w4.cell? ⟨mb, 0, none⟩ = some (.slice none 0 0) := cell_of_row w4 mb 0 _ _ _ k1; have k3 := frozen_of_row w4 mb 0 _ _ k1)
          | (go_simp; go_at_call 37; go_must (with_reducible refine hcl.mono ?_; rintro r w3 ⟨v3, rfl, hown3, hb3⟩; obtain ⟨g2, cap2, rfl⟩ := own_form hown3 hlen0; have H3 := Lib.hid hown3; have B3 := Lib.hid hb3; have hz3 := hb3.size; have q3 : w3.cell? ⟨mb, 0, none⟩ = some (.slice none 0 0) := (hb3.cell (p := ⟨mb, 0, none⟩) (by simp; omega)).trans q1; have q4 : (w3.alloc (.cells #[.slice (some ⟨g2, 0, none⟩) len cap2] 38)).cell? ⟨mb, 0, none⟩ = some (.slice none 0 0) := alloc_cell1 q3; clear hown3 hb3)))
        all_goals go_wp2_with fail
        all_goals exact ⟨.inr ⟨rfl, Lib.hid (HN.out.coded H3.out B3.out ho hgr hat)⟩, by simp [intOf]⟩
      · go_wp2_with fail
        go_ret2
        exact HN.out.done hLl
  · obtain ⟨mb, hmb⟩ : ∃ mb, w2.heap.size = mb := ⟨_, rfl⟩
    obtain ⟨tb, htb⟩ : ∃ tb, w1.heap.size = tb := ⟨_, rfl⟩
    have HN : Hid (N0 w (w2.alloc (.cells #[.slice none 0 0, .slice (some ⟨tb, 0, none⟩) 1 1, .slice (some ⟨mm, 0, none⟩) mem.length mc, .slice none 0 0, .slice none 0 0, .int .i64 0] 153 (0, 0))) mb tb mm mc mem) := by
      have hz2 : w1.heap.size + 1 ≤ w2.heap.size := by have := hb2.size; simp at this; omega
      have hB2 : Below w.heap.size w w2 := (HW1.out.alloc HW1.out.size _).trans ((bl_drew (Below.refl w.heap.size _)).trans (hb2.mono (by simp; omega)))
      have hml := hown.lt mm rfl
      simp only [World.size_drew, World.size_alloc] at hml
      refine ⟨by rw [← hmb]; exact heap_alloc_new _ _, ?_, ?_, by omega, by omega, by omega, by omega, by omega, hB2.alloc hB2.size _⟩
      · rw [← htb]; exact (Below.heap_alloc _ _ _ (by omega)).trans ((hb2.block _ (by simp)).trans (heap_alloc_new _ _))
      · exact own_mono (hown.alloc _) (by simp; omega)
    rw [hmb, htb]
    have xF : (w2.alloc (.cells #[.slice none 0 0, .slice (some ⟨tb, 0, none⟩) 1 1, .slice (some ⟨mm, 0, none⟩) mem.length mc, .slice none 0 0, .slice none 0 0, .int .i64 0] 153 (0, 0))).cell? ⟨w.heap.size, 0, none⟩ = some (.slice (some ⟨cb, 0, none⟩) 1 ccap) := alloc_cell1 e0
    generalize (w2.alloc (.cells #[.slice none 0 0, .slice (some ⟨tb, 0, none⟩) 1 1, .slice (some ⟨mm, 0, none⟩) mem.length mc, .slice none 0 0, .slice none 0 0, .int .i64 0] 153 (0, 0))) = WF at *
    clear e0 e1 hown hb2 hA hB X0 X1 Y0 Y1 x0 x1 hmk
    go_wp2_with fail
    go_loopw [31] (fun iv wr => (iv = .int .i64 0 ∧ Hid (N0 w wr mb tb mm mc mem)) ∨ (iv = .int .i64 1 ∧ Hid (N1 w wr mb tb mm mc len mem L))) (fun i _ => 1 - (intOf i).toNat)
    case atStart => exact .inl ⟨rfl, HN⟩
    case round =>
      clear HN
      rcases hrel with ⟨rfl, HN⟩ | ⟨rfl, HN⟩
      · have HN' := HN.out
        have hmB := HN'.1
        have hBw := HN'.2.2.2.2.2.2.2.2
        have hC := (hBw.cell (p := ⟨cb, 0, none⟩) (block_lt_of_cell hcb)).trans hcb
        have hcl := clone_any wr.drew (.slice (some ⟨g, 0, none⟩) len cap) len (flat L) (Rd.drew (HLR.out.below hBw (Nat.le_refl _))) (by omega) (one_flat _)
        have q0 : wr.cell? ⟨mb, 0, none⟩ = some (.slice none 0 0) := cell_of_row wr mb 0 _ _ _ hmB
        have q1 : wr.drew.cell? ⟨mb, 0, none⟩ = some (.slice none 0 0) := q0
        have hwz := hBw.size
        have hmlt : mb < wr.heap.size := (Array.getElem?_eq_some_iff.1 hmB).1
        clear HN' hmB hBw
        go_wp2_with fail
        go_region_law (first
          | (refine step_append_lies _ (by rfl) (.tmp 39) (.tmp 42) 43 (by rfl) w.heap.size 38 i0 _ 1 24 Tryz.underlying43 hi hz0 hz1 hz2 (by rfl) (by decide) (.slice none 0 0) 0 [] (by rfl) (World.ownsRow_nil _ _ _ _) ⟨w3.heap.size, 0, none⟩ 1 1 [.slice (some ⟨g2, 0, none⟩) len cap2] (by rfl) (by rfl) (cell_one_new _ _ _) (by simp [Value.oneCell']) (by decide) (by unfold maxLen; omega) (by omega) (by simp at hz3 ⊢; omega) (w3.heap.size + 1) (by simp) ?_; intro gc capc w4 ho hgr hat hlt4; have k0 : w4.heap[mb]? = wr.heap[mb]? := (hgr.block mb (by simp at hz3 ⊢; omega) (by simp [Value.ownBlock])).trans ((Below.heap_alloc _ _ _ (by simp at hz3; omega)).trans (B3.out.block mb (by simp; omega))); have k1 := k0.trans HN.out.1; have k2 : w4.cell? ⟨mb, 0, none⟩ = some (.slice none 0 0) := cell_of_row w4 mb 0 _ _ _ k1; have k3 := frozen_of_row w4 mb 0 _ _ k1)
          | (go_simp; go_at_call 37; go_must (with_reducible refine hcl.mono ?_; rintro r w3 ⟨v3, rfl, hown3, hb3⟩; obtain ⟨g2, cap2, rfl⟩ := own_form hown3 hlen0; have H3 := Lib.hid hown3; have B3 := Lib.hid hb3; have hz3 := hb3.size; have q3 : w3.cell? ⟨mb, 0, none⟩ = some (.slice none 0 0) := (hb3.cell (p := ⟨mb, 0, none⟩) (by simp; omega)).trans q1; have q4 : (w3.alloc (.cells #[.slice (some ⟨g2, 0, none⟩) len cap2] 38)).cell? ⟨mb, 0, none⟩ = some (.slice none 0 0) := alloc_cell1 q3; clear hown3 hb3)))
        all_goals go_wp2_with fail
        all_goals exact ⟨.inr ⟨rfl, Lib.hid (HN.out.coded H3.out B3.out ho hgr hat)⟩, by simp [intOf]⟩
      · go_wp2_with fail
        go_ret2
        exact HN.out.done hLl
end Go.Proofs.YtackbadmcgjncaaGreatDoor.As
