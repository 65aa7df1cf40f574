/- What a machine sc tells of itself: its memory, its events, whether it is done. -/
import Derived.Test.YtackbadmcgjncaaGreatDoorAlC
set_option linter.unusedVariables false
set_option linter.unusedSimpArgs false
set_option maxRecDepth 20000
namespace Go.Proofs.YtackbadmcgjncaaGreatDoor.As
open Go.RowKit

theorem cellsX {w : World} {g : Nat} {a b c d e f h i j k : Value} {t : TypeId} (hx : w.heap[g]? = some (.cells #[a, b, c, d, e, f, h, i, j, k] t (0, 0))) :
    w.cell? ⟨g, 0, none⟩ = some a ∧ w.cell? ⟨g, 1, none⟩ = some b ∧ w.cell? ⟨g, 2, none⟩ = some c ∧ w.cell? ⟨g, 3, none⟩ = some d ∧ w.cell? ⟨g, 4, none⟩ = some e ∧ w.cell? ⟨g, 5, none⟩ = some f ∧ w.cell? ⟨g, 6, none⟩ = some h ∧ w.cell? ⟨g, 7, none⟩ = some i ∧ w.cell? ⟨g, 8, none⟩ = some j ∧ w.cell? ⟨g, 9, none⟩ = some k :=
  ⟨cell_of_row w g 0 _ _ _ hx, cell_of_row w g 1 _ _ _ hx, cell_of_row w g 2 _ _ _ hx, cell_of_row w g 3 _ _ _ hx, cell_of_row w g 4 _ _ _ hx, cell_of_row w g 5 _ _ _ hx, cell_of_row w g 6 _ _ _ hx, cell_of_row w g 7 _ _ _ hx, cell_of_row w g 8 _ _ _ hx, cell_of_row w g 9 _ _ _ hx⟩
theorem one_w32 (l : List Int) : ∀ u ∈ w32 l, u.oneCell' = true := by
  intro u hu
  obtain ⟨x, _, rfl⟩ := List.mem_map.1 hu
  rfl
theorem one_ev (l : List Ev) : ∀ u ∈ flatE l, u.oneCell' = true := by
  intro u hu
  obtain ⟨x, _, hx⟩ := List.mem_flatMap.1 hu
  simp only [Ev.cells, List.mem_cons, List.not_mem_nil, or_false] at hx
  rcases hx with rfl | rfl | rfl | rfl | rfl | rfl | rfl | rfl <;> rfl
theorem mem_sc (Z : Nat → Prop) (w : World) (mb mm mc b0 : Nat) (cv tv kv : Value) (s : Sc) (h : ScM Z w mb mm mc b0 cv tv kv s) (hmc : s.mem.length ≤ mc) (hl : s.mem.length ≤ 1024) :
    Calls Tryz.prog 54 #[.pointer (some ⟨mb, 0, none⟩)] w fun e w' => ∃ v, e = .returned v ∧ w'.ownsRow w.heap.size 41 1 v s.mem.length (w32 s.mem) ∧ Below w.heap.size w w' := by
  obtain ⟨_, _, _, _, _, hmm, ev, arr, hb, hm, hc, hs, _⟩ := h
  have c2 : w.cell? ⟨mb, 2, none⟩ = some (.slice (some ⟨mm, 0, none⟩) s.mem.length mc) := cell_of_row w mb 2 _ _ _ hb
  have hrd : Rd w 1 (.slice (some ⟨mm, 0, none⟩) s.mem.length mc) s.mem.length (w32 s.mem) := ⟨_, _, rfl, hmc, by simp [w32], .inr ⟨mm, 0, rfl, hmm, fun j u hu => by
    obtain ⟨x, hx, rfl⟩ : ∃ x, s.mem[j]? = some x ∧ Value.int .u32 x = u := by simpa [w32] using hu
    rw [Nat.zero_add]
    exact (cell_of_row w mm j _ _ _ hm).trans (hc j x hx)⟩⟩
  have HR := Lib.hid hrd
  clear hb hm hc hs hrd
  go_enter Tryz.func54, Tryz.ntmps54
  go_wp2_with (go_at_call 35; refine (cloneW_any _ _ _ _ HR.out (by omega) (one_w32 _)).mono ?_; rintro r w1 ⟨v, rfl, ho, hB⟩)
  go_ret
  exact ⟨_, rfl, ho, hB⟩
theorem events_sc (Z : Nat → Prop) (w : World) (mb mm mc b0 : Nat) (cv tv kv : Value) (s : Sc) (h : ScM Z w mb mm mc b0 cv tv kv s) (hn : s.evs.length ≤ 1000000) :
    Calls Tryz.prog 53 #[.pointer (some ⟨mb, 0, none⟩)] w fun e w' => ∃ v, e = .returned v ∧ w'.ownsRow w.heap.size 59 8 v s.evs.length (flatE s.evs) ∧ Below w.heap.size w w' := by
  obtain ⟨_, _, _, _, _, hmm, ev, arr, hb, hm, hc, hs, ho, _⟩ := h
  have c4 : w.cell? ⟨mb, 4, none⟩ = some ev := cell_of_row w mb 4 _ _ _ hb
  have HR := Lib.hid (Rd.of_own ho)
  clear hb hm hc hs ho
  go_enter Tryz.func53, Tryz.ntmps53
  go_wp2_with (go_at_call 42; refine (cloneE_any _ _ _ _ HR.out (by omega) (one_ev _)).mono ?_; rintro r w1 ⟨v, rfl, ho, hB⟩)
  go_ret
  exact ⟨_, rfl, ho, hB⟩
/-- A thread of a machine of one. -/
def ThB (w : World) (tb : Nat) (t : Th) : Prop := t.regs.length = 8 ∧ w.heap[tb]? = some (.cells t.cells.toArray 107 (0, 0))
theorem ThB.only {F : Nat → Prop} {w w' : World} {tb : Nat} {t : Th} (h : ThB w tb t) (ho : Only F w w') (hF : ¬ F tb) : ThB w' tb t := ⟨h.1, (ho.block tb (Array.getElem?_eq_some_iff.1 h.2).1 hF).trans h.2⟩
theorem ThB.cells {w : World} {tb : Nat} {pc st : Int} {r0 r1 r2 r3 r4 r5 r6 r7 : Int} (h : ThB w tb ⟨pc, [r0, r1, r2, r3, r4, r5, r6, r7], st⟩) :
    w.cell? ⟨tb, 0, none⟩ = some (.int .i64 pc) ∧ w.cell? ⟨tb, 1, none⟩ = some (.int .u32 r0) ∧ w.cell? ⟨tb, 2, none⟩ = some (.int .u32 r1) ∧ w.cell? ⟨tb, 3, none⟩ = some (.int .u32 r2) ∧ w.cell? ⟨tb, 4, none⟩ = some (.int .u32 r3) ∧ w.cell? ⟨tb, 5, none⟩ = some (.int .u32 r4) ∧ w.cell? ⟨tb, 6, none⟩ = some (.int .u32 r5) ∧ w.cell? ⟨tb, 7, none⟩ = some (.int .u32 r6) ∧ w.cell? ⟨tb, 8, none⟩ = some (.int .u32 r7) ∧ w.cell? ⟨tb, 9, none⟩ = some (.int .i64 st) := cellsX h.2
theorem done1 (w : World) (pc st r0 r1 r2 r3 r4 r5 r6 r7 : Int) (d : Bool) (hd : d = (decide (st = 0) || decide (st = 1))) :
    Calls Tryz.prog 87 #[.agg #[.int .i64 pc, .int .u32 r0, .int .u32 r1, .int .u32 r2, .int .u32 r3, .int .u32 r4, .int .u32 r5, .int .u32 r6, .int .u32 r7, .int .i64 st]] w fun e w' => e = .returned (.bool d) ∧ Below w.heap.size w w' := by
  by_cases h0 : st = 0
  · subst h0
    have : d = true := by rw [hd]; rfl
    subst this
    clear hd
    go_enter Tryz.func87, Tryz.ntmps87
    go_wp2_with fail
    go_ret
    exact ⟨rfl, (Below.refl _ w).alloc (Nat.le_refl _) _⟩
  · have d0 : (st == 0) = false := by simp [h0]
    have d1 : d = (st == 1) := by rw [hd]; by_cases h1 : st = 1 <;> simp [h0, h1]
    subst d1
    clear hd
    go_enter Tryz.func87, Tryz.ntmps87
    go_wp2_with fail
    go_ret
    exact ⟨rfl, (Below.refl _ w).alloc (Nat.le_refl _) _⟩
theorem th_on {tb : Nat} {w w' : World} {t : Th} (h : ThB w tb t) (hb : Below w.heap.size w w') : ThB w' tb t := h.only (Only.of_below (F := fun _ => False) hb (Nat.le_refl _)) (fun e => e)
set_option maxHeartbeats 1000000 in
theorem idx_any (w : World) (tb tcap : Nat) (t : Th) (hT : ThB w tb t) (d : Bool) (hd : d = (decide (t.st = 0) || decide (t.st = 1))) :
    Calls Tryz.prog 132 #[.slice (some ⟨tb, 0, none⟩) 1 tcap, .func (.func 87) #[] #[]] w fun e w' => e = .returned (.int .i64 (if d then 0 else -1)) ∧ Below w.heap.size w w' := by
  have HT := Lib.hid hT
  obtain ⟨pc, regs, st⟩ := t
  obtain ⟨r0, r1, r2, r3, r4, r5, r6, r7, rfl⟩ := list8 hT.1
  have hc := hT.cells
  have HD := Lib.hid (fun W => done1 W pc st r0 r1 r2 r3 r4 r5 r6 r7 d hd)
  obtain ⟨c0, c1, c2, c3, c4, c5, c6, c7, c8, c9⟩ := hc
  clear hd hT
  go_enter Tryz.func132, Tryz.ntmps132
  go_wp2_with fail
  go_loopw [8] (fun iv wr => (iv = .int .i64 0 ∧ Hid (wr = w)) ∨ (iv = .int .i64 1 ∧ Hid (d = false) ∧ Hid (Below w.heap.size w wr))) (fun i _ => 1 - (intOf i).toNat)
  case atStart => exact .inl ⟨rfl, rfl⟩
  case round =>
    rcases hrel with ⟨rfl, HW⟩ | ⟨rfl, H0, HB⟩
    · have hw := HW.out
      subst hw
      cases d with
      | true =>
        go_wp2_with (go_at_call 87; refine (HD.out _).mono ?_; rintro r w1 ⟨rfl, hb1⟩)
        go_ret
        exact ⟨rfl, hb1⟩
      | false =>
        go_wp2_with (go_at_call 87; refine (HD.out _).mono ?_; rintro r w1 ⟨rfl, hb1⟩)
        exact ⟨.inr ⟨rfl, Lib.hid trivial, Lib.hid hb1⟩, by simp [intOf]⟩
    · have h0 := H0.out
      subst h0
      go_wp2_with fail
      go_ret
      exact ⟨rfl, HB.out⟩
theorem contains_any (w : World) (tb tcap : Nat) (t : Th) (hT : ThB w tb t) (d : Bool) (hd : d = (decide (t.st = 0) || decide (t.st = 1))) :
    Calls Tryz.prog 86 #[.slice (some ⟨tb, 0, none⟩) 1 tcap, .func (.func 87) #[] #[]] w fun e w' => e = .returned (.bool d) ∧ Below w.heap.size w w' := by
  have HC := Lib.hid (fun W (h : ThB W tb t) => idx_any W tb tcap t h d hd)
  have HT := Lib.hid hT
  clear hT hd
  cases d with
  | true =>
    go_enter Tryz.func86, Tryz.ntmps86
    go_wp2_with (go_at_call 132; refine (HC.out _ HT.out).mono ?_; rintro r w1 ⟨rfl, hb1⟩)
    go_ret
    exact ⟨rfl, hb1⟩
  | false =>
    go_enter Tryz.func86, Tryz.ntmps86
    go_wp2_with (go_at_call 132; refine (HC.out _ HT.out).mono ?_; rintro r w1 ⟨rfl, hb1⟩)
    go_ret
    exact ⟨rfl, hb1⟩
theorem done_sc (Z : Nat → Prop) (w : World) (mb mm mc b0 : Nat) (cv tv kv : Value) (s : Sc) (h : ScM Z w mb mm mc b0 cv tv kv s) (tb tcap : Nat) (htv : tv = .slice (some ⟨tb, 0, none⟩) 1 tcap) (t : Th) (hT : ThB w tb t) :
    Calls Tryz.prog 50 #[.pointer (some ⟨mb, 0, none⟩)] w fun e w' => e = .returned (.bool (! (decide (t.st = 0) || decide (t.st = 1)))) ∧ Below w.heap.size w w' := by
  obtain ⟨_, _, _, _, _, hmm, ev, arr, hb, hm, hc, hs, ho, _⟩ := h
  subst htv
  have c1 : w.cell? ⟨mb, 1, none⟩ = some (.slice (some ⟨tb, 0, none⟩) 1 tcap) := cell_of_row w mb 1 _ _ _ hb
  obtain ⟨d, hd⟩ : ∃ d, d = (decide (t.st = 0) || decide (t.st = 1)) := ⟨_, rfl⟩
  rw [← hd]
  have HC := Lib.hid (fun W (h : ThB W tb t) => contains_any W tb tcap t h d hd)
  have HT := Lib.hid hT
  clear hb hm hc hs ho hT hd
  go_enter Tryz.func50, Tryz.ntmps50
  go_wp2_with (go_at_call 86; refine (HC.out _ HT.out).mono ?_; rintro r w1 ⟨rfl, hb1⟩)
  go_ret
  exact ⟨rfl, hb1⟩
end Go.Proofs.YtackbadmcgjncaaGreatDoor.As
