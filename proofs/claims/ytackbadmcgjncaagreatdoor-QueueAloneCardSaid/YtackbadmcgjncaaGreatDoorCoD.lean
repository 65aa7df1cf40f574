/- The walks of core.run.plain, by ways. -/
import Derived.Test.YtackbadmcgjncaaGreatDoorCoB
set_option linter.unusedVariables false
set_option linter.unusedSimpArgs false
set_option maxRecDepth 20000
namespace Go.Proofs.YtackbadmcgjncaaGreatDoor.As
open Go.RowKit


set_option maxHeartbeats 4000000 in
theorem plain_set (Z : Nat → Prop) (w : World) (rb : Nat) (n : Int) (mb mm mc b0 : Nat) (cv tv kv : Value) (s : Sc) (t : Th) (i : Ins) (ad : Int) (hR : RunB w rb n mb t i ad) (hM : ScM Z w mb mm mc b0 cv tv kv s) (hZ : Z rb) (hn : s.evs.length ≤ 999999) (hop : i.op = 1) (a : Nat) (ha : a < 8) (hia : i.a = a) :
    Calls Tryz.prog 120 #[.pointer (some ⟨rb, 0, none⟩)] w (RPost Z w rb n mb mm mc b0 cv tv kv i ad (t.put a i.k) (s)) := by
  have HM := Lib.hid hM
  have HR := Lib.hid hR
  have HZ := Lib.hid hZ
  have hlt := hR.lt
  obtain ⟨c0, c9, c10, c11, c12, c13, c14, c15, c16, c17, c18, c19, c20, c21, c22, c23, c24, c25, c26⟩ := hR.cells
  rw [hop] at c10
  have hM1 := hM.alloc (.cells #[.int .i64 1, .int .i64 ((a : Nat) : Int), .int .i64 i.b, .int .i64 i.c, .int .u32 i.k] 63)
  have hR1 := hR.alloc (.cells #[.int .i64 1, .int .i64 ((a : Nat) : Int), .int .i64 i.b, .int .i64 i.c, .int .u32 i.k] 63)
  have HM1 := Lib.hid hM1
  have HR1 := Lib.hid hR1
  have y1 := hR1.reg a ha
  have y2 := hR1.frozen (1 + a)
  have z1 := hR.reg a ha
  have z2 := hR.frozen (1 + a)
  clear hR hM hZ hM1 hR1
  go_enter Tryz.func120, Tryz.ntmps120
  go_wp2_with fail
  go_region_with (go_at_call 138; refine (reg_run _ rb n mb t i ad (RunB.drew HR1.out) a ha hia).mono ?_; rintro r w1 ⟨rfl, m, rfl⟩)
  all_goals (try go_wp2_with fail)
  all_goals go_end0
  all_goals exact ⟨rfl, RunB.put (RunB.drewN (RunB.drew HR1.out) m) a ha _, ScM.run (ScM.drewN (ScM.drew HM1.out) m) HZ.out _, Only.set1 (F := fun k => ¬ Z k ∨ k = rb) (p := ⟨rb, 1 + a, none⟩) (on_drewN (on_alloc (Only.refl _ w) _) _) (.inr rfl) _⟩

set_option maxHeartbeats 4000000 in
theorem plain_move (Z : Nat → Prop) (w : World) (rb : Nat) (n : Int) (mb mm mc b0 : Nat) (cv tv kv : Value) (s : Sc) (t : Th) (i : Ins) (ad : Int) (hR : RunB w rb n mb t i ad) (hM : ScM Z w mb mm mc b0 cv tv kv s) (hZ : Z rb) (hn : s.evs.length ≤ 999999) (hop : i.op = 2) (a : Nat) (ha : a < 8) (hia : i.a = a) (b : Nat) (hb : b < 8) (hib : i.b = b) :
    Calls Tryz.prog 120 #[.pointer (some ⟨rb, 0, none⟩)] w (RPost Z w rb n mb mm mc b0 cv tv kv i ad (t.put a (t.reg b)) (s)) := by
  have HM := Lib.hid hM
  have HR := Lib.hid hR
  have HZ := Lib.hid hZ
  have hlt := hR.lt
  obtain ⟨c0, c9, c10, c11, c12, c13, c14, c15, c16, c17, c18, c19, c20, c21, c22, c23, c24, c25, c26⟩ := hR.cells
  rw [hop] at c10
  rw [hib] at c12
  have hM1 := hM.alloc (.cells #[.int .i64 2, .int .i64 ((a : Nat) : Int), .int .i64 ((b : Nat) : Int), .int .i64 i.c, .int .u32 i.k] 63)
  have hR1 := hR.alloc (.cells #[.int .i64 2, .int .i64 ((a : Nat) : Int), .int .i64 ((b : Nat) : Int), .int .i64 i.c, .int .u32 i.k] 63)
  have HM1 := Lib.hid hM1
  have HR1 := Lib.hid hR1
  have y1 := hR1.reg a ha
  have y2 := hR1.frozen (1 + a)
  have z1 := hR.reg a ha
  have z2 := hR.frozen (1 + a)
  have y3 := hR1.reg b hb
  have z3 := hR.reg b hb
  have b1 : (b : Int) < 8 := by omega
  have b0' : (0 : Int) ≤ (b : Int) := by omega
  clear hR hM hZ hM1 hR1
  go_enter Tryz.func120, Tryz.ntmps120
  go_wp2_with fail
  go_region_with (go_at_call 138; refine (reg_run _ rb n mb t i ad (RunB.drew HR1.out) a ha hia).mono ?_; rintro r w1 ⟨rfl, m, rfl⟩)
  all_goals (try go_wp2_with fail)
  all_goals go_end0
  all_goals exact ⟨rfl, RunB.put (RunB.drewN (RunB.drew HR1.out) m) a ha _, ScM.run (ScM.drewN (ScM.drew HM1.out) m) HZ.out _, Only.set1 (F := fun k => ¬ Z k ∨ k = rb) (p := ⟨rb, 1 + a, none⟩) (on_drewN (on_alloc (Only.refl _ w) _) _) (.inr rfl) _⟩

set_option maxHeartbeats 4000000 in
theorem plain_fence (Z : Nat → Prop) (w : World) (rb : Nat) (n : Int) (mb mm mc b0 : Nat) (cv tv kv : Value) (s : Sc) (t : Th) (i : Ins) (ad : Int) (hR : RunB w rb n mb t i ad) (hM : ScM Z w mb mm mc b0 cv tv kv s) (hZ : Z rb) (hn : s.evs.length ≤ 999999) (hop : i.op = 18) :
    Calls Tryz.prog 120 #[.pointer (some ⟨rb, 0, none⟩)] w (RPost Z w rb n mb mm mc b0 cv tv kv i ad (t) (s.note ⟨5, 0, t.pc, ad, 0, 0, 0, false⟩)) := by
  have HM := Lib.hid hM
  have HR := Lib.hid hR
  have HZ := Lib.hid hZ
  have hlt := hR.lt
  obtain ⟨c0, c9, c10, c11, c12, c13, c14, c15, c16, c17, c18, c19, c20, c21, c22, c23, c24, c25, c26⟩ := hR.cells
  rw [hop] at c10
  have hM1 := hM.alloc (.cells #[.int .i64 18, .int .i64 i.a, .int .i64 i.b, .int .i64 i.c, .int .u32 i.k] 63)
  have hR1 := hR.alloc (.cells #[.int .i64 18, .int .i64 i.a, .int .i64 i.b, .int .i64 i.c, .int .u32 i.k] 63)
  have HM1 := Lib.hid hM1
  have HR1 := Lib.hid hR1
  clear hR hM hZ hM1 hR1
  go_enter Tryz.func120, Tryz.ntmps120
  go_wp2_with (go_at_call 137; refine (note_run Z _ rb n mb mm mc b0 cv tv kv s t i ad (HR1.out) (HM1.out) (by omega) ⟨5, 0, 0, 0, 0, 0, 0, false⟩).mono ?_; rintro r w2 ⟨rfl, hM2, hO2⟩)
  go_end0
  exact ⟨rfl, RunB.only HR1.out hO2 (fun h => h HZ.out), hM2, (on_alloc (Only.refl (fun k => ¬ Z k ∨ k = rb) w) _).trans hO2 (fun k e => .inl (.inl e))⟩

set_option maxHeartbeats 4000000 in
theorem plain_out (Z : Nat → Prop) (w : World) (rb : Nat) (n : Int) (mb mm mc b0 : Nat) (cv tv kv : Value) (s : Sc) (t : Th) (i : Ins) (ad : Int) (hR : RunB w rb n mb t i ad) (hM : ScM Z w mb mm mc b0 cv tv kv s) (hZ : Z rb) (hn : s.evs.length ≤ 999999) (hop : i.op = 22) (a : Nat) (ha : a < 8) (hia : i.a = a) :
    Calls Tryz.prog 120 #[.pointer (some ⟨rb, 0, none⟩)] w (RPost Z w rb n mb mm mc b0 cv tv kv i ad (t) (s.note ⟨6, 0, t.pc, ad, t.reg a, 0, 0, false⟩)) := by
  have HM := Lib.hid hM
  have HR := Lib.hid hR
  have HZ := Lib.hid hZ
  have hlt := hR.lt
  obtain ⟨c0, c9, c10, c11, c12, c13, c14, c15, c16, c17, c18, c19, c20, c21, c22, c23, c24, c25, c26⟩ := hR.cells
  rw [hop] at c10
  have hM1 := hM.alloc (.cells #[.int .i64 22, .int .i64 ((a : Nat) : Int), .int .i64 i.b, .int .i64 i.c, .int .u32 i.k] 63)
  have hR1 := hR.alloc (.cells #[.int .i64 22, .int .i64 ((a : Nat) : Int), .int .i64 i.b, .int .i64 i.c, .int .u32 i.k] 63)
  have HM1 := Lib.hid hM1
  have HR1 := Lib.hid hR1
  have y1 := hR1.reg a ha
  have y2 := hR1.frozen (1 + a)
  have z1 := hR.reg a ha
  have z2 := hR.frozen (1 + a)
  clear hR hM hZ hM1 hR1
  go_enter Tryz.func120, Tryz.ntmps120
  go_wp2_with (first | (go_at_call 138; refine (reg_run _ rb n mb t i ad HR1.out a ha hia).mono ?_; rintro r w1 ⟨rfl, m, rfl⟩; have y5 : ((w.alloc (.cells #[.int .i64 22, .int .i64 ((a : Nat) : Int), .int .i64 i.b, .int .i64 i.c, .int .u32 i.k] 63)).drewN m).cell? ⟨rb, 1 + a, none⟩ = some (.int .u32 (t.reg a)) := y1) | (go_at_call 137; refine (note_run Z _ rb n mb mm mc b0 cv tv kv s t i ad (RunB.drewN HR1.out _) (ScM.drewN HM1.out _) (by omega) ⟨6, 0, 0, 0, t.reg a, 0, 0, false⟩).mono ?_; rintro r w2 ⟨rfl, hM2, hO2⟩))
  go_end0
  exact ⟨rfl, RunB.only (RunB.drewN HR1.out _) hO2 (fun h => h HZ.out), hM2, (on_drewN (on_alloc (Only.refl (fun k => ¬ Z k ∨ k = rb) w) _) _).trans hO2 (fun k e => .inl (.inl e))⟩

set_option maxHeartbeats 4000000 in
theorem plain_remote (Z : Nat → Prop) (w : World) (rb : Nat) (n : Int) (mb mm mc b0 : Nat) (cv tv kv : Value) (s : Sc) (t : Th) (i : Ins) (ad : Int) (hR : RunB w rb n mb t i ad) (hM : ScM Z w mb mm mc b0 cv tv kv s) (hZ : Z rb) (hn : s.evs.length ≤ 999999) (hop : i.op = 25) :
    Calls Tryz.prog 120 #[.pointer (some ⟨rb, 0, none⟩)] w (RPost Z w rb n mb mm mc b0 cv tv kv i ad (t) (s.note ⟨10, 0, t.pc, ad, 0, 0, 0, false⟩)) := by
  have HM := Lib.hid hM
  have HR := Lib.hid hR
  have HZ := Lib.hid hZ
  have hlt := hR.lt
  obtain ⟨c0, c9, c10, c11, c12, c13, c14, c15, c16, c17, c18, c19, c20, c21, c22, c23, c24, c25, c26⟩ := hR.cells
  rw [hop] at c10
  have hM1 := hM.alloc (.cells #[.int .i64 25, .int .i64 i.a, .int .i64 i.b, .int .i64 i.c, .int .u32 i.k] 63)
  have hR1 := hR.alloc (.cells #[.int .i64 25, .int .i64 i.a, .int .i64 i.b, .int .i64 i.c, .int .u32 i.k] 63)
  have HM1 := Lib.hid hM1
  have HR1 := Lib.hid hR1
  clear hR hM hZ hM1 hR1
  go_enter Tryz.func120, Tryz.ntmps120
  go_wp2_with (first | (go_at_call 91; refine (nothing_sc _).mono ?_; rintro r w1 ⟨rfl, rfl⟩) | (go_at_call 137; refine (note_run Z _ rb n mb mm mc b0 cv tv kv s t i ad (HR1.out) (HM1.out) (by omega) ⟨10, 0, 0, 0, 0, 0, 0, false⟩).mono ?_; rintro r w2 ⟨rfl, hM2, hO2⟩))
  go_end0
  exact ⟨rfl, RunB.only HR1.out hO2 (fun h => h HZ.out), hM2, (on_alloc (Only.refl (fun k => ¬ Z k ∨ k = rb) w) _).trans hO2 (fun k e => .inl (.inl e))⟩

set_option maxHeartbeats 4000000 in
theorem plain_add (Z : Nat → Prop) (w : World) (rb : Nat) (n : Int) (mb mm mc b0 : Nat) (cv tv kv : Value) (s : Sc) (t : Th) (i : Ins) (ad : Int) (hR : RunB w rb n mb t i ad) (hM : ScM Z w mb mm mc b0 cv tv kv s) (hZ : Z rb) (hn : s.evs.length ≤ 999999) (hop : i.op = 3) (a : Nat) (ha : a < 8) (hia : i.a = a) (b : Nat) (hb : b < 8) (hib : i.b = b) (c : Nat) (hc : c < 8) (hic : i.c = c) (hbb : 0 ≤ t.reg b ∧ t.reg b ≤ 4294967295) (hcc : 0 ≤ t.reg c ∧ t.reg c ≤ 4294967295) :
    Calls Tryz.prog 120 #[.pointer (some ⟨rb, 0, none⟩)] w (RPost Z w rb n mb mm mc b0 cv tv kv i ad (t.put a (wr32 (t.reg b + t.reg c))) (s)) := by
  have HM := Lib.hid hM
  have HR := Lib.hid hR
  have HZ := Lib.hid hZ
  have hlt := hR.lt
  obtain ⟨c0, c9, c10, c11, c12, c13, c14, c15, c16, c17, c18, c19, c20, c21, c22, c23, c24, c25, c26⟩ := hR.cells
  rw [hop] at c10
  rw [hib] at c12
  rw [hic] at c13
  have hM1 := hM.alloc (.cells #[.int .i64 3, .int .i64 ((a : Nat) : Int), .int .i64 ((b : Nat) : Int), .int .i64 ((c : Nat) : Int), .int .u32 i.k] 63)
  have hR1 := hR.alloc (.cells #[.int .i64 3, .int .i64 ((a : Nat) : Int), .int .i64 ((b : Nat) : Int), .int .i64 ((c : Nat) : Int), .int .u32 i.k] 63)
  have HM1 := Lib.hid hM1
  have HR1 := Lib.hid hR1
  have y1 := hR1.reg a ha
  have y2 := hR1.frozen (1 + a)
  have z1 := hR.reg a ha
  have z2 := hR.frozen (1 + a)
  have y3 := hR1.reg b hb
  have z3 := hR.reg b hb
  have y4 := hR1.reg c hc
  have z4 := hR.reg c hc
  have b1 : (b : Int) < 8 := by omega
  have b0' : (0 : Int) ≤ (b : Int) := by omega
  have c1 : (c : Int) < 8 := by omega
  have c0' : (0 : Int) ≤ (c : Int) := by omega
  obtain ⟨v, hv⟩ : ∃ v : Int, v = (wr32 (t.reg b + t.reg c)) := ⟨_, rfl⟩
  have hdo : ∀ W, Calls Tryz.prog 67 #[.int .i64 3, .int .u32 (t.reg b), .int .u32 (t.reg c)] W fun e w' => e = .returned (.tuple #[.int .u32 v, .bool true]) ∧ Below W.heap.size W w' := fun W => (aluAdd_any W (t.reg b) (t.reg c) hbb.1 hbb.2 hcc.1 hcc.2).mono (fun e w' h => ⟨h.1.trans (by subst hv; congr), h.2⟩)
  rw [← hv]
  clear hv
  clear hR hM hZ hM1 hR1
  go_enter Tryz.func120, Tryz.ntmps120
  go_wp2_with fail
  go_region_with (go_at_call 67; refine (hdo _).mono ?_; rintro r w1 ⟨rfl, hb1⟩)
  all_goals
    have hO1 : Only (fun k => ¬ Z k ∨ k = rb) _ w1 := Only.of_below hb1 (Nat.le_refl _)
    have hR2 := (RunB.drew HR1.out).only (Only.of_below (F := fun _ => False) hb1 (Nat.le_refl _)) (fun e => e)
    have hM2 := (ScM.drew HM1.out).keep (Only.of_below (F := fun _ => False) hb1 (Nat.le_refl _)) (fun _ e => e.elim)
    have x1 := hR2.reg a ha
    have x2 := hR2.frozen (1 + a)
    go_wp2_with (go_at_call 138; refine (reg_run _ rb n mb t i ad hR2 a ha hia).mono ?_; rintro r w2 ⟨rfl, m, rfl⟩; have x3 : (w1.drewN m).cell? ⟨rb, 1 + a, none⟩ = some (.int .u32 (t.reg a)) := x1; have x4 : (w1.drewN m).frozen? ⟨rb, 1 + a, none⟩ = false := x2)
    go_end0
    exact ⟨rfl, RunB.put (RunB.drewN hR2 _) a ha _, ScM.run (ScM.drewN hM2 _) HZ.out _, Only.set1 (F := fun k => ¬ Z k ∨ k = rb) (p := ⟨rb, 1 + a, none⟩) (on_drewN ((on_drew (on_alloc (Only.refl _ w) _)).trans hO1 (fun k e => .inl e)) _) (.inr rfl) _⟩

set_option maxHeartbeats 4000000 in
theorem plain_same (Z : Nat → Prop) (w : World) (rb : Nat) (n : Int) (mb mm mc b0 : Nat) (cv tv kv : Value) (s : Sc) (t : Th) (i : Ins) (ad : Int) (hR : RunB w rb n mb t i ad) (hM : ScM Z w mb mm mc b0 cv tv kv s) (hZ : Z rb) (hn : s.evs.length ≤ 999999) (hop : i.op = 12) (a : Nat) (ha : a < 8) (hia : i.a = a) (b : Nat) (hb : b < 8) (hib : i.b = b) (c : Nat) (hc : c < 8) (hic : i.c = c) :
    Calls Tryz.prog 120 #[.pointer (some ⟨rb, 0, none⟩)] w (RPost Z w rb n mb mm mc b0 cv tv kv i ad (t.put a (if t.reg b = t.reg c then 1 else 0)) (s)) := by
  have HM := Lib.hid hM
  have HR := Lib.hid hR
  have HZ := Lib.hid hZ
  have hlt := hR.lt
  obtain ⟨c0, c9, c10, c11, c12, c13, c14, c15, c16, c17, c18, c19, c20, c21, c22, c23, c24, c25, c26⟩ := hR.cells
  rw [hop] at c10
  rw [hib] at c12
  rw [hic] at c13
  have hM1 := hM.alloc (.cells #[.int .i64 12, .int .i64 ((a : Nat) : Int), .int .i64 ((b : Nat) : Int), .int .i64 ((c : Nat) : Int), .int .u32 i.k] 63)
  have hR1 := hR.alloc (.cells #[.int .i64 12, .int .i64 ((a : Nat) : Int), .int .i64 ((b : Nat) : Int), .int .i64 ((c : Nat) : Int), .int .u32 i.k] 63)
  have HM1 := Lib.hid hM1
  have HR1 := Lib.hid hR1
  have y1 := hR1.reg a ha
  have y2 := hR1.frozen (1 + a)
  have z1 := hR.reg a ha
  have z2 := hR.frozen (1 + a)
  have y3 := hR1.reg b hb
  have z3 := hR.reg b hb
  have y4 := hR1.reg c hc
  have z4 := hR.reg c hc
  have b1 : (b : Int) < 8 := by omega
  have b0' : (0 : Int) ≤ (b : Int) := by omega
  have c1 : (c : Int) < 8 := by omega
  have c0' : (0 : Int) ≤ (c : Int) := by omega
  obtain ⟨v, hv⟩ : ∃ v : Int, v = (if t.reg b = t.reg c then 1 else 0) := ⟨_, rfl⟩
  have hdo : ∀ W, Calls Tryz.prog 67 #[.int .i64 12, .int .u32 (t.reg b), .int .u32 (t.reg c)] W fun e w' => e = .returned (.tuple #[.int .u32 v, .bool true]) ∧ Below W.heap.size W w' := fun W => (aluSame_any W (t.reg b) (t.reg c)).mono (fun e w' h => ⟨h.1.trans (by subst hv; congr), h.2⟩)
  rw [← hv]
  clear hv
  clear hR hM hZ hM1 hR1
  go_enter Tryz.func120, Tryz.ntmps120
  go_wp2_with fail
  go_region_with (go_at_call 67; refine (hdo _).mono ?_; rintro r w1 ⟨rfl, hb1⟩)
  all_goals
    have hO1 : Only (fun k => ¬ Z k ∨ k = rb) _ w1 := Only.of_below hb1 (Nat.le_refl _)
    have hR2 := (RunB.drew HR1.out).only (Only.of_below (F := fun _ => False) hb1 (Nat.le_refl _)) (fun e => e)
    have hM2 := (ScM.drew HM1.out).keep (Only.of_below (F := fun _ => False) hb1 (Nat.le_refl _)) (fun _ e => e.elim)
    have x1 := hR2.reg a ha
    have x2 := hR2.frozen (1 + a)
    go_wp2_with (go_at_call 138; refine (reg_run _ rb n mb t i ad hR2 a ha hia).mono ?_; rintro r w2 ⟨rfl, m, rfl⟩; have x3 : (w1.drewN m).cell? ⟨rb, 1 + a, none⟩ = some (.int .u32 (t.reg a)) := x1; have x4 : (w1.drewN m).frozen? ⟨rb, 1 + a, none⟩ = false := x2)
    go_end0
    exact ⟨rfl, RunB.put (RunB.drewN hR2 _) a ha _, ScM.run (ScM.drewN hM2 _) HZ.out _, Only.set1 (F := fun k => ¬ Z k ∨ k = rb) (p := ⟨rb, 1 + a, none⟩) (on_drewN ((on_drew (on_alloc (Only.refl _ w) _)).trans hO1 (fun k e => .inl e)) _) (.inr rfl) _⟩
end Go.Proofs.YtackbadmcgjncaaGreatDoor.As
