/- The walks of core.run.asks, by ways. -/
import Derived.Test.YtackbadmcgjncaaGreatDoorCoS
set_option linter.unusedVariables false
set_option linter.unusedSimpArgs false
set_option maxRecDepth 20000
namespace Go.Proofs.YtackbadmcgjncaaGreatDoor.As
open Go.RowKit

theorem fr_ne {rb mm : Nat} (h : rb ≠ mm) : ¬ rb = mm := h
/-- The machine behind a store into the run's own block. -/
theorem ScM.run {Z : Nat → Prop} {w : World} {mb mm mc b0 rb j : Nat} {cv tv kv : Value} {s : Sc} (h : ScM Z w mb mm mc b0 cv tv kv s) (hZ : Z rb) (v : Value) : ScM Z (w.setCell ⟨rb, j, none⟩ v) mb mm mc b0 cv tv kv s :=
  h.keep (Only.set1 (F := fun k => k = rb) (p := ⟨rb, j, none⟩) (Only.refl _ _) rfl _) (fun k e _ => by subst e; exact hZ)

set_option maxHeartbeats 4000000 in
theorem asks_load (Z : Nat → Prop) (w : World) (rb : Nat) (n : Int) (mb mm mc b0 : Nat) (cv tv kv : Value) (s : Sc) (t : Th) (i : Ins) (ad : Int) (hR : RunB w rb n mb t i ad) (hM : ScM Z w mb mm mc b0 cv tv kv s) (hZ : Z rb) (hn : s.evs.length ≤ 999999) (a : Nat) (ha : a < 8) (hia : i.a = a) (adn : Nat) (had : ad = adn) (hadn : adn < s.mem.length) (hop : i.op = 16) :
    Calls Tryz.prog 119 #[.pointer (some ⟨rb, 0, none⟩)] w (RPost Z w rb n mb mm mc b0 cv tv kv i ad (t.put a (s.mem.getD adn 0)) (s.note ⟨1, 0, t.pc, ad, s.mem.getD adn 0, 0, 0, false⟩)) := by
  have HM := Lib.hid hM
  have HR := Lib.hid hR
  have HZ := Lib.hid hZ
  have hlt := hR.lt
  obtain ⟨c0, c9, c10, c11, c12, c13, c14, c15, c16, c17, c18, c19, c20, c21, c22, c23, c24, c25, c26⟩ := hR.cells
  rw [hop] at c10
  subst had
  have hnz := RunB.nz hM hZ
  have hld := fun W (hW : ScM Z W mb mm mc b0 cv tv kv s) => load_sc Z W mb mm mc b0 cv tv kv s hW adn hadn
  obtain ⟨v, hv⟩ : ∃ v, v = s.mem.getD adn 0 := ⟨_, rfl⟩
  rw [← hv] at hld ⊢
  clear hv
  have z1 := hR.reg a ha
  have z2 := hR.frozen (1 + a)
  clear hR hM hZ
  go_enter Tryz.func119, Tryz.ntmps119
  go_wp2_with (go_at_call 138; refine (reg_run _ rb n mb t i _ HR.out a ha hia).mono ?_; rintro r w0 ⟨rfl, m, rfl⟩; have q1 : (w.drewN m).cell? ⟨rb, 1 + a, none⟩ = some (.int .u32 (t.reg a)) := HR.out.reg a ha; have q2 : (w.drewN m).frozen? ⟨rb, 1 + a, none⟩ = false := HR.out.frozen (1 + a))
  go_region_with (go_at_call 88; refine (hld _ (ScM.drew (ScM.drewN HM.out _))).mono ?_; rintro r w1 ⟨rfl, rfl⟩)
  all_goals (go_wp2_with (go_at_call 137; refine (note_run Z _ rb n mb mm mc b0 cv tv kv s (t.put a v) i _ (RunB.put (RunB.drew (RunB.drewN HR.out _)) a ha v) (ScM.run (ScM.drew (ScM.drewN HM.out _)) HZ.out _) (by omega) ⟨1, 0, 0, 0, v, 0, 0, false⟩).mono ?_; rintro r w2 ⟨rfl, hM2, hO2⟩))
  all_goals go_end0
  all_goals exact ⟨rfl, (RunB.put (RunB.drew (RunB.drewN HR.out _)) a ha v).only hO2 (fun h => h HZ.out), hM2, (Only.set1 (F := fun k => ¬ Z k ∨ k = rb) (p := ⟨rb, 1 + a, none⟩) (on_drew (on_drewN (Only.refl _ w) _)) (.inr rfl) _).trans hO2 (fun k e => .inl (.inl e))⟩

set_option maxHeartbeats 4000000 in
theorem asks_store (Z : Nat → Prop) (w : World) (rb : Nat) (n : Int) (mb mm mc b0 : Nat) (cv tv kv : Value) (s : Sc) (t : Th) (i : Ins) (ad : Int) (hR : RunB w rb n mb t i ad) (hM : ScM Z w mb mm mc b0 cv tv kv s) (hZ : Z rb) (hn : s.evs.length ≤ 999999) (a : Nat) (ha : a < 8) (hia : i.a = a) (adn : Nat) (had : ad = adn) (hadn : adn < s.mem.length) (hop : i.op = 17) :
    Calls Tryz.prog 119 #[.pointer (some ⟨rb, 0, none⟩)] w (RPost Z w rb n mb mm mc b0 cv tv kv i ad (t) ((s.store adn (t.reg a)).note ⟨2, 0, t.pc, ad, t.reg a, 0, 0, false⟩)) := by
  have HM := Lib.hid hM
  have HR := Lib.hid hR
  have HZ := Lib.hid hZ
  have hlt := hR.lt
  obtain ⟨c0, c9, c10, c11, c12, c13, c14, c15, c16, c17, c18, c19, c20, c21, c22, c23, c24, c25, c26⟩ := hR.cells
  rw [hop] at c10
  subst had
  have hnz := RunB.nz hM hZ
  have z1 := hR.reg a ha
  have z2 := hR.frozen (1 + a)
  clear hR hM hZ
  go_enter Tryz.func119, Tryz.ntmps119
  go_wp2_with (go_at_call 138; refine (reg_run _ rb n mb t i _ HR.out a ha hia).mono ?_; rintro r w0 ⟨rfl, m, rfl⟩; have q1 : (w.drewN m).cell? ⟨rb, 1 + a, none⟩ = some (.int .u32 (t.reg a)) := HR.out.reg a ha; have q2 : (w.drewN m).frozen? ⟨rb, 1 + a, none⟩ = false := HR.out.frozen (1 + a))
  go_region_with (go_at_call 90; refine (store_sc Z _ mb mm mc b0 cv tv kv s (ScM.drew (ScM.drewN HM.out _)) adn hadn (t.reg a)).mono ?_; rintro r w1 ⟨rfl, hM1, hO1⟩; have hR1 := (RunB.drew (RunB.drewN HR.out m)).only hO1 hnz.1; have z1 : w1.cell? ⟨rb, 1 + a, none⟩ = some (.int .u32 (t.reg a)) := hR1.reg a ha; have hO1b : Only (fun k => ¬ Z k ∨ k = rb) w w1 := (on_drew (on_drewN (Only.refl _ w) m)).trans hO1 (fun k e => .inl (.inl (HM.out.nz2 k e))))
  all_goals (go_wp2_with (go_at_call 137; refine (note_run Z _ rb n mb mm mc b0 cv tv kv _ t i _ hR1 hM1 (by rw [store_evs]; omega) ⟨2, 0, 0, 0, t.reg a, 0, 0, false⟩).mono ?_; rintro r w2 ⟨rfl, hM2, hO2⟩))
  all_goals go_end0
  all_goals exact ⟨rfl, hR1.only hO2 (fun h => h HZ.out), hM2, hO1b.trans hO2 (fun k e => .inl (.inl e))⟩

set_option maxHeartbeats 4000000 in
theorem asks_swap (Z : Nat → Prop) (w : World) (rb : Nat) (n : Int) (mb mm mc b0 : Nat) (cv tv kv : Value) (s : Sc) (t : Th) (i : Ins) (ad : Int) (hR : RunB w rb n mb t i ad) (hM : ScM Z w mb mm mc b0 cv tv kv s) (hZ : Z rb) (hn : s.evs.length ≤ 999999) (a : Nat) (ha : a < 8) (hia : i.a = a) (adn : Nat) (had : ad = adn) (hadn : adn < s.mem.length) (hop : i.op = 19) :
    Calls Tryz.prog 119 #[.pointer (some ⟨rb, 0, none⟩)] w (RPost Z w rb n mb mm mc b0 cv tv kv i ad (t.put a (s.mem.getD adn 0)) ((s.store adn (t.reg a)).note ⟨4, 0, t.pc, ad, t.reg a, s.mem.getD adn 0, 0, true⟩)) := by
  have HM := Lib.hid hM
  have HR := Lib.hid hR
  have HZ := Lib.hid hZ
  have hlt := hR.lt
  obtain ⟨c0, c9, c10, c11, c12, c13, c14, c15, c16, c17, c18, c19, c20, c21, c22, c23, c24, c25, c26⟩ := hR.cells
  rw [hop] at c10
  subst had
  have hnz := RunB.nz hM hZ
  have hld := fun W (hW : ScM Z W mb mm mc b0 cv tv kv s) => load_sc Z W mb mm mc b0 cv tv kv s hW adn hadn
  obtain ⟨v, hv⟩ : ∃ v, v = s.mem.getD adn 0 := ⟨_, rfl⟩
  rw [← hv] at hld ⊢
  clear hv
  have z1 := hR.reg a ha
  have z2 := hR.frozen (1 + a)
  clear hR hM hZ
  go_enter Tryz.func119, Tryz.ntmps119
  go_wp2_with (go_at_call 138; refine (reg_run _ rb n mb t i _ HR.out a ha hia).mono ?_; rintro r w0 ⟨rfl, m, rfl⟩; have q1 : (w.drewN m).cell? ⟨rb, 1 + a, none⟩ = some (.int .u32 (t.reg a)) := HR.out.reg a ha; have q2 : (w.drewN m).frozen? ⟨rb, 1 + a, none⟩ = false := HR.out.frozen (1 + a))
  go_region_with (first | (go_at_call 88; refine (hld _ (ScM.drew (ScM.drewN HM.out _))).mono ?_; rintro r w1 ⟨rfl, rfl⟩) | (go_at_call 139; refine (locked_yes Z _ rb n mb mm mc b0 cv tv kv s t i _ (RunB.drew (RunB.drewN HR.out _)) (ScM.drew (ScM.drewN HM.out _)) HZ.out hn a ha hia adn rfl hadn v (t.reg a)).mono ?_; rintro r w2 ⟨rfl, hR2, hM2, hO2⟩))
  all_goals (try go_wp2_with fail)
  all_goals go_end0
  all_goals exact ⟨rfl, hR2, hM2, (on_drew (on_drewN (Only.refl _ w) _)).trans hO2 (fun k e => .inl e)⟩

set_option maxHeartbeats 4000000 in
theorem asks_fetch (Z : Nat → Prop) (w : World) (rb : Nat) (n : Int) (mb mm mc b0 : Nat) (cv tv kv : Value) (s : Sc) (t : Th) (i : Ins) (ad : Int) (hR : RunB w rb n mb t i ad) (hM : ScM Z w mb mm mc b0 cv tv kv s) (hZ : Z rb) (hn : s.evs.length ≤ 999999) (a : Nat) (ha : a < 8) (hia : i.a = a) (adn : Nat) (had : ad = adn) (hadn : adn < s.mem.length) (hop : i.op = 20) :
    Calls Tryz.prog 119 #[.pointer (some ⟨rb, 0, none⟩)] w (RPost Z w rb n mb mm mc b0 cv tv kv i ad (t.put a (s.mem.getD adn 0)) ((s.store adn (wr32 (s.mem.getD adn 0 + t.reg a))).note ⟨4, 0, t.pc, ad, wr32 (s.mem.getD adn 0 + t.reg a), s.mem.getD adn 0, 0, true⟩)) := by
  have HM := Lib.hid hM
  have HR := Lib.hid hR
  have HZ := Lib.hid hZ
  have hlt := hR.lt
  obtain ⟨c0, c9, c10, c11, c12, c13, c14, c15, c16, c17, c18, c19, c20, c21, c22, c23, c24, c25, c26⟩ := hR.cells
  rw [hop] at c10
  subst had
  have hnz := RunB.nz hM hZ
  have hld := fun W (hW : ScM Z W mb mm mc b0 cv tv kv s) => load_sc Z W mb mm mc b0 cv tv kv s hW adn hadn
  obtain ⟨v, hv⟩ : ∃ v, v = s.mem.getD adn 0 := ⟨_, rfl⟩
  rw [← hv] at hld ⊢
  clear hv
  have qw : IntKind.u32.wrap (v + t.reg a) = wr32 (v + t.reg a) := by rw [IntKind.wrap_u32]; unfold wr32; omega
  have z1 := hR.reg a ha
  have z2 := hR.frozen (1 + a)
  clear hR hM hZ
  go_enter Tryz.func119, Tryz.ntmps119
  go_wp2_with (go_at_call 138; refine (reg_run _ rb n mb t i _ HR.out a ha hia).mono ?_; rintro r w0 ⟨rfl, m, rfl⟩; have q1 : (w.drewN m).cell? ⟨rb, 1 + a, none⟩ = some (.int .u32 (t.reg a)) := HR.out.reg a ha; have q2 : (w.drewN m).frozen? ⟨rb, 1 + a, none⟩ = false := HR.out.frozen (1 + a))
  go_region_with (go_at_call 88; refine (hld _ (ScM.drew (ScM.drewN HM.out _))).mono ?_; rintro r w1 ⟨rfl, rfl⟩)
  all_goals (go_wp2_with (go_at_call 139; refine (locked_yes Z _ rb n mb mm mc b0 cv tv kv s t i _ (RunB.drew (RunB.drewN HR.out _)) (ScM.drew (ScM.drewN HM.out _)) HZ.out hn a ha hia adn rfl hadn v (wr32 (v + t.reg a))).mono ?_; rintro r w2 ⟨rfl, hR2, hM2, hO2⟩))
  all_goals (try go_wp2_with fail)
  all_goals go_end0
  all_goals exact ⟨rfl, hR2, hM2, (on_drew (on_drewN (Only.refl _ w) _)).trans hO2 (fun k e => .inl e)⟩

set_option maxHeartbeats 4000000 in
theorem asks_casy (Z : Nat → Prop) (w : World) (rb : Nat) (n : Int) (mb mm mc b0 : Nat) (cv tv kv : Value) (s : Sc) (t : Th) (i : Ins) (ad : Int) (hR : RunB w rb n mb t i ad) (hM : ScM Z w mb mm mc b0 cv tv kv s) (hZ : Z rb) (hn : s.evs.length ≤ 999999) (a : Nat) (ha : a < 8) (hia : i.a = a) (adn : Nat) (had : ad = adn) (hadn : adn < s.mem.length) (hop : i.op = 21) (c : Nat) (hc : c < 8) (hic : i.c = c) (hq :  s.mem.getD adn 0 = t.reg a) :
    Calls Tryz.prog 119 #[.pointer (some ⟨rb, 0, none⟩)] w (RPost Z w rb n mb mm mc b0 cv tv kv i ad (t.put a (s.mem.getD adn 0)) ((s.store adn (t.reg c)).note ⟨4, 0, t.pc, ad, t.reg c, s.mem.getD adn 0, 0, true⟩)) := by
  have HM := Lib.hid hM
  have HR := Lib.hid hR
  have HZ := Lib.hid hZ
  have hlt := hR.lt
  obtain ⟨c0, c9, c10, c11, c12, c13, c14, c15, c16, c17, c18, c19, c20, c21, c22, c23, c24, c25, c26⟩ := hR.cells
  rw [hop] at c10
  subst had
  have hnz := RunB.nz hM hZ
  have hld := fun W (hW : ScM Z W mb mm mc b0 cv tv kv s) => load_sc Z W mb mm mc b0 cv tv kv s hW adn hadn
  obtain ⟨v, hv⟩ : ∃ v, v = s.mem.getD adn 0 := ⟨_, rfl⟩
  rw [← hv] at hld hq ⊢
  clear hv
  rw [hic] at c13
  have hqb : (v == t.reg a) = true := by simp [hq]
  have h1 : (c : Int) < 8 := by omega
  have h0 : (0 : Int) ≤ (c : Int) := by omega
  clear hq
  have z1 := hR.reg a ha
  have z2 := hR.frozen (1 + a)
  clear hR hM hZ
  go_enter Tryz.func119, Tryz.ntmps119
  go_wp2_with (go_at_call 138; refine (reg_run _ rb n mb t i _ HR.out a ha hia).mono ?_; rintro r w0 ⟨rfl, m, rfl⟩; have q1 : (w.drewN m).cell? ⟨rb, 1 + a, none⟩ = some (.int .u32 (t.reg a)) := HR.out.reg a ha; have p1 : (w.drewN m).cell? ⟨rb, 1 + c, none⟩ = some (.int .u32 (t.reg c)) := HR.out.reg c hc; have q2 : (w.drewN m).frozen? ⟨rb, 1 + a, none⟩ = false := HR.out.frozen (1 + a))
  have p0 := HR.out.reg c hc
  go_region_with (go_at_call 88; refine (hld _ (ScM.drew (ScM.drewN HM.out _))).mono ?_; rintro r w1 ⟨rfl, rfl⟩)
  all_goals go_wp2_with fail
  all_goals (go_region_with (go_at_call 139; refine (locked_yes Z _ rb n mb mm mc b0 cv tv kv s t i _ (RunB.drew (RunB.drew (RunB.drewN HR.out _))) (ScM.drew (ScM.drew (ScM.drewN HM.out _))) HZ.out hn a ha hia adn rfl hadn v (t.reg c)).mono ?_; rintro r w2 ⟨rfl, hR2, hM2, hO2⟩))
  all_goals (try go_wp2_with fail)
  all_goals go_end0
  all_goals exact ⟨rfl, hR2, hM2, (on_drew (on_drew (on_drewN (Only.refl _ w) _))).trans hO2 (fun k e => .inl e)⟩

set_option maxHeartbeats 4000000 in
theorem asks_casn (Z : Nat → Prop) (w : World) (rb : Nat) (n : Int) (mb mm mc b0 : Nat) (cv tv kv : Value) (s : Sc) (t : Th) (i : Ins) (ad : Int) (hR : RunB w rb n mb t i ad) (hM : ScM Z w mb mm mc b0 cv tv kv s) (hZ : Z rb) (hn : s.evs.length ≤ 999999) (a : Nat) (ha : a < 8) (hia : i.a = a) (adn : Nat) (had : ad = adn) (hadn : adn < s.mem.length) (hop : i.op = 21) (c : Nat) (hc : c < 8) (hic : i.c = c) (hq : ¬ s.mem.getD adn 0 = t.reg a) :
    Calls Tryz.prog 119 #[.pointer (some ⟨rb, 0, none⟩)] w (RPost Z w rb n mb mm mc b0 cv tv kv i ad (t.put a (s.mem.getD adn 0)) (s.note ⟨4, 0, t.pc, ad, s.mem.getD adn 0, s.mem.getD adn 0, 0, false⟩)) := by
  have HM := Lib.hid hM
  have HR := Lib.hid hR
  have HZ := Lib.hid hZ
  have hlt := hR.lt
  obtain ⟨c0, c9, c10, c11, c12, c13, c14, c15, c16, c17, c18, c19, c20, c21, c22, c23, c24, c25, c26⟩ := hR.cells
  rw [hop] at c10
  subst had
  have hnz := RunB.nz hM hZ
  have hld := fun W (hW : ScM Z W mb mm mc b0 cv tv kv s) => load_sc Z W mb mm mc b0 cv tv kv s hW adn hadn
  obtain ⟨v, hv⟩ : ∃ v, v = s.mem.getD adn 0 := ⟨_, rfl⟩
  rw [← hv] at hld hq ⊢
  clear hv
  rw [hic] at c13
  have hqb : (v == t.reg a) = false := by simp [hq]
  have h1 : (c : Int) < 8 := by omega
  have h0 : (0 : Int) ≤ (c : Int) := by omega
  clear hq
  have z1 := hR.reg a ha
  have z2 := hR.frozen (1 + a)
  clear hR hM hZ
  go_enter Tryz.func119, Tryz.ntmps119
  go_wp2_with (go_at_call 138; refine (reg_run _ rb n mb t i _ HR.out a ha hia).mono ?_; rintro r w0 ⟨rfl, m, rfl⟩; have q1 : (w.drewN m).cell? ⟨rb, 1 + a, none⟩ = some (.int .u32 (t.reg a)) := HR.out.reg a ha; have p1 : (w.drewN m).cell? ⟨rb, 1 + c, none⟩ = some (.int .u32 (t.reg c)) := HR.out.reg c hc; have q2 : (w.drewN m).frozen? ⟨rb, 1 + a, none⟩ = false := HR.out.frozen (1 + a))
  have p0 := HR.out.reg c hc
  go_region_with (go_at_call 88; refine (hld _ (ScM.drew (ScM.drewN HM.out _))).mono ?_; rintro r w1 ⟨rfl, rfl⟩)
  all_goals go_wp2_with fail
  all_goals (go_region_with (go_at_call 139; refine (locked_no Z _ rb n mb mm mc b0 cv tv kv s t i _ (RunB.drew (RunB.drew (RunB.drewN HR.out _))) (ScM.drew (ScM.drew (ScM.drewN HM.out _))) HZ.out hn a ha hia v (t.reg c)).mono ?_; rintro r w2 ⟨rfl, hR2, hM2, hO2⟩))
  all_goals (try go_wp2_with fail)
  all_goals go_end0
  all_goals exact ⟨rfl, hR2, hM2, (on_drew (on_drew (on_drewN (Only.refl _ w) _))).trans hO2 (fun k e => .inl e)⟩
end Go.Proofs.YtackbadmcgjncaaGreatDoor.As
