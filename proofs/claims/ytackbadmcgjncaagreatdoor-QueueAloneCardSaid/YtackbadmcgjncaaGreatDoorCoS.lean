/- The walks of core.run's methods that ask memory. -/
import Derived.Test.YtackbadmcgjncaaGreatDoorCoI
set_option linter.unusedVariables false
set_option linter.unusedSimpArgs false
set_option maxRecDepth 20000
namespace Go.Proofs.YtackbadmcgjncaaGreatDoor.As
open Go.RowKit

theorem ScM.drewN {Z : Nat → Prop} {w : World} {mb mm mc b0 : Nat} {cv tv kv : Value} {s : Sc} (h : ScM Z w mb mm mc b0 cv tv kv s) (m : Nat) : ScM Z (w.drewN m) mb mm mc b0 cv tv kv s := h
theorem ScM.drew {Z : Nat → Prop} {w : World} {mb mm mc b0 : Nat} {cv tv kv : Value} {s : Sc} (h : ScM Z w mb mm mc b0 cv tv kv s) : ScM Z w.drew mb mm mc b0 cv tv kv s := h
theorem RunB.drewN {w : World} {rb : Nat} {n : Int} {mb : Nat} {t : Th} {i : Ins} {ad : Int} (h : RunB w rb n mb t i ad) (m : Nat) : RunB (w.drewN m) rb n mb t i ad := h
theorem RunB.drew {w : World} {rb : Nat} {n : Int} {mb : Nat} {t : Th} {i : Ins} {ad : Int} (h : RunB w rb n mb t i ad) : RunB w.drew rb n mb t i ad := h
theorem on_drew {F : Nat → Prop} {a w : World} (h : Only F a w) : Only F a w.drew := ⟨h.os, h.tape, h.output, h.size, h.block⟩
/-- What a method of a run leaves: the thread turned, the machine turned. -/
def RPost (Z : Nat → Prop) (w : World) (rb : Nat) (n : Int) (mb mm mc b0 : Nat) (cv tv kv : Value) (i : Ins) (ad : Int) (t : Th) (s : Sc) (e : Ending) (w' : World) : Prop :=
  e = .returned (.tuple #[]) ∧ RunB w' rb n mb t i ad ∧ ScM Z w' mb mm mc b0 cv tv kv s ∧ Only (fun k => ¬ Z k ∨ k = rb) w w'
theorem RunB.nz {Z : Nat → Prop} {w : World} {mb mm mc b0 rb : Nat} {cv tv kv : Value} {s : Sc} (h : ScM Z w mb mm mc b0 cv tv kv s) (hZ : Z rb) : rb ≠ mm ∧ rb ≠ mb := by
  obtain ⟨h1, h2, h3, _⟩ := h
  exact ⟨fun e => by subst e; exact h3 hZ, fun e => by subst e; exact h2 hZ⟩
theorem store_evs (s : Sc) (ad : Nat) (v : Int) : (s.store ad v).evs = s.evs := rfl
theorem ScM.nz2 {Z : Nat → Prop} {w : World} {mb mm mc b0 : Nat} {cv tv kv : Value} {s : Sc} (h : ScM Z w mb mm mc b0 cv tv kv s) : ∀ k, k = mm → ¬ Z k := fun k e hz => by subst e; exact h.2.2.1 hz
set_option maxHeartbeats 2000000 in
theorem locked_yes (Z : Nat → Prop) (w : World) (rb : Nat) (n : Int) (mb mm mc b0 : Nat) (cv tv kv : Value) (s : Sc) (t : Th) (i : Ins) (ad : Int) (hR : RunB w rb n mb t i ad) (hM : ScM Z w mb mm mc b0 cv tv kv s) (hZ : Z rb) (hn : s.evs.length ≤ 999999) (a : Nat) (ha : a < 8) (hia : i.a = a) (adn : Nat) (had : ad = adn) (hadn : adn < s.mem.length) (old v : Int) :
    Calls Tryz.prog 139 #[.pointer (some ⟨rb, 0, none⟩), .int .u32 old, .int .u32 v, .bool true] w (RPost Z w rb n mb mm mc b0 cv tv kv i ad (t.put a old) ((s.store adn v).note ⟨4, 0, t.pc, ad, v, old, 0, true⟩)) := by
  have HM := Lib.hid hM
  have HR := Lib.hid hR
  have HZ := Lib.hid hZ
  have hlt := hR.lt
  obtain ⟨c0, c9, c10, c11, c12, c13, c14, c15, c16, c17, c18, c19, c20, c21, c22, c23, c24, c25, c26⟩ := hR.cells
  subst had
  clear hR hM hZ
  go_enter Tryz.func139, Tryz.ntmps139
  go_wp2_with fail
  go_region_with (go_at_call 92; refine (swap_sc Z _ mb mm mc b0 cv tv kv s (ScM.drew HM.out) adn hadn v).mono ?_; rintro r w1 ⟨⟨u, rfl⟩, hM1, hO1⟩; have hR1 := (RunB.drew HR.out).only hO1 (RunB.nz HM.out HZ.out).1; have hO1b : Only (fun k => ¬ Z k ∨ k = rb) w w1 := (on_drew (Only.refl _ w)).trans hO1 (fun k e => .inl (.inl (HM.out.nz2 k e))))
  all_goals (go_wp2_with (first
    | (go_at_call 137; refine (note_run Z _ rb n mb mm mc b0 cv tv kv _ t i _ hR1 hM1 (by rw [store_evs]; omega) ⟨4, 0, 0, 0, v, old, 0, true⟩).mono ?_; rintro r w2 ⟨rfl, hM2, hO2⟩; have hR2 := hR1.only hO2 (fun h => h HZ.out); have hO : Only (fun k => ¬ Z k ∨ k = rb) w w2 := hO1b.trans hO2 (fun k e => .inl (.inl e)))
    | (go_at_call 138; refine (reg_run _ rb n mb t i _ hR2 a ha hia).mono ?_; rintro r w3 ⟨rfl, m, rfl⟩; have q1 : (w2.drewN m).cell? ⟨rb, 1 + a, none⟩ = some (.int .u32 (t.reg a)) := hR2.reg a ha; have q2 : (w2.drewN m).frozen? ⟨rb, 1 + a, none⟩ = false := hR2.frozen (1 + a))))
  all_goals go_end0
  all_goals exact ⟨rfl, RunB.put (RunB.drewN hR2 _) a ha _, ScM.keep (ScM.drewN hM2 _) (Only.set1 (F := fun k => k = rb) (p := ⟨rb, 1 + a, none⟩) (Only.refl _ _) rfl _) (fun k e _ => by subst e; exact HZ.out), Only.set1 (p := ⟨rb, 1 + a, none⟩) (on_drewN hO _) (.inr rfl) _⟩
set_option maxHeartbeats 2000000 in
theorem locked_no (Z : Nat → Prop) (w : World) (rb : Nat) (n : Int) (mb mm mc b0 : Nat) (cv tv kv : Value) (s : Sc) (t : Th) (i : Ins) (ad : Int) (hR : RunB w rb n mb t i ad) (hM : ScM Z w mb mm mc b0 cv tv kv s) (hZ : Z rb) (hn : s.evs.length ≤ 999999) (a : Nat) (ha : a < 8) (hia : i.a = a) (old v : Int) :
    Calls Tryz.prog 139 #[.pointer (some ⟨rb, 0, none⟩), .int .u32 old, .int .u32 v, .bool false] w (RPost Z w rb n mb mm mc b0 cv tv kv i ad (t.put a old) (s.note ⟨4, 0, t.pc, ad, old, old, 0, false⟩)) := by
  have HM := Lib.hid hM
  have HR := Lib.hid hR
  have HZ := Lib.hid hZ
  have hlt := hR.lt
  obtain ⟨c0, c9, c10, c11, c12, c13, c14, c15, c16, c17, c18, c19, c20, c21, c22, c23, c24, c25, c26⟩ := hR.cells
  clear hR hM hZ
  go_enter Tryz.func139, Tryz.ntmps139
  go_wp2_with (first
    | (go_at_call 137; refine (note_run Z _ rb n mb mm mc b0 cv tv kv _ t i _ HR.out HM.out (by omega) ⟨4, 0, 0, 0, old, old, 0, false⟩).mono ?_; rintro r w2 ⟨rfl, hM2, hO2⟩; have hR2 := HR.out.only hO2 (fun h => h HZ.out); have hO : Only (fun k => ¬ Z k ∨ k = rb) w w2 := hO2.mono (fun k e => .inl e))
    | (go_at_call 138; refine (reg_run _ rb n mb t i _ hR2 a ha hia).mono ?_; rintro r w3 ⟨rfl, m, rfl⟩; have q1 : (w2.drewN m).cell? ⟨rb, 1 + a, none⟩ = some (.int .u32 (t.reg a)) := hR2.reg a ha; have q2 : (w2.drewN m).frozen? ⟨rb, 1 + a, none⟩ = false := hR2.frozen (1 + a)))
  all_goals go_end0
  all_goals exact ⟨rfl, RunB.put (RunB.drewN hR2 _) a ha _, ScM.keep (ScM.drewN hM2 _) (Only.set1 (F := fun k => k = rb) (p := ⟨rb, 1 + a, none⟩) (Only.refl _ _) rfl _) (fun k e _ => by subst e; exact HZ.out), Only.set1 (p := ⟨rb, 1 + a, none⟩) (on_drewN hO _) (.inr rfl) _⟩
end Go.Proofs.YtackbadmcgjncaaGreatDoor.As
