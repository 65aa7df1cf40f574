/- The walk of core.Step: the end of the code. -/
import Derived.Test.YtackbadmcgjncaaGreatDoorCoF
set_option linter.unusedVariables false
set_option linter.unusedSimpArgs false
set_option maxRecDepth 20000
namespace Go.Proofs.YtackbadmcgjncaaGreatDoor.As
open Go.RowKit

set_option maxHeartbeats 4000000 in
theorem step_end (Z : Nat → Prop) (w : World) (n : Int) (mb mm mc b0 : Nat) (cv tv kv : Value) (s : Sc) (pc : Nat) (r0 r1 r2 r3 r4 r5 r6 r7 : Int) (g : Nat) (cap : Nat) (hM : ScM Z w mb mm mc b0 cv tv kv s) (T : TabI w) (hn : s.evs.length ≤ 999999) :
    Calls Tryz.prog 69 #[.agg #[.int .i64 (pc : Int), .int .u32 r0, .int .u32 r1, .int .u32 r2, .int .u32 r3, .int .u32 r4, .int .u32 r5, .int .u32 r6, .int .u32 r7, .int .i64 0], .slice (some ⟨g, 0, none⟩) pc cap, .agg #[.int .i64 n, .func (.func 88) #[.pointer (some ⟨mb, 0, none⟩)] #[], .func (.func 89) #[] #[], .func (.func 90) #[.pointer (some ⟨mb, 0, none⟩)] #[], .func (.func 89) #[] #[], .func (.func 91) #[] #[], .func (.func 92) #[.pointer (some ⟨mb, 0, none⟩)] #[], .func (.func 93) #[.pointer (some ⟨mb, 0, none⟩)] #[], .func (.func 94) #[.pointer (some ⟨mb, 0, none⟩)] #[], .func (.func 91) #[] #[], .func (.func 95) #[.pointer (some ⟨mb, 0, none⟩)] #[]]] w (StepPost Z w mb mm mc b0 cv tv kv ⟨(pc : Int), [r0, r1, r2, r3, r4, r5, r6, r7], 2⟩ (s.note ⟨12, 0, pc, 0, 0, 0, 0, false⟩)) := by
  have HS := Lib.hid (stw0 Z w n mb mm mc b0 cv tv kv s pc r0 r1 r2 r3 r4 r5 r6 r7 ⟨0, 0, 0, 0, 0⟩ hM T)
  have hN := HS.out.2.2.2.1
  clear hN hM T
  have hh : ∀ W, RunB W (w.heap.size + 1 + 1 + 1) n mb ⟨pc, [r0, r1, r2, r3, r4, r5, r6, r7], 0⟩ ⟨0, 0, 0, 0, 0⟩ 0 → ScM (Z4 Z w.heap.size) W mb mm mc b0 cv tv kv s → Calls Tryz.prog 113 #[.pointer (some ⟨w.heap.size + 1 + 1 + 1, 0, none⟩)] W fun e w' => e = .returned (.agg #[.int .i64 (pc : Int), .int .u32 r0, .int .u32 r1, .int .u32 r2, .int .u32 r3, .int .u32 r4, .int .u32 r5, .int .u32 r6, .int .u32 r7, .int .i64 2]) ∧ ScM (Z4 Z w.heap.size) w' mb mm mc b0 cv tv kv (s.note ⟨12, 0, pc, 0, 0, 0, 0, false⟩) ∧ Only (fun k => ¬ Z4 Z w.heap.size k ∨ k = w.heap.size + 1 + 1 + 1) W w' := fun W hR hM => halts_run (Z4 Z w.heap.size) W _ n mb mm mc b0 cv tv kv s _ ⟨0, 0, 0, 0, 0⟩ 0 hR hM (.inr (.inr (.inr (.inr rfl)))) hn
  go_enter Tryz.func69, Tryz.ntmps69
  go_wp2_with fail
  refine (hh _ HS.out.1 HS.out.2.2.2.2.1).mono ?_
  rintro r w2 ⟨rfl, hM2, hO2⟩
  have HRES := Lib.hid (HS.out.res hO2)
  have HM2 := Lib.hid hM2
  have hN := HRES.out.1
  have G0 := frozen_of_row _ (w.heap.size + 1 + 1) 0 _ _ hN; have G1 := frozen_of_row _ (w.heap.size + 1 + 1) 1 _ _ hN; have G2 := frozen_of_row _ (w.heap.size + 1 + 1) 2 _ _ hN; have G3 := frozen_of_row _ (w.heap.size + 1 + 1) 3 _ _ hN; have G4 := frozen_of_row _ (w.heap.size + 1 + 1) 4 _ _ hN; have G5 := frozen_of_row _ (w.heap.size + 1 + 1) 5 _ _ hN; have G6 := frozen_of_row _ (w.heap.size + 1 + 1) 6 _ _ hN; have G7 := frozen_of_row _ (w.heap.size + 1 + 1) 7 _ _ hN; have G8 := frozen_of_row _ (w.heap.size + 1 + 1) 8 _ _ hN; have G9 := frozen_of_row _ (w.heap.size + 1 + 1) 9 _ _ hN; obtain ⟨v0, v1, v2, v3, v4, v5, v6, v7, v8, v9⟩ := cells10 hN
  clear hN hM2 hO2
  go_wp2_with fail
  have hN := HRES.out.1
  obtain ⟨hs1, hs2⟩ := set10 hN (.int .i64 (pc : Int)) (.int .u32 r0) (.int .u32 r1) (.int .u32 r2) (.int .u32 r3) (.int .u32 r4) (.int .u32 r5) (.int .u32 r6) (.int .u32 r7) (.int .i64 2)
  refine bodyPost_ret (results_th rfl _ _ (w.heap.size + 1 + 1) _ _ _ _ _ _ _ _ _ _ hs1 rfl) rfl ?_
  have hf := StW.fin HM2.out HRES.out.2 (fun k e _ => e) (hs2.mono (fun k e => .inr e))
  exact ⟨rfl, rfl, hf.1, hf.2⟩
end Go.Proofs.YtackbadmcgjncaaGreatDoor.As
