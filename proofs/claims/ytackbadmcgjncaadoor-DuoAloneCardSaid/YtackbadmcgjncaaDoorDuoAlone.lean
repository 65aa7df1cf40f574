/- The walks of the package duo: whose side; a call's code. The law DuoAlone. From a row's condition to the tables in memory; what a call of an object is, opened. A thread alone, tried by the machine as it is set: its acquire and its release of any object of the package duo come to their ends in the answers that the document gives, for every case and every thread, the tables of the packages obj and isa being as the program's text lays them. -/
import Derived.Test.YtackbadmcgjncaaDoorBld
import Derived.Test.YtackbadmcgjncaaDoorDuoA
import Derived.Test.YtackbadmcgjncaaDoorBlk
import Derived.Test.YtackbadmcgjncaaDoorLocks2
import Derived.Test.YtackbadmcgjncaaDoorAlZ
import Derived.Test.YtackbadmcgjncaaDoorAlQ
import Derived.Deep.RegionHeld
import Derived.WalkKit
import Derived.ProofKit
import Derived.OpenShut
import Derived.Deep.DeepHandedRow
import Derived.Lib.LaidTab
import Derived.Test.YtackbadmcgjncaaDoorCards
import Derived.Test.YtackbadmcgjncaaDoorTie
import Derived.Below
import Derived.Carry
set_option linter.unusedVariables false
set_option linter.unusedSimpArgs false
set_option maxRecDepth 20000
namespace Go.Proofs.YtackbadmcgjncaaDoor.As
open Go.RowKit

abbrev sideV (a b c d e : Int) : Value := .agg #[.int .u32 a, .int .u32 b, .int .u32 c, .int .u32 d, .int .u32 e]
theorem results_side {fn : Func} {p u : Tmp} (h : fn.results = #[.cell p 115, .tmp u]) (tmps : Array Value) (w : World) (R : Nat) (a b c d e : Int) (hb : w.heap[R]? = some (.cells #[.int .u32 a, .int .u32 b, .int .u32 c, .int .u32 d, .int .u32 e] 115 (0, 0))) (hp : tmps.getD p undef = .pointer (some ⟨R, 0, none⟩)) :
    (results fn tmps).run Tryd.prog w = .ok (.tuple #[sideV a b c d e, tmps.getD u undef]) w := by
  have hl := run_loadVar_row (P := Tryd.prog) w R 115 115 _ _ _ hb Tryd.underlying115 rfl (by kernel_rfl)
  simp only [Array.getD_eq_getD_getElem?] at hp
  simp [results, h, hp, asAddr, hl]
theorem new2 (w : World) (x y : Obj) : ((w.alloc x).alloc y).heap[w.heap.size + 1]? = some y := by
  have h := heap_alloc_new (w.alloc x) y
  rwa [World.size_alloc] at h
theorem sides_petA (w : World) (n a b : Int) (t base : Nat) (hb : base ≤ 100000) :
    Calls Tryd.prog 68 #[.agg #[.int .i64 6, .int .i64 n, .int .i64 t, .int .i64 b], .int .i64 t, .int .u32 base] w fun e w' => e = .returned (.tuple #[sideV ((base + 0 : Nat) : Int) ((base + 1 : Nat) : Int) ((base + 2 : Nat) : Int) ((base + 3 : Nat) : Int) 1, .func (.func 108) #[] #[]]) ∧ Below w.heap.size w w' := by
  have e1 : IntKind.u32.wrap ((base : Int) + 1) = ((base + 1 : Nat) : Int) := by rw [IntKind.wrap_u32]; omega
  have e2 : IntKind.u32.wrap ((base : Int) + 2) = ((base + 2 : Nat) : Int) := by rw [IntKind.wrap_u32]; omega
  have e3 : IntKind.u32.wrap ((base : Int) + 3) = ((base + 3 : Nat) : Int) := by rw [IntKind.wrap_u32]; omega
  go_enter Tryd.func68, Tryd.ntmps68
  go_wp2_with fail
  refine bodyPost_ret (results_side rfl _ _ (w.heap.size + 1) _ _ _ _ _ (new2 _ _ _) rfl) rfl ?_
  exact ⟨rfl, ((Below.refl _ w).alloc (Nat.le_refl _) _).alloc (by simp) _⟩
theorem sides_petB (w : World) (n a b : Int) (t base : Nat) (hb : base ≤ 100000) (he : ((t : Int) == a) = false) :
    Calls Tryd.prog 68 #[.agg #[.int .i64 6, .int .i64 n, .int .i64 a, .int .i64 b], .int .i64 t, .int .u32 base] w fun e w' => e = .returned (.tuple #[sideV ((base + 1 : Nat) : Int) ((base + 0 : Nat) : Int) ((base + 2 : Nat) : Int) ((base + 3 : Nat) : Int) 0, .func (.func 108) #[] #[]]) ∧ Below w.heap.size w w' := by
  have e1 : IntKind.u32.wrap ((base : Int) + 1) = ((base + 1 : Nat) : Int) := by rw [IntKind.wrap_u32]; omega
  have e2 : IntKind.u32.wrap ((base : Int) + 2) = ((base + 2 : Nat) : Int) := by rw [IntKind.wrap_u32]; omega
  have e3 : IntKind.u32.wrap ((base : Int) + 3) = ((base + 3 : Nat) : Int) := by rw [IntKind.wrap_u32]; omega
  go_enter Tryd.func68, Tryd.ntmps68
  go_wp2_with fail
  refine bodyPost_ret (results_side rfl _ _ (w.heap.size + 1) _ _ _ _ _ (new2 _ _ _) rfl) rfl ?_
  exact ⟨rfl, ((Below.refl _ w).alloc (Nat.le_refl _) _).alloc (by simp) _⟩
theorem sides_dekA (w : World) (n a b : Int) (t base : Nat) (hb : base ≤ 100000) :
    Calls Tryd.prog 68 #[.agg #[.int .i64 7, .int .i64 n, .int .i64 t, .int .i64 b], .int .i64 t, .int .u32 base] w fun e w' => e = .returned (.tuple #[sideV ((base + 0 : Nat) : Int) ((base + 1 : Nat) : Int) 0 ((base + 2 : Nat) : Int) 0, .func (.func 109) #[] #[]]) ∧ Below w.heap.size w w' := by
  have e1 : IntKind.u32.wrap ((base : Int) + 1) = ((base + 1 : Nat) : Int) := by rw [IntKind.wrap_u32]; omega
  have e2 : IntKind.u32.wrap ((base : Int) + 2) = ((base + 2 : Nat) : Int) := by rw [IntKind.wrap_u32]; omega
  have e3 : IntKind.u32.wrap ((base : Int) + 3) = ((base + 3 : Nat) : Int) := by rw [IntKind.wrap_u32]; omega
  go_enter Tryd.func68, Tryd.ntmps68
  go_wp2_with fail
  refine bodyPost_ret (results_side rfl _ _ (w.heap.size + 1) _ _ _ _ _ (new2 _ _ _) rfl) rfl ?_
  exact ⟨rfl, ((Below.refl _ w).alloc (Nat.le_refl _) _).alloc (by simp) _⟩
theorem sides_dekB (w : World) (n a b : Int) (t base : Nat) (hb : base ≤ 100000) (he : ((t : Int) == a) = false) :
    Calls Tryd.prog 68 #[.agg #[.int .i64 7, .int .i64 n, .int .i64 a, .int .i64 b], .int .i64 t, .int .u32 base] w fun e w' => e = .returned (.tuple #[sideV ((base + 1 : Nat) : Int) ((base + 0 : Nat) : Int) 0 ((base + 2 : Nat) : Int) 0, .func (.func 110) #[] #[]]) ∧ Below w.heap.size w w' := by
  have e1 : IntKind.u32.wrap ((base : Int) + 1) = ((base + 1 : Nat) : Int) := by rw [IntKind.wrap_u32]; omega
  have e2 : IntKind.u32.wrap ((base : Int) + 2) = ((base + 2 : Nat) : Int) := by rw [IntKind.wrap_u32]; omega
  have e3 : IntKind.u32.wrap ((base : Int) + 3) = ((base + 3 : Nat) : Int) := by rw [IntKind.wrap_u32]; omega
  go_enter Tryd.func68, Tryd.ntmps68
  go_wp2_with fail
  refine bodyPost_ret (results_side rfl _ _ (w.heap.size + 1) _ _ _ _ _ (new2 _ _ _) rfl) rfl ?_
  exact ⟨rfl, ((Below.refl _ w).alloc (Nat.le_refl _) _).alloc (by simp) _⟩
set_option maxHeartbeats 4000000 in
theorem codePetInA_any (w : World) (TI : TabI w) (TO : TabO w) (n b : Int) (th ar : Int) (t base : Nat) (hA : AskP 6 n t b 1 th t) (hb : base ≤ 100000) (ht : t ≤ 100000) :
    Calls Tryd.prog 31 #[.agg #[.int .i64 6, .int .i64 n, .int .i64 t, .int .i64 b], .int .i64 1, .int .i64 th, .int .i64 t, .int .u32 base, .int .u32 ar] w (CodeOk w (linPetInA base t)) := by
  have dA : decide (AskP 6 n t b 1 th t) = true := decide_eq_true hA
  have ha : ∀ o, Below w.heap.size w (w.alloc o) := fun o => (Below.refl _ w).alloc (Nat.le_refl _) o
  have TA : ∀ o, TabO (w.alloc o) := fun o => TO.below (ha o) (Nat.le_refl _)
  go_enter Tryd.func31, Tryd.ntmps31
  go_wp2_with (go_at_call 33; refine (spinMay_any _ (TA _) _ _ _ _ _ _ _).mono ?_; rintro e w1 ⟨rfl, hb1⟩; have hx := new_keep hb1; obtain ⟨c0, c1, c2, c3⟩ := cells4 hx; obtain ⟨d0, d1, d2, d3⟩ := cells4 (obj_keep hx ((Below.refl _ w1).alloc (Nat.le_refl _) zeroB)))
  have h2 := bat_zero w1
  have T1 : TabI w1 := (TI.below (ha _) (Nat.le_refl _)).below hb1 (Nat.le_refl _)
  have hw1 := (ha (.cells #[.int .i64 6, .int .i64 n, .int .i64 t, .int .i64 b] 26)).trans (hb1.mono (by simp))
  refine (sides_petA _ _ 0 _ _ _ hb).mono ?_; rintro e w3 ⟨rfl, hb3⟩
  have h3 := h2.below hb3
  go_wp2_with fail
  obtain ⟨F, hB, hF, hback⟩ := h3.alloc (.cells #[.int .u32 ((base + 0 : Nat) : Int), .int .u32 ((base + 1 : Nat) : Int), .int .u32 ((base + 2 : Nat) : Int), .int .u32 ((base + 3 : Nat) : Int), .int .u32 1] 115)
  have hW := heap_alloc_new w3 (.cells #[.int .u32 ((base + 0 : Nat) : Int), .int .u32 ((base + 1 : Nat) : Int), .int .u32 ((base + 2 : Nat) : Int), .int .u32 ((base + 3 : Nat) : Int), .int .u32 1] 115)
  refine (claim_at hB (by omega) (base + 3) t (by omega)).mono ?_; rintro e w4 ⟨rfl, h4⟩
  obtain ⟨g0, g1, g2, g3, g4⟩ := cells5 (h4.kept hF (by simp) hW)
  go_wp2_with fail
  refine (petIn_at h4 (by omega) (base + 0) (base + 1) (base + 2) (base + 3) 1).mono ?_; rintro e w5 ⟨rfl, h5⟩
  go_wp2_with fail
  refine (close_at h5 (by omega)).mono ?_; rintro e w6 ⟨rfl, h6⟩
  go_wp2_with fail
  refine (code_at (b := linPetInA base t) (hback _ _ _ h6) (by simp only [← BS.run_app]; exact congrArg (BS.run BS.zero) rfl) T1 (okPetInA (by omega) (by omega))).mono ?_; rintro e w20 h20
  obtain ⟨⟨v, rfl, hv⟩, hb20⟩ := h20
  go_wp2_with fail
  first | go_ret2 | go_ret
  exact ⟨⟨v, rfl, own_base' hv hw1.size⟩, hw1.trans (hb20.mono hw1.size)⟩
set_option maxHeartbeats 4000000 in
theorem codePetInB_any (w : World) (TI : TabI w) (TO : TabO w) (n a : Int) (th ar : Int) (t base : Nat) (hA : AskP 6 n a t 1 th t) (hb : base ≤ 100000) (ht : t ≤ 100000) (he : ((t : Int) == a) = false) (hm : ((t : Int) != a) = true) :
    Calls Tryd.prog 31 #[.agg #[.int .i64 6, .int .i64 n, .int .i64 a, .int .i64 t], .int .i64 1, .int .i64 th, .int .i64 t, .int .u32 base, .int .u32 ar] w (CodeOk w (linPetInB base t)) := by
  have dA : decide (AskP 6 n a t 1 th t) = true := decide_eq_true hA
  have ha : ∀ o, Below w.heap.size w (w.alloc o) := fun o => (Below.refl _ w).alloc (Nat.le_refl _) o
  have TA : ∀ o, TabO (w.alloc o) := fun o => TO.below (ha o) (Nat.le_refl _)
  go_enter Tryd.func31, Tryd.ntmps31
  go_wp2_with (go_at_call 33; refine (spinMay_any _ (TA _) _ _ _ _ _ _ _).mono ?_; rintro e w1 ⟨rfl, hb1⟩; have hx := new_keep hb1; obtain ⟨c0, c1, c2, c3⟩ := cells4 hx; obtain ⟨d0, d1, d2, d3⟩ := cells4 (obj_keep hx ((Below.refl _ w1).alloc (Nat.le_refl _) zeroB)))
  have h2 := bat_zero w1
  have T1 : TabI w1 := (TI.below (ha _) (Nat.le_refl _)).below hb1 (Nat.le_refl _)
  have hw1 := (ha (.cells #[.int .i64 6, .int .i64 n, .int .i64 a, .int .i64 t] 26)).trans (hb1.mono (by simp))
  refine (sides_petB _ _ _ _ _ _ hb he).mono ?_; rintro e w3 ⟨rfl, hb3⟩
  have h3 := h2.below hb3
  go_wp2_with fail
  obtain ⟨F, hB, hF, hback⟩ := h3.alloc (.cells #[.int .u32 ((base + 1 : Nat) : Int), .int .u32 ((base + 0 : Nat) : Int), .int .u32 ((base + 2 : Nat) : Int), .int .u32 ((base + 3 : Nat) : Int), .int .u32 0] 115)
  have hW := heap_alloc_new w3 (.cells #[.int .u32 ((base + 1 : Nat) : Int), .int .u32 ((base + 0 : Nat) : Int), .int .u32 ((base + 2 : Nat) : Int), .int .u32 ((base + 3 : Nat) : Int), .int .u32 0] 115)
  refine (claim_at hB (by omega) (base + 3) t (by omega)).mono ?_; rintro e w4 ⟨rfl, h4⟩
  obtain ⟨g0, g1, g2, g3, g4⟩ := cells5 (h4.kept hF (by simp) hW)
  go_wp2_with fail
  refine (petIn_at h4 (by omega) (base + 1) (base + 0) (base + 2) (base + 3) 0).mono ?_; rintro e w5 ⟨rfl, h5⟩
  go_wp2_with fail
  refine (close_at h5 (by omega)).mono ?_; rintro e w6 ⟨rfl, h6⟩
  go_wp2_with fail
  refine (code_at (b := linPetInB base t) (hback _ _ _ h6) (by simp only [← BS.run_app]; exact congrArg (BS.run BS.zero) rfl) T1 (okPetInB (by omega) (by omega))).mono ?_; rintro e w20 h20
  obtain ⟨⟨v, rfl, hv⟩, hb20⟩ := h20
  go_wp2_with fail
  first | go_ret2 | go_ret
  exact ⟨⟨v, rfl, own_base' hv hw1.size⟩, hw1.trans (hb20.mono hw1.size)⟩
set_option maxHeartbeats 4000000 in
theorem codePetOutA_any (w : World) (TI : TabI w) (TO : TabO w) (n b : Int) (th ar : Int) (t base : Nat) (hA : AskP 6 n t b 2 th t) (hb : base ≤ 100000) (ht : t ≤ 100000) :
    Calls Tryd.prog 31 #[.agg #[.int .i64 6, .int .i64 n, .int .i64 t, .int .i64 b], .int .i64 2, .int .i64 th, .int .i64 t, .int .u32 base, .int .u32 ar] w (CodeOk w (linPetOutA base t)) := by
  have dA : decide (AskP 6 n t b 2 th t) = true := decide_eq_true hA
  have ha : ∀ o, Below w.heap.size w (w.alloc o) := fun o => (Below.refl _ w).alloc (Nat.le_refl _) o
  have TA : ∀ o, TabO (w.alloc o) := fun o => TO.below (ha o) (Nat.le_refl _)
  go_enter Tryd.func31, Tryd.ntmps31
  go_wp2_with (go_at_call 33; refine (spinMay_any _ (TA _) _ _ _ _ _ _ _).mono ?_; rintro e w1 ⟨rfl, hb1⟩; have hx := new_keep hb1; obtain ⟨c0, c1, c2, c3⟩ := cells4 hx; obtain ⟨d0, d1, d2, d3⟩ := cells4 (obj_keep hx ((Below.refl _ w1).alloc (Nat.le_refl _) zeroB)))
  have h2 := bat_zero w1
  have T1 : TabI w1 := (TI.below (ha _) (Nat.le_refl _)).below hb1 (Nat.le_refl _)
  have hw1 := (ha (.cells #[.int .i64 6, .int .i64 n, .int .i64 t, .int .i64 b] 26)).trans (hb1.mono (by simp))
  refine (sides_petA _ _ 0 _ _ _ hb).mono ?_; rintro e w3 ⟨rfl, hb3⟩
  have h3 := h2.below hb3
  go_wp2_with fail
  obtain ⟨F, hB, hF, hback⟩ := h3.alloc (.cells #[.int .u32 ((base + 0 : Nat) : Int), .int .u32 ((base + 1 : Nat) : Int), .int .u32 ((base + 2 : Nat) : Int), .int .u32 ((base + 3 : Nat) : Int), .int .u32 1] 115)
  have hW := heap_alloc_new w3 (.cells #[.int .u32 ((base + 0 : Nat) : Int), .int .u32 ((base + 1 : Nat) : Int), .int .u32 ((base + 2 : Nat) : Int), .int .u32 ((base + 3 : Nat) : Int), .int .u32 1] 115)
  refine (prove_at hB (by omega) (base + 3) t (by omega)).mono ?_; rintro e w4 ⟨rfl, h4⟩
  obtain ⟨g0, g1, g2, g3, g4⟩ := cells5 (h4.kept hF (by simp) hW)
  go_wp2_with fail
  refine (sideOut_at h4 (by omega) (base + 0) (base + 1) (base + 2) (base + 3) 1).mono ?_; rintro e w5 ⟨rfl, h5⟩
  go_wp2_with fail
  refine (close_at h5 (by omega)).mono ?_; rintro e w6 ⟨rfl, h6⟩
  go_wp2_with fail
  refine (code_at (b := linPetOutA base t) (hback _ _ _ h6) (by simp only [← BS.run_app]; exact congrArg (BS.run BS.zero) rfl) T1 (okPetOutA (by omega) (by omega))).mono ?_; rintro e w20 h20
  obtain ⟨⟨v, rfl, hv⟩, hb20⟩ := h20
  go_wp2_with fail
  first | go_ret2 | go_ret
  exact ⟨⟨v, rfl, own_base' hv hw1.size⟩, hw1.trans (hb20.mono hw1.size)⟩
set_option maxHeartbeats 4000000 in
theorem codePetOutB_any (w : World) (TI : TabI w) (TO : TabO w) (n a : Int) (th ar : Int) (t base : Nat) (hA : AskP 6 n a t 2 th t) (hb : base ≤ 100000) (ht : t ≤ 100000) (he : ((t : Int) == a) = false) (hm : ((t : Int) != a) = true) :
    Calls Tryd.prog 31 #[.agg #[.int .i64 6, .int .i64 n, .int .i64 a, .int .i64 t], .int .i64 2, .int .i64 th, .int .i64 t, .int .u32 base, .int .u32 ar] w (CodeOk w (linPetOutB base t)) := by
  have dA : decide (AskP 6 n a t 2 th t) = true := decide_eq_true hA
  have ha : ∀ o, Below w.heap.size w (w.alloc o) := fun o => (Below.refl _ w).alloc (Nat.le_refl _) o
  have TA : ∀ o, TabO (w.alloc o) := fun o => TO.below (ha o) (Nat.le_refl _)
  go_enter Tryd.func31, Tryd.ntmps31
  go_wp2_with (go_at_call 33; refine (spinMay_any _ (TA _) _ _ _ _ _ _ _).mono ?_; rintro e w1 ⟨rfl, hb1⟩; have hx := new_keep hb1; obtain ⟨c0, c1, c2, c3⟩ := cells4 hx; obtain ⟨d0, d1, d2, d3⟩ := cells4 (obj_keep hx ((Below.refl _ w1).alloc (Nat.le_refl _) zeroB)))
  have h2 := bat_zero w1
  have T1 : TabI w1 := (TI.below (ha _) (Nat.le_refl _)).below hb1 (Nat.le_refl _)
  have hw1 := (ha (.cells #[.int .i64 6, .int .i64 n, .int .i64 a, .int .i64 t] 26)).trans (hb1.mono (by simp))
  refine (sides_petB _ _ _ _ _ _ hb he).mono ?_; rintro e w3 ⟨rfl, hb3⟩
  have h3 := h2.below hb3
  go_wp2_with fail
  obtain ⟨F, hB, hF, hback⟩ := h3.alloc (.cells #[.int .u32 ((base + 1 : Nat) : Int), .int .u32 ((base + 0 : Nat) : Int), .int .u32 ((base + 2 : Nat) : Int), .int .u32 ((base + 3 : Nat) : Int), .int .u32 0] 115)
  have hW := heap_alloc_new w3 (.cells #[.int .u32 ((base + 1 : Nat) : Int), .int .u32 ((base + 0 : Nat) : Int), .int .u32 ((base + 2 : Nat) : Int), .int .u32 ((base + 3 : Nat) : Int), .int .u32 0] 115)
  refine (prove_at hB (by omega) (base + 3) t (by omega)).mono ?_; rintro e w4 ⟨rfl, h4⟩
  obtain ⟨g0, g1, g2, g3, g4⟩ := cells5 (h4.kept hF (by simp) hW)
  go_wp2_with fail
  refine (sideOut_at h4 (by omega) (base + 1) (base + 0) (base + 2) (base + 3) 0).mono ?_; rintro e w5 ⟨rfl, h5⟩
  go_wp2_with fail
  refine (close_at h5 (by omega)).mono ?_; rintro e w6 ⟨rfl, h6⟩
  go_wp2_with fail
  refine (code_at (b := linPetOutB base t) (hback _ _ _ h6) (by simp only [← BS.run_app]; exact congrArg (BS.run BS.zero) rfl) T1 (okPetOutB (by omega) (by omega))).mono ?_; rintro e w20 h20
  obtain ⟨⟨v, rfl, hv⟩, hb20⟩ := h20
  go_wp2_with fail
  first | go_ret2 | go_ret
  exact ⟨⟨v, rfl, own_base' hv hw1.size⟩, hw1.trans (hb20.mono hw1.size)⟩
set_option maxHeartbeats 4000000 in
theorem codeDekFast_any (w : World) (TI : TabI w) (TO : TabO w) (n b : Int) (th ar : Int) (t base : Nat) (hA : AskP 7 n t b 1 th t) (hb : base ≤ 100000) (ht : t ≤ 100000) :
    Calls Tryd.prog 31 #[.agg #[.int .i64 7, .int .i64 n, .int .i64 t, .int .i64 b], .int .i64 1, .int .i64 th, .int .i64 t, .int .u32 base, .int .u32 ar] w (CodeOk w (linDekFast base t)) := by
  have dA : decide (AskP 7 n t b 1 th t) = true := decide_eq_true hA
  have ha : ∀ o, Below w.heap.size w (w.alloc o) := fun o => (Below.refl _ w).alloc (Nat.le_refl _) o
  have TA : ∀ o, TabO (w.alloc o) := fun o => TO.below (ha o) (Nat.le_refl _)
  go_enter Tryd.func31, Tryd.ntmps31
  go_wp2_with (go_at_call 33; refine (spinMay_any _ (TA _) _ _ _ _ _ _ _).mono ?_; rintro e w1 ⟨rfl, hb1⟩; have hx := new_keep hb1; obtain ⟨c0, c1, c2, c3⟩ := cells4 hx; obtain ⟨d0, d1, d2, d3⟩ := cells4 (obj_keep hx ((Below.refl _ w1).alloc (Nat.le_refl _) zeroB)))
  have h2 := bat_zero w1
  have T1 : TabI w1 := (TI.below (ha _) (Nat.le_refl _)).below hb1 (Nat.le_refl _)
  have hw1 := (ha (.cells #[.int .i64 7, .int .i64 n, .int .i64 t, .int .i64 b] 26)).trans (hb1.mono (by simp))
  refine (sides_dekA _ _ 0 _ _ _ hb).mono ?_; rintro e w3 ⟨rfl, hb3⟩
  have h3 := h2.below hb3
  go_wp2_with fail
  obtain ⟨F, hB, hF, hback⟩ := h3.alloc (.cells #[.int .u32 ((base + 0 : Nat) : Int), .int .u32 ((base + 1 : Nat) : Int), .int .u32 0, .int .u32 ((base + 2 : Nat) : Int), .int .u32 0] 115)
  have hW := heap_alloc_new w3 (.cells #[.int .u32 ((base + 0 : Nat) : Int), .int .u32 ((base + 1 : Nat) : Int), .int .u32 0, .int .u32 ((base + 2 : Nat) : Int), .int .u32 0] 115)
  refine (claim_at hB (by omega) (base + 2) t (by omega)).mono ?_; rintro e w4 ⟨rfl, h4⟩
  obtain ⟨g0, g1, g2, g3, g4⟩ := cells5 (h4.kept hF (by simp) hW)
  go_wp2_with fail
  refine (fastIn_at h4 (by omega) (base + 0) (base + 1) 0 (base + 2) 0).mono ?_; rintro e w5 ⟨rfl, h5⟩
  go_wp2_with fail
  refine (close_at h5 (by omega)).mono ?_; rintro e w6 ⟨rfl, h6⟩
  go_wp2_with fail
  refine (code_at (b := linDekFast base t) (hback _ _ _ h6) (by simp only [← BS.run_app]; exact congrArg (BS.run BS.zero) rfl) T1 (okDekFast (by omega) (by omega))).mono ?_; rintro e w20 h20
  obtain ⟨⟨v, rfl, hv⟩, hb20⟩ := h20
  go_wp2_with fail
  first | go_ret2 | go_ret
  exact ⟨⟨v, rfl, own_base' hv hw1.size⟩, hw1.trans (hb20.mono hw1.size)⟩
set_option maxHeartbeats 4000000 in
theorem codeDekSlow_any (w : World) (TI : TabI w) (TO : TabO w) (n a : Int) (th ar : Int) (t base : Nat) (hA : AskP 7 n a t 1 th t) (hb : base ≤ 100000) (ht : t ≤ 100000) (he : ((t : Int) == a) = false) (hm : ((t : Int) != a) = true) :
    Calls Tryd.prog 31 #[.agg #[.int .i64 7, .int .i64 n, .int .i64 a, .int .i64 t], .int .i64 1, .int .i64 th, .int .i64 t, .int .u32 base, .int .u32 ar] w (CodeOk w (linDekSlow base t)) := by
  have dA : decide (AskP 7 n a t 1 th t) = true := decide_eq_true hA
  have ha : ∀ o, Below w.heap.size w (w.alloc o) := fun o => (Below.refl _ w).alloc (Nat.le_refl _) o
  have TA : ∀ o, TabO (w.alloc o) := fun o => TO.below (ha o) (Nat.le_refl _)
  go_enter Tryd.func31, Tryd.ntmps31
  go_wp2_with (go_at_call 33; refine (spinMay_any _ (TA _) _ _ _ _ _ _ _).mono ?_; rintro e w1 ⟨rfl, hb1⟩; have hx := new_keep hb1; obtain ⟨c0, c1, c2, c3⟩ := cells4 hx; obtain ⟨d0, d1, d2, d3⟩ := cells4 (obj_keep hx ((Below.refl _ w1).alloc (Nat.le_refl _) zeroB)))
  have h2 := bat_zero w1
  have T1 : TabI w1 := (TI.below (ha _) (Nat.le_refl _)).below hb1 (Nat.le_refl _)
  have hw1 := (ha (.cells #[.int .i64 7, .int .i64 n, .int .i64 a, .int .i64 t] 26)).trans (hb1.mono (by simp))
  refine (sides_dekB _ _ _ _ _ _ hb he).mono ?_; rintro e w3 ⟨rfl, hb3⟩
  have h3 := h2.below hb3
  go_wp2_with fail
  obtain ⟨F, hB, hF, hback⟩ := h3.alloc (.cells #[.int .u32 ((base + 1 : Nat) : Int), .int .u32 ((base + 0 : Nat) : Int), .int .u32 0, .int .u32 ((base + 2 : Nat) : Int), .int .u32 0] 115)
  have hW := heap_alloc_new w3 (.cells #[.int .u32 ((base + 1 : Nat) : Int), .int .u32 ((base + 0 : Nat) : Int), .int .u32 0, .int .u32 ((base + 2 : Nat) : Int), .int .u32 0] 115)
  refine (claim_at hB (by omega) (base + 2) t (by omega)).mono ?_; rintro e w4 ⟨rfl, h4⟩
  obtain ⟨g0, g1, g2, g3, g4⟩ := cells5 (h4.kept hF (by simp) hW)
  go_wp2_with fail
  refine (slowIn_at h4 (by omega) (base + 1) (base + 0) 0 (base + 2) 0).mono ?_; rintro e w5 ⟨rfl, h5⟩
  go_wp2_with fail
  refine (close_at h5 (by omega)).mono ?_; rintro e w6 ⟨rfl, h6⟩
  go_wp2_with fail
  refine (code_at (b := linDekSlow base t) (hback _ _ _ h6) (by simp only [← BS.run_app]; exact congrArg (BS.run BS.zero) rfl) T1 (okDekSlow (by omega) (by omega))).mono ?_; rintro e w20 h20
  obtain ⟨⟨v, rfl, hv⟩, hb20⟩ := h20
  go_wp2_with fail
  first | go_ret2 | go_ret
  exact ⟨⟨v, rfl, own_base' hv hw1.size⟩, hw1.trans (hb20.mono hw1.size)⟩
set_option maxHeartbeats 4000000 in
theorem codeDekOutA_any (w : World) (TI : TabI w) (TO : TabO w) (n b : Int) (th ar : Int) (t base : Nat) (hA : AskP 7 n t b 2 th t) (hb : base ≤ 100000) (ht : t ≤ 100000) :
    Calls Tryd.prog 31 #[.agg #[.int .i64 7, .int .i64 n, .int .i64 t, .int .i64 b], .int .i64 2, .int .i64 th, .int .i64 t, .int .u32 base, .int .u32 ar] w (CodeOk w (linDekOutA base t)) := by
  have dA : decide (AskP 7 n t b 2 th t) = true := decide_eq_true hA
  have ha : ∀ o, Below w.heap.size w (w.alloc o) := fun o => (Below.refl _ w).alloc (Nat.le_refl _) o
  have TA : ∀ o, TabO (w.alloc o) := fun o => TO.below (ha o) (Nat.le_refl _)
  go_enter Tryd.func31, Tryd.ntmps31
  go_wp2_with (go_at_call 33; refine (spinMay_any _ (TA _) _ _ _ _ _ _ _).mono ?_; rintro e w1 ⟨rfl, hb1⟩; have hx := new_keep hb1; obtain ⟨c0, c1, c2, c3⟩ := cells4 hx; obtain ⟨d0, d1, d2, d3⟩ := cells4 (obj_keep hx ((Below.refl _ w1).alloc (Nat.le_refl _) zeroB)))
  have h2 := bat_zero w1
  have T1 : TabI w1 := (TI.below (ha _) (Nat.le_refl _)).below hb1 (Nat.le_refl _)
  have hw1 := (ha (.cells #[.int .i64 7, .int .i64 n, .int .i64 t, .int .i64 b] 26)).trans (hb1.mono (by simp))
  refine (sides_dekA _ _ 0 _ _ _ hb).mono ?_; rintro e w3 ⟨rfl, hb3⟩
  have h3 := h2.below hb3
  go_wp2_with fail
  obtain ⟨F, hB, hF, hback⟩ := h3.alloc (.cells #[.int .u32 ((base + 0 : Nat) : Int), .int .u32 ((base + 1 : Nat) : Int), .int .u32 0, .int .u32 ((base + 2 : Nat) : Int), .int .u32 0] 115)
  have hW := heap_alloc_new w3 (.cells #[.int .u32 ((base + 0 : Nat) : Int), .int .u32 ((base + 1 : Nat) : Int), .int .u32 0, .int .u32 ((base + 2 : Nat) : Int), .int .u32 0] 115)
  refine (prove_at hB (by omega) (base + 2) t (by omega)).mono ?_; rintro e w4 ⟨rfl, h4⟩
  obtain ⟨g0, g1, g2, g3, g4⟩ := cells5 (h4.kept hF (by simp) hW)
  go_wp2_with fail
  refine (sideOut_at h4 (by omega) (base + 0) (base + 1) 0 (base + 2) 0).mono ?_; rintro e w5 ⟨rfl, h5⟩
  go_wp2_with fail
  refine (close_at h5 (by omega)).mono ?_; rintro e w6 ⟨rfl, h6⟩
  go_wp2_with fail
  refine (code_at (b := linDekOutA base t) (hback _ _ _ h6) (by simp only [← BS.run_app]; exact congrArg (BS.run BS.zero) rfl) T1 (okDekOutA (by omega) (by omega))).mono ?_; rintro e w20 h20
  obtain ⟨⟨v, rfl, hv⟩, hb20⟩ := h20
  go_wp2_with fail
  first | go_ret2 | go_ret
  exact ⟨⟨v, rfl, own_base' hv hw1.size⟩, hw1.trans (hb20.mono hw1.size)⟩
set_option maxHeartbeats 4000000 in
theorem codeDekOutB_any (w : World) (TI : TabI w) (TO : TabO w) (n a : Int) (th ar : Int) (t base : Nat) (hA : AskP 7 n a t 2 th t) (hb : base ≤ 100000) (ht : t ≤ 100000) (he : ((t : Int) == a) = false) (hm : ((t : Int) != a) = true) :
    Calls Tryd.prog 31 #[.agg #[.int .i64 7, .int .i64 n, .int .i64 a, .int .i64 t], .int .i64 2, .int .i64 th, .int .i64 t, .int .u32 base, .int .u32 ar] w (CodeOk w (linDekOutB base t)) := by
  have dA : decide (AskP 7 n a t 2 th t) = true := decide_eq_true hA
  have ha : ∀ o, Below w.heap.size w (w.alloc o) := fun o => (Below.refl _ w).alloc (Nat.le_refl _) o
  have TA : ∀ o, TabO (w.alloc o) := fun o => TO.below (ha o) (Nat.le_refl _)
  go_enter Tryd.func31, Tryd.ntmps31
  go_wp2_with (go_at_call 33; refine (spinMay_any _ (TA _) _ _ _ _ _ _ _).mono ?_; rintro e w1 ⟨rfl, hb1⟩; have hx := new_keep hb1; obtain ⟨c0, c1, c2, c3⟩ := cells4 hx; obtain ⟨d0, d1, d2, d3⟩ := cells4 (obj_keep hx ((Below.refl _ w1).alloc (Nat.le_refl _) zeroB)))
  have h2 := bat_zero w1
  have T1 : TabI w1 := (TI.below (ha _) (Nat.le_refl _)).below hb1 (Nat.le_refl _)
  have hw1 := (ha (.cells #[.int .i64 7, .int .i64 n, .int .i64 a, .int .i64 t] 26)).trans (hb1.mono (by simp))
  refine (sides_dekB _ _ _ _ _ _ hb he).mono ?_; rintro e w3 ⟨rfl, hb3⟩
  have h3 := h2.below hb3
  go_wp2_with fail
  obtain ⟨F, hB, hF, hback⟩ := h3.alloc (.cells #[.int .u32 ((base + 1 : Nat) : Int), .int .u32 ((base + 0 : Nat) : Int), .int .u32 0, .int .u32 ((base + 2 : Nat) : Int), .int .u32 0] 115)
  have hW := heap_alloc_new w3 (.cells #[.int .u32 ((base + 1 : Nat) : Int), .int .u32 ((base + 0 : Nat) : Int), .int .u32 0, .int .u32 ((base + 2 : Nat) : Int), .int .u32 0] 115)
  refine (prove_at hB (by omega) (base + 2) t (by omega)).mono ?_; rintro e w4 ⟨rfl, h4⟩
  obtain ⟨g0, g1, g2, g3, g4⟩ := cells5 (h4.kept hF (by simp) hW)
  go_wp2_with fail
  refine (sideOut_at h4 (by omega) (base + 1) (base + 0) 0 (base + 2) 0).mono ?_; rintro e w5 ⟨rfl, h5⟩
  go_wp2_with fail
  refine (close_at h5 (by omega)).mono ?_; rintro e w6 ⟨rfl, h6⟩
  go_wp2_with fail
  refine (code_at (b := linDekOutB base t) (hback _ _ _ h6) (by simp only [← BS.run_app]; exact congrArg (BS.run BS.zero) rfl) T1 (okDekOutB (by omega) (by omega))).mono ?_; rintro e w20 h20
  obtain ⟨⟨v, rfl, hv⟩, hb20⟩ := h20
  go_wp2_with fail
  first | go_ret2 | go_ret
  exact ⟨⟨v, rfl, own_base' hv hw1.size⟩, hw1.trans (hb20.mono hw1.size)⟩
end Go.Proofs.YtackbadmcgjncaaDoor.As

namespace Go.Proofs.YtackbadmcgjncaaDoor.As
open Go.RowKit

theorem set4_cell {w : World} {R : Nat} {a : Addr} {v v0 v1 v2 v3 : Value} (h : w.cell? a = some v) (hne : a.block ≠ R) :
    ((((w.setCell ⟨R, 0, none⟩ v0).setCell ⟨R, 1, none⟩ v1).setCell ⟨R, 2, none⟩ v2).setCell ⟨R, 3, none⟩ v3).cell? a = some v := by
  have e : ∀ (W : World) (j : Nat) (v : Value), (W.setCell ⟨R, j, none⟩ v).heap[a.block]? = W.heap[a.block]? := fun W j v => heap_setCell_other W ⟨R, j, none⟩ a.block v hne
  refine (World.cell?_of_block (w := w) (a := a) ?_).trans h
  rw [e, e, e, e]
theorem set4 {w : World} {R : Nat} {o0 o1 o2 o3 : Value} {t : TypeId} (h : w.heap[R]? = some (.cells #[o0, o1, o2, o3] t (0, 0))) (v0 v1 v2 v3 : Value) :
    ((((w.setCell ⟨R, 0, none⟩ v0).setCell ⟨R, 1, none⟩ v1).setCell ⟨R, 2, none⟩ v2).setCell ⟨R, 3, none⟩ v3).heap[R]? = some (.cells #[v0, v1, v2, v3] t (0, 0)) ∧ Only (fun k => k = R) w ((((w.setCell ⟨R, 0, none⟩ v0).setCell ⟨R, 1, none⟩ v1).setCell ⟨R, 2, none⟩ v2).setCell ⟨R, 3, none⟩ v3) :=
  ⟨(heap_setCell_same _ R 3 _ t _ (heap_setCell_same _ R 2 _ t _ (heap_setCell_same _ R 1 _ t _ (heap_setCell_same _ R 0 _ t _ h)))).trans (by simp), Only.set1 (F := fun k => k = R) (p := ⟨R, 3, none⟩) (Only.set1 (F := fun k => k = R) (p := ⟨R, 2, none⟩) (Only.set1 (F := fun k => k = R) (p := ⟨R, 1, none⟩) (Only.set1 (F := fun k => k = R) (p := ⟨R, 0, none⟩) (Only.refl _ w) rfl _) rfl _) rfl _) rfl _⟩
theorem results_obj4 {fn : Func} {p u1 u2 u3 : Tmp} (h : fn.results = #[.cell p 26, .tmp u1, .tmp u2, .tmp u3]) (tmps : Array Value) (w : World) (R : Nat) (a b c d : Value) (hb : w.heap[R]? = some (.cells #[a, b, c, d] 26 (0, 0))) (hp : tmps.getD p undef = .pointer (some ⟨R, 0, none⟩)) :
    (results fn tmps).run Tryd.prog w = .ok (.tuple #[.agg #[a, b, c, d], tmps.getD u1 undef, tmps.getD u2 undef, tmps.getD u3 undef]) w := by
  have hl := run_loadVar_row (P := Tryd.prog) w R 26 26 _ _ _ hb Tryd.underlying26 rfl (by kernel_rfl)
  simp only [Array.getD_eq_getD_getElem?] at hp
  simp [results, h, hp, asAddr, hl]
theorem cellsQ4 {w : World} {g : Nat} {a b c d : Value} {t : TypeId} (hx : w.heap[g]? = some (.cells #[a, b, c, d] t (0, 0))) :
    w.cell? ⟨g, 0, none⟩ = some a ∧ w.cell? ⟨g, 1, none⟩ = some b ∧ w.cell? ⟨g, 2, none⟩ = some c ∧ w.cell? ⟨g, 3, none⟩ = some d :=
  ⟨cell_of_row w g 0 _ _ _ hx, cell_of_row w g 1 _ _ _ hx, cell_of_row w g 2 _ _ _ hx, cell_of_row w g 3 _ _ _ hx⟩
theorem case_wrap (x : Int) (n : Int) (h : 0 ≤ x ∧ x ≤ 255) (hn : 0 < n ∧ n ≤ 10) : IntKind.i64.wrap (1 + (IntKind.i64.wrap x).tmod n) = 1 + x % n := by
  have e : IntKind.i64.wrap x = x := by rw [IntKind.wrap_i64]; omega
  have m1 := Int.emod_nonneg x (by omega : n ≠ 0)
  have m2 := Int.emod_lt_of_pos x hn.1
  rw [e, Int.tmod_eq_emod_of_nonneg h.1, IntKind.wrap_i64]
  omega
theorem below_of_only {R B : Nat} {a w : World} (h : Only (fun k => k = R) a w) (hB : B ≤ R) (hs : B ≤ a.heap.size) : Below B a w := ⟨h.os, h.tape, h.output, h.size, fun k hk => h.block k (by omega) (by omega)⟩
theorem results_obj3 {fn : Func} {p u1 u2 : Tmp} (h : fn.results = #[.cell p 26, .tmp u1, .tmp u2]) (tmps : Array Value) (w : World) (R : Nat) (a b c d : Value) (hb : w.heap[R]? = some (.cells #[a, b, c, d] 26 (0, 0))) (hp : tmps.getD p undef = .pointer (some ⟨R, 0, none⟩)) :
    (results fn tmps).run Tryd.prog w = .ok (.tuple #[.agg #[a, b, c, d], tmps.getD u1 undef, tmps.getD u2 undef]) w := by
  have hl := run_loadVar_row (P := Tryd.prog) w R 26 26 _ _ _ hb Tryd.underlying26 rfl (by kernel_rfl)
  simp only [Array.getD_eq_getD_getElem?] at hp
  simp [results, h, hp, asAddr, hl]
set_option maxRecDepth 100000 in
set_option maxHeartbeats 8000000 in
theorem object17 (w : World) (x0 x1 x2 x3 : Int) (h0 : 0 ≤ x0 ∧ x0 ≤ 255) (h1 : 0 ≤ x1 ∧ x1 ≤ 255) (h2 : 0 ≤ x2 ∧ x2 ≤ 255) (h3 : 0 ≤ x3 ∧ x3 ≤ 255) :
    Calls Tryd.prog 15 #[.agg #[.int .u8 x0, .int .u8 x1, .int .u8 x2, .int .u8 x3]] w fun e w' => (∃ r m, e = .returned (.tuple #[.agg #[.int .i64 (6 + x0 % 2), .int .i64 0, .int .i64 (x1 % 2), .int .i64 (1 - x1 % 2)], .int .i64 r, .int .i64 m])) ∧ Below w.heap.size w w' := by
  go_enter Tryd.func15, Tryd.ntmps15
  go_wp2_with fail
  obtain ⟨WR, hWR⟩ : ∃ WR, ((w.alloc (.cells #[.int .u8 x0, .int .u8 x1, .int .u8 x2, .int .u8 x3] 39)).alloc (.cells #[.int .i64 0, .int .i64 0, .int .i64 0, .int .i64 0] 26)) = WR := ⟨_, rfl⟩
  have hX : WR.heap[w.heap.size]? = some (.cells #[.int .u8 x0, .int .u8 x1, .int .u8 x2, .int .u8 x3] 39 (0, 0)) := by rw [← hWR]; exact (Below.heap_alloc _ _ _ (by simp)).trans (heap_alloc_new _ _)
  have hY : WR.heap[w.heap.size + 1]? = some (.cells #[.int .i64 0, .int .i64 0, .int .i64 0, .int .i64 0] 26 (0, 0)) := by rw [← hWR, ← World.size_alloc w (.cells #[.int .u8 x0, .int .u8 x1, .int .u8 x2, .int .u8 x3] 39)]; exact heap_alloc_new _ _
  have hBW : Below w.heap.size w WR := by rw [← hWR]; exact ((Below.refl _ w).alloc (Nat.le_refl _) _).alloc (by simp) _
  rw [hWR]
  clear hWR
  have HY := Lib.hid hY
  obtain ⟨a0, a1, a2, a3⟩ := cellsQ4 hX
  obtain ⟨b0, b1, b2, b3⟩ := cellsQ4 hY
  have f0 := frozen_of_row WR _ 0 _ _ hY
  have f1 := frozen_of_row WR _ 1 _ _ hY
  have f2 := frozen_of_row WR _ 2 _ _ hY
  have f3 := frozen_of_row WR _ 3 _ _ hY
  have A0 : WR.drew.cell? ⟨w.heap.size, 0, none⟩ = some (.int .u8 x0) := a0
  have A1 : WR.drew.cell? ⟨w.heap.size, 1, none⟩ = some (.int .u8 x1) := a1
  have A2 : WR.drew.cell? ⟨w.heap.size, 2, none⟩ = some (.int .u8 x2) := a2
  have A3 : WR.drew.cell? ⟨w.heap.size, 3, none⟩ = some (.int .u8 x3) := a3
  clear hX hY
  go_region_held (fun w' => w'.cell? ⟨w.heap.size, 0, none⟩ = some (.int .u8 x0) ∧ w'.cell? ⟨w.heap.size, 1, none⟩ = some (.int .u8 x1) ∧ w'.cell? ⟨w.heap.size, 2, none⟩ = some (.int .u8 x2) ∧ w'.cell? ⟨w.heap.size, 3, none⟩ = some (.int .u8 x3)) (first | exact ⟨A0, A1, A2, A3⟩ | (refine ⟨set4_cell ?_ ?_, set4_cell ?_ ?_, set4_cell ?_ ?_, set4_cell ?_ ?_⟩ <;> first | assumption | (dsimp only; omega)) | go_keep) (fail)
  all_goals go_wp2_with fail
  all_goals
    have e0 : IntKind.i64.wrap (6 + (IntKind.i64.wrap x0).tmod 2) = 6 + x0 % 2 := by
      have e : IntKind.i64.wrap x0 = x0 := by rw [IntKind.wrap_i64]; omega
      rw [e, Int.tmod_eq_emod_of_nonneg h0.1, IntKind.wrap_i64]
      omega
    have e1 : IntKind.i64.wrap (1 - x1 % 2) = 1 - x1 % 2 := by rw [IntKind.wrap_i64]; omega
    obtain ⟨hs1, hs2⟩ := set4 HY.out (.int .i64 (IntKind.i64.wrap (6 + (IntKind.i64.wrap x0).tmod 2))) (.int .i64 0) (.int .i64 (x1 % 2)) (.int .i64 (IntKind.i64.wrap (1 - x1 % 2)))
    refine bodyPost_ret (results_obj3 rfl _ _ (w.heap.size + 1) _ _ _ _ hs1 rfl) rfl ?_
    refine ⟨⟨IntKind.i64.wrap (1 + (IntKind.i64.wrap x2).tmod 4), IntKind.i64.wrap (1 + (IntKind.i64.wrap x3).tmod 6), ?_⟩, hBW.trans (bl_drew (below_of_only hs2 (by omega) hBW.size))⟩
    rw [e0, e1]
    rfl
theorem truth_any (w : World) : Calls Tryd.prog 29 #[.bool true] w fun e w' => e = .returned (.int .i64 1) ∧ w' = w := by
  go_enter Tryd.func29, Tryd.ntmps29
  go_wp2_with fail
  go_ret
  exact ⟨rfl, rfl⟩

theorem ins_cells {w : World} {A : Option Addr} {n cap i : Nat} {l : List Ins} {x : Ins} (h : Rd w 5 (.slice A n cap) n (flat l)) (hx : l[i]? = some x) (hn : 0 < n) :
    ∃ b off, A = some ⟨b, off, none⟩ ∧ b < w.heap.size ∧ w.cell? ⟨b, off + i * 5, none⟩ = some (.int .i64 x.op) ∧ w.cell? ⟨b, off + i * 5 + 1, none⟩ = some (.int .i64 x.a) ∧ w.cell? ⟨b, off + i * 5 + 2, none⟩ = some (.int .i64 x.b) ∧ w.cell? ⟨b, off + i * 5 + 3, none⟩ = some (.int .i64 x.c) ∧ w.cell? ⟨b, off + i * 5 + 4, none⟩ = some (.int .u32 x.k) := by
  obtain ⟨b, off, e, hb, hc⟩ := h.cells hn
  have g := fun j hj => flat_get l i x hx j hj
  exact ⟨b, off, e, hb, hc _ _ (g 0 (by decide)), hc _ _ (g 1 (by decide)), hc _ _ (g 2 (by decide)), hc _ _ (g 3 (by decide)), hc _ _ (g 4 (by decide))⟩
theorem awake17_any (w : World) (TI : TabI w) (TO : TabO w) : Calls Tryd.prog 14 #[] w fun e w' => e = .returned (.bool true) ∧ Below w.heap.size w w' := by
  have hc := fun w TI TO => codeDekSlow_any w TI TO 0 0 2 0 1 16 (by decide) (by omega) (by omega) (by decide) (by decide)
  go_enter Tryd.func14, Tryd.ntmps14
  go_wp2_with fail
  refine (hc w TI TO).mono ?_; rintro e w1 ⟨⟨v, rfl, hv⟩, hb1⟩
  have h9 : (resL (linDekSlow 16 1)).length = 13 := rfl
  rw [h9] at hv
  have hR := Rd.of_own hv
  obtain ⟨A, cap, rfl⟩ := hR.form
  obtain ⟨b1, o1, rfl, hlt1, c0, c1, c2, c3, c4⟩ := ins_cells (i := 8) (x := ⟨25, 0, 0, 0, 0⟩) hR rfl (by decide)
  have x0 : w1.cell? ⟨b1, o1 + 40, none⟩ = some (.int .i64 25) := c0
  clear c0 c1 c2 c3 c4
  clear hR hv h9 hc
  go_wp2_with fail
  go_ret
  exact ⟨rfl, hb1⟩
theorem maker17_any (w : World) (k n a b : Int) : Calls Tryd.prog 16 #[.agg #[.int .i64 k, .int .i64 n, .int .i64 a, .int .i64 b]] w fun e w' => e = .returned (.func (.func 32) #[] #[.pointer (some ⟨w.heap.size, 0, none⟩)]) ∧ w' = w.alloc (.cells #[.int .i64 k, .int .i64 n, .int .i64 a, .int .i64 b] 26) := by
  go_enter Tryd.func16, Tryd.ntmps16
  go_wp2_with fail
  go_ret
  exact ⟨rfl, rfl⟩
theorem maker17_1 (W : World) (k n a b c t : Int) (bo : Nat) (l : List Ins) (ho : W.heap[bo]? = some (.cells #[.int .i64 k, .int .i64 n, .int .i64 a, .int .i64 b] 26 (0, 0)))
    (hc : Calls Tryd.prog 31 #[.agg #[.int .i64 k, .int .i64 n, .int .i64 a, .int .i64 b], .int .i64 c, .int .i64 2, .int .i64 t, .int .u32 16, .int .u32 0] W (CodeIs W l)) :
    Calls Tryd.prog 32 #[.int .i64 c, .int .i64 t, .pointer (some ⟨bo, 0, none⟩)] W (CodeIs W l) := by
  obtain ⟨a0, a1, a2, a3⟩ := cellsQ4 ho
  clear ho
  go_enter Tryd.func32, Tryd.ntmps32
  go_wp2_with (go_at_call 31; refine hc.mono ?_; rintro r w1 ⟨⟨v, rfl, hv⟩, hb⟩)
  go_ret2
  exact ⟨⟨_, rfl, hv⟩, hb⟩
theorem goodCase_parts {a b : List Ins} {mem : List Int} {t own : Nat} (h : goodCase a b mem t own = true) : aloneGood a b mem t own = true ∧ a.length ≤ 100 ∧ b.length ≤ 100 ∧ 0 < a.length ∧ 0 < b.length ∧ (∀ x ∈ a, 0 ≤ x.k ∧ x.k ≤ 4294967295) ∧ (∀ x ∈ b, 0 ≤ x.k ∧ x.k ≤ 4294967295) := by
  simp only [goodCase, fineC, Bool.and_eq_true, decide_eq_true_eq] at h
  obtain ⟨⟨h0, ⟨a1, a2⟩, a3⟩, ⟨b1, b2⟩, b3⟩ := h
  exact ⟨h0, a2, b2, a1, b1, fun x hx => wd_iff.1 (List.all_eq_true.1 a3 x hx), fun x hx => wd_iff.1 (List.all_eq_true.1 b3 x hx)⟩
theorem aloneW_any (W : World) (k n a b th t : Int) (f : Value) (h : ∀ V, Below W.heap.size W V → Calls Tryd.prog 8 #[.agg #[.int .i64 k, .int .i64 n, .int .i64 a, .int .i64 b], .int .i64 th, .int .i64 t, f] V fun e w' => e = .returned (.bool true) ∧ Below V.heap.size V w') :
    Calls Tryd.prog 12 #[.agg #[.int .i64 k, .int .i64 n, .int .i64 a, .int .i64 b], .int .i64 th, .int .i64 t, f] W fun e w' => e = .returned (.int .i64 1) ∧ Below W.heap.size W w' := by
  have hB0 : Below W.heap.size W (W.alloc (.cells #[.int .i64 k, .int .i64 n, .int .i64 a, .int .i64 b] 26)) := (Below.refl _ W).alloc (Nat.le_refl _) _
  have h0 := h _ hB0
  go_enter Tryd.func12, Tryd.ntmps12
  go_wp2_with (go_at_call 8; refine h0.mono ?_; rintro e w1 ⟨rfl, hb1⟩)
  refine (truth_any _).mono ?_; rintro e w2 ⟨rfl, rfl⟩
  go_wp2_with fail
  go_ret
  exact ⟨rfl, hB0.trans (hb1.mono hB0.size)⟩
set_option maxHeartbeats 1000000 in
theorem alone17_all (W : World) (TI : TabI W) (TO : TabO W) (k a b : Int) (t : Nat) (hk : k = 6 ∨ k = 7) (ha : 0 ≤ a ∧ a < 2) (hb1 : b = 1 - a) (ht : t < 2) (bo : Nat) (ho : W.heap[bo]? = some (.cells #[.int .i64 k, .int .i64 0, .int .i64 a, .int .i64 b] 26 (0, 0))) :
    Calls Tryd.prog 12 #[.agg #[.int .i64 k, .int .i64 0, .int .i64 a, .int .i64 b], .int .i64 2, .int .i64 (t : Int), .func (.func 32) #[] #[.pointer (some ⟨bo, 0, none⟩)]] W fun e w' => e = .returned (.int .i64 1) ∧ Below W.heap.size W w' := by
  by_cases e : a = (t : Int)
  · subst e hb1
    rcases hk with rfl | rfl
    · have hR : RightP 6 0 t (1 - (t : Int)) 2 := by unfold RightP; omega
      have hA1 : AskP 6 0 t (1 - (t : Int)) 1 2 t := ⟨hR, by omega, by omega, by decide⟩
      have hA2 : AskP 6 0 t (1 - (t : Int)) 2 2 t := ⟨hR, by omega, by omega, by decide⟩
      obtain ⟨g1, g2, g3, g4, g5, g6, g7⟩ := goodCase_parts (good_petA ⟨t, by omega⟩)
      refine aloneW_any W 6 0 t (1 - (t : Int)) 2 t _ (fun V hV => alone_any V (TI.below hV (Nat.le_refl _)) 6 0 t (1 - (t : Int)) 2 t (by omega) 32 #[.pointer (some ⟨bo, 0, none⟩)] (resL (linPetInA 16 t)) (resL (linPetOutA 16 t)) [0, 0, 0, 0] 3 ?_ ?_ ?_ (fun args w => enters_of Tryd.func32 (by kernel_rfl) rfl args w) (by decide) g1 g2 g3 g4 g5 g6 g7)
      · intro W' hb0
        have hb := hV.trans (hb0.mono hV.size)
        exact maker17_1 W' 6 0 t (1 - (t : Int)) 1 t bo _ ((hb.block bo (Array.getElem?_eq_some_iff.1 ho).1).trans ho) (codePetInA_any W' (TI.below hb (Nat.le_refl _)) (TO.below hb (Nat.le_refl _)) 0 (1 - (t : Int)) 2 0 t 16 hA1 (by omega) (by omega))
      · intro W' hb0
        have hb := hV.trans (hb0.mono hV.size)
        exact maker17_1 W' 6 0 t (1 - (t : Int)) 2 t bo _ ((hb.block bo (Array.getElem?_eq_some_iff.1 ho).1).trans ho) (codePetOutA_any W' (TI.below hb (Nat.le_refl _)) (TO.below hb (Nat.le_refl _)) 0 (1 - (t : Int)) 2 0 t 16 hA2 (by omega) (by omega))
      · intro W' hb0
        have hb := hV.trans (hb0.mono hV.size)
        exact first_6 W' (TO.below hb (Nat.le_refl _)) 0 t (1 - (t : Int)) 2 hR
    · have hR : RightP 7 0 t (1 - (t : Int)) 2 := by unfold RightP; omega
      have hA1 : AskP 7 0 t (1 - (t : Int)) 1 2 t := ⟨hR, by omega, by omega, by decide⟩
      have hA2 : AskP 7 0 t (1 - (t : Int)) 2 2 t := ⟨hR, by omega, by omega, by decide⟩
      obtain ⟨g1, g2, g3, g4, g5, g6, g7⟩ := goodCase_parts (good_dekA ⟨t, by omega⟩)
      refine aloneW_any W 7 0 t (1 - (t : Int)) 2 t _ (fun V hV => alone_any V (TI.below hV (Nat.le_refl _)) 7 0 t (1 - (t : Int)) 2 t (by omega) 32 #[.pointer (some ⟨bo, 0, none⟩)] (resL (linDekFast 16 t)) (resL (linDekOutA 16 t)) [0, 0, 0] 2 ?_ ?_ ?_ (fun args w => enters_of Tryd.func32 (by kernel_rfl) rfl args w) (by decide) g1 g2 g3 g4 g5 g6 g7)
      · intro W' hb0
        have hb := hV.trans (hb0.mono hV.size)
        exact maker17_1 W' 7 0 t (1 - (t : Int)) 1 t bo _ ((hb.block bo (Array.getElem?_eq_some_iff.1 ho).1).trans ho) (codeDekFast_any W' (TI.below hb (Nat.le_refl _)) (TO.below hb (Nat.le_refl _)) 0 (1 - (t : Int)) 2 0 t 16 hA1 (by omega) (by omega))
      · intro W' hb0
        have hb := hV.trans (hb0.mono hV.size)
        exact maker17_1 W' 7 0 t (1 - (t : Int)) 2 t bo _ ((hb.block bo (Array.getElem?_eq_some_iff.1 ho).1).trans ho) (codeDekOutA_any W' (TI.below hb (Nat.le_refl _)) (TO.below hb (Nat.le_refl _)) 0 (1 - (t : Int)) 2 0 t 16 hA2 (by omega) (by omega))
      · intro W' hb0
        have hb := hV.trans (hb0.mono hV.size)
        exact first_7 W' (TO.below hb (Nat.le_refl _)) 0 t (1 - (t : Int)) 2 hR
  · have he : ((t : Int) == a) = false := by simp; omega
    have hm : ((t : Int) != a) = true := by simp; omega
    obtain rfl : b = (t : Int) := by omega
    rcases hk with rfl | rfl
    · have hR : RightP 6 0 a t 2 := by unfold RightP; omega
      have hA1 : AskP 6 0 a t 1 2 t := ⟨hR, by omega, by omega, by decide⟩
      have hA2 : AskP 6 0 a t 2 2 t := ⟨hR, by omega, by omega, by decide⟩
      obtain ⟨g1, g2, g3, g4, g5, g6, g7⟩ := goodCase_parts (good_petB ⟨t, by omega⟩)
      refine aloneW_any W 6 0 a t 2 t _ (fun V hV => alone_any V (TI.below hV (Nat.le_refl _)) 6 0 a t 2 t (by omega) 32 #[.pointer (some ⟨bo, 0, none⟩)] (resL (linPetInB 16 t)) (resL (linPetOutB 16 t)) [0, 0, 0, 0] 3 ?_ ?_ ?_ (fun args w => enters_of Tryd.func32 (by kernel_rfl) rfl args w) (by decide) g1 g2 g3 g4 g5 g6 g7)
      · intro W' hb0
        have hb := hV.trans (hb0.mono hV.size)
        exact maker17_1 W' 6 0 a t 1 t bo _ ((hb.block bo (Array.getElem?_eq_some_iff.1 ho).1).trans ho) (codePetInB_any W' (TI.below hb (Nat.le_refl _)) (TO.below hb (Nat.le_refl _)) 0 a 2 0 t 16 hA1 (by omega) (by omega) he hm)
      · intro W' hb0
        have hb := hV.trans (hb0.mono hV.size)
        exact maker17_1 W' 6 0 a t 2 t bo _ ((hb.block bo (Array.getElem?_eq_some_iff.1 ho).1).trans ho) (codePetOutB_any W' (TI.below hb (Nat.le_refl _)) (TO.below hb (Nat.le_refl _)) 0 a 2 0 t 16 hA2 (by omega) (by omega) he hm)
      · intro W' hb0
        have hb := hV.trans (hb0.mono hV.size)
        exact first_6 W' (TO.below hb (Nat.le_refl _)) 0 a t 2 hR
    · have hR : RightP 7 0 a t 2 := by unfold RightP; omega
      have hA1 : AskP 7 0 a t 1 2 t := ⟨hR, by omega, by omega, by decide⟩
      have hA2 : AskP 7 0 a t 2 2 t := ⟨hR, by omega, by omega, by decide⟩
      obtain ⟨g1, g2, g3, g4, g5, g6, g7⟩ := goodCase_parts (good_dekB ⟨t, by omega⟩)
      refine aloneW_any W 7 0 a t 2 t _ (fun V hV => alone_any V (TI.below hV (Nat.le_refl _)) 7 0 a t 2 t (by omega) 32 #[.pointer (some ⟨bo, 0, none⟩)] (resL (linDekSlow 16 t)) (resL (linDekOutB 16 t)) [0, 0, 0] 2 ?_ ?_ ?_ (fun args w => enters_of Tryd.func32 (by kernel_rfl) rfl args w) (by decide) g1 g2 g3 g4 g5 g6 g7)
      · intro W' hb0
        have hb := hV.trans (hb0.mono hV.size)
        exact maker17_1 W' 7 0 a t 1 t bo _ ((hb.block bo (Array.getElem?_eq_some_iff.1 ho).1).trans ho) (codeDekSlow_any W' (TI.below hb (Nat.le_refl _)) (TO.below hb (Nat.le_refl _)) 0 a 2 0 t 16 hA1 (by omega) (by omega) he hm)
      · intro W' hb0
        have hb := hV.trans (hb0.mono hV.size)
        exact maker17_1 W' 7 0 a t 2 t bo _ ((hb.block bo (Array.getElem?_eq_some_iff.1 ho).1).trans ho) (codeDekOutB_any W' (TI.below hb (Nat.le_refl _)) (TO.below hb (Nat.le_refl _)) 0 a 2 0 t 16 hA2 (by omega) (by omega) he hm)
      · intro W' hb0
        have hb := hV.trans (hb0.mono hV.size)
        exact first_7 W' (TO.below hb (Nat.le_refl _)) 0 a t 2 hR
set_option maxHeartbeats 4000000 in
theorem duoAlone_any (w : World) (TI : TabI w) (TO : TabO w) (x0 x1 x2 x3 tv : Int) (h0 : 0 ≤ x0 ∧ x0 ≤ 255) (h1 : 0 ≤ x1 ∧ x1 ≤ 255) (h2 : 0 ≤ x2 ∧ x2 ≤ 255) (h3 : 0 ≤ x3 ∧ x3 ≤ 255) (h4 : 0 ≤ tv ∧ tv ≤ 255) :
    Calls Tryd.prog 5 #[.agg #[.int .u8 x0, .int .u8 x1, .int .u8 x2, .int .u8 x3], .int .u8 tv] w fun e w' => e = .returned (.bool true) ∧ Below w.heap.size w w' := by
  obtain ⟨k, hk⟩ : ∃ k, 6 + x0 % 2 = k := ⟨_, rfl⟩
  obtain ⟨a, ha⟩ : ∃ a, x1 % 2 = a := ⟨_, rfl⟩
  obtain ⟨b, hb⟩ : ∃ b, 1 - a = b := ⟨_, rfl⟩
  have hk3 : k = 6 ∨ k = 7 := by omega
  have ha4 : 0 ≤ a ∧ a < 2 := by omega
  have htv : IntKind.i64.wrap tv = tv := by rw [IntKind.wrap_i64]; omega
  obtain ⟨t, ht⟩ : ∃ t : Nat, tv.tmod 2 = (t : Int) := ⟨(tv % 2).toNat, by
    rw [Int.tmod_eq_emod_of_nonneg h4.1]
    omega⟩
  have ht' : tv % 2 = (t : Int) := by rw [← ht, Int.tmod_eq_emod_of_nonneg h4.1]
  have htl : t < 2 := by omega
  have hB0 : Below w.heap.size w (w.alloc (.cells #[.int .u8 x0, .int .u8 x1, .int .u8 x2, .int .u8 x3] 39)) := (Below.refl _ w).alloc (Nat.le_refl _) _
  have haw := awake17_any _ (TI.below hB0 (Nat.le_refl _)) (TO.below hB0 (Nat.le_refl _))
  have hob := fun W => object17 W x0 x1 x2 x3 h0 h1 h2 h3
  rw [hk, ha, hb] at hob
  have hAL : ∀ W, Below w.heap.size w W → ∀ bo, W.heap[bo]? = some (.cells #[.int .i64 k, .int .i64 0, .int .i64 a, .int .i64 b] 26 (0, 0)) → Calls Tryd.prog 12 #[.agg #[.int .i64 k, .int .i64 0, .int .i64 a, .int .i64 b], .int .i64 2, .int .i64 (t : Int), .func (.func 32) #[] #[.pointer (some ⟨bo, 0, none⟩)]] W fun e w' => e = .returned (.int .i64 1) ∧ Below W.heap.size W w' :=
    fun W hW bo ho => alone17_all W (TI.below hW (Nat.le_refl _)) (TO.below hW (Nat.le_refl _)) k a b t hk3 ha4 hb.symm htl bo ho
  clear hk ha hb
  go_enter Tryd.func5, Tryd.ntmps5
  go_wp2_with (first
    | (go_at_call 14; refine haw.mono ?_; rintro r w1 ⟨rfl, hb1⟩; have c0 : w1.cell? ⟨w.heap.size, 0, none⟩ = some (.int .u8 x0) := cell_of_row w1 _ 0 _ _ _ ((hb1.block w.heap.size (by simp)).trans (heap_alloc_new _ _)); have c1 : w1.cell? ⟨w.heap.size, 1, none⟩ = some (.int .u8 x1) := cell_of_row w1 _ 1 _ _ _ ((hb1.block w.heap.size (by simp)).trans (heap_alloc_new _ _)); have c2 : w1.cell? ⟨w.heap.size, 2, none⟩ = some (.int .u8 x2) := cell_of_row w1 _ 2 _ _ _ ((hb1.block w.heap.size (by simp)).trans (heap_alloc_new _ _)); have c3 : w1.cell? ⟨w.heap.size, 3, none⟩ = some (.int .u8 x3) := cell_of_row w1 _ 3 _ _ _ ((hb1.block w.heap.size (by simp)).trans (heap_alloc_new _ _)))
    | (go_at_call 15; refine (hob _).mono ?_; rintro r w2 ⟨⟨rr, mm, rfl⟩, hb2⟩))
  have hB2 : Below w.heap.size w w2 := (hB0.trans (hb1.mono (by simp))).trans (hb2.mono (by have := hb1.size; simp at this; omega))
  obtain ⟨WR, hWR⟩ : ∃ WR, (w2.alloc (.cells #[.int .i64 k, .int .i64 0, .int .i64 a, .int .i64 b] 26)) = WR := ⟨_, rfl⟩
  have hO : WR.heap[w2.heap.size]? = some (.cells #[.int .i64 k, .int .i64 0, .int .i64 a, .int .i64 b] 26 (0, 0)) := by rw [← hWR]; exact heap_alloc_new _ _
  have hBR : Below w.heap.size w WR := by rw [← hWR]; exact hB2.alloc hB2.size _
  rw [hWR]
  clear hWR c0 c1 c2 c3 hb1 hb2
  obtain ⟨o0, o1, o2, o3⟩ := cellsQ4 (show WR.drew.heap[w2.heap.size]? = _ from hO)
  have hm := maker17_any WR.drew k 0 a b
  have hq := hAL (WR.drew.alloc (.cells #[.int .i64 k, .int .i64 0, .int .i64 a, .int .i64 b] 26)) ((bl_drew hBR).alloc (by have := hBR.size; simpa using this) _) WR.heap.size (at_new rfl)
  have k0 : ∀ j v, WR.drew.cell? ⟨w2.heap.size, j, none⟩ = some v → (WR.drew.alloc (.cells #[.int .i64 k, .int .i64 0, .int .i64 a, .int .i64 b] 26)).cell? ⟨w2.heap.size, j, none⟩ = some v := fun j v h => alloc_cell1 h
  have p0 := k0 _ _ o0; have p1 := k0 _ _ o1; have p2 := k0 _ _ o2; have p3 := k0 _ _ o3
  go_region_held (fun w' => w'.cell? ⟨w2.heap.size, 0, none⟩ = some (.int .i64 k) ∧ w'.cell? ⟨w2.heap.size, 1, none⟩ = some (.int .i64 0) ∧ w'.cell? ⟨w2.heap.size, 2, none⟩ = some (.int .i64 a) ∧ w'.cell? ⟨w2.heap.size, 3, none⟩ = some (.int .i64 b)) (first | exact ⟨o0, o1, o2, o3⟩ | exact ⟨p0, p1, p2, p3⟩ | exact ⟨(hb4.cell (block_lt_of_cell p0)).trans p0, (hb4.cell (block_lt_of_cell p1)).trans p1, (hb4.cell (block_lt_of_cell p2)).trans p2, (hb4.cell (block_lt_of_cell p3)).trans p3⟩) (first
    | (go_at_call 16; refine hm.mono ?_; rintro r w3 ⟨rfl, rfl⟩)
    | (go_at_call 12; refine hq.mono ?_; rintro r w4 ⟨rfl, hb4⟩))
  all_goals go_wp2_with fail
  all_goals go_ret
  all_goals exact ⟨rfl, ((bl_drew hBR).alloc (by have := hBR.size; simpa using this) _).trans (hb4.mono (by have := hBR.size; simp; omega))⟩
end Go.Proofs.YtackbadmcgjncaaDoor.As

namespace Go.Proofs.YtackbadmcgjncaaDoor.As
open Go.ChangeShapes Go.WideShapes Go.ChangeAt Go.RowKit

/-- A string, as a value. -/
def str (l : B8) : Value := .string ⟨l.toArray⟩
def layG (h : Array Obj) (g : Nat) (cs : Array Value) : Array Obj := h.modify g fun
  | .cells _ t frozen => .cells cs t frozen
  | o => o
def strData {H : Type} (ss : List B8) : DataW H := .agg (ss.map fun s => .lit (.string s))
/-- An array of strings that reads as a table holds the table's strings. -/
theorem cells_of_strs {H : Type} {enc : TypeId × Value → H} {P : Program} {w : World} {base : Nat} {sp : Nat → Bool} {held : Bool} {fuel : Nat} {t e : TypeId} {n : Nat} {cs : List Value} {ss : List B8} {p : List MemPlace}
    (ht : P.underlying t = some (.array n e)) (he : P.underlying e = some .string) (hce : P.cellsOf e = 1) (hct : P.cellsOf t = n)
    (h : DataW.trod enc P w base sp held fuel t cs = some (strData ss, p)) : cs = ss.map str := by
  cases fuel with
  | zero => simp [DataW.trod] at h
  | succ fuel =>
    simp only [DataW.trod, ht, hce, hct, Nat.mul_one] at h
    split at h
    · rename_i hl
      obtain ⟨xs, hm, hx⟩ := Option.map_eq_some_iff.1 h
      have hxs : xs.map (·.1) = ss.map fun s => (DataW.lit (.string s) : DataW H) := by
        have := congrArg Prod.fst hx
        simpa [strData] using this
      have hxl : xs.length = n := by simpa using Lib.mapM_length hm
      have hzl : ss.length = n := by
        have := congrArg List.length hxs
        simp at this
        omega
      apply List.ext_getElem?
      intro i
      by_cases hi : i < n
      · obtain ⟨b, hb, hf⟩ := Lib.mapM_at hm i i (by simp [hi])
        obtain ⟨s, hc, rfl, _⟩ := DataW.trod_string he hf
        have h1 : cs[i]? = some (.string s) := by
          have := congrArg (·[0]?) hc
          simpa [List.getElem?_take, List.getElem?_drop] using this
        have h2 : (xs.map (·.1))[i]? = some (DataW.lit (.string s.data.toList) : DataW H) := by simp [hb]
        rw [hxs] at h2
        simp only [List.getElem?_map, Option.map_eq_some_iff, DataW.lit.injEq, Lit.string.injEq] at h2
        obtain ⟨z', hz', e'⟩ := h2
        rw [h1, List.getElem?_map, hz', e']; rfl
      · rw [List.getElem?_eq_none (by omega), List.getElem?_eq_none (by simp; omega)]
    · cases h
theorem gUses : Tryd.prog.globalNamed "deadlatch/isa.uses" = some 0 := by kernel_rfl
theorem gNames : Tryd.prog.globalNamed "deadlatch/isa.names" = some 1 := by kernel_rfl
theorem gObj : Tryd.prog.globalNamed "deadlatch/obj.names" = some 2 := by kernel_rfl
def laid3 : List (String × DataW Unit) := [("deadlatch/isa.uses", Lib.tabData .i64 opUses), ("deadlatch/isa.names", strData opNames), ("deadlatch/obj.names", strData kindNames)]
/-- What a row's list gives. -/
theorem tables {W : World} (h : laidMetH Tryd.prog laid3 W) : TabI W ∧ TabO W := by
  have h' : laidMet Tryd.prog laid3 W := h
  obtain ⟨ps, ⟨g0, t0, cs0, f0, p0, q0, hg0, ht0, hv0, hd0, ⟨g1, t1, cs1, f1, p1, q1, hg1, ht1, hv1, hd1, ⟨g2, t2, cs2, f2, p2, q2, hg2, ht2, hv2, hd2, _, _⟩, _⟩, _⟩, _⟩ := h'
  obtain rfl := Option.some.inj (gUses.symm.trans hg0)
  obtain rfl := Option.some.inj (gNames.symm.trans hg1)
  obtain rfl := Option.some.inj (gObj.symm.trans hg2)
  obtain rfl := Option.some.inj ((show (Tryd.prog.globals[0]?).map (·.type) = some 129 by kernel_rfl).symm.trans ht0)
  obtain rfl := Option.some.inj ((show (Tryd.prog.globals[1]?).map (·.type) = some 153 by kernel_rfl).symm.trans ht1)
  obtain rfl := Option.some.inj ((show (Tryd.prog.globals[2]?).map (·.type) = some 156 by kernel_rfl).symm.trans ht2)
  have e0 := Lib.cells_of_tab Tryd.underlying129 Tryd.underlying3 (by kernel_rfl) (by kernel_rfl) hd0
  have e1 := cells_of_strs Tryd.underlying153 Tryd.underlying9 (by kernel_rfl) (by kernel_rfl) hd1
  have e2 := cells_of_strs Tryd.underlying156 Tryd.underlying9 (by kernel_rfl) (by kernel_rfl) hd2
  have k0 := World.var?_cell gUses (show W.var? Tryd.prog "deadlatch/isa.uses" = some (opUses.map fun z => Value.int .i64 z).toArray by rw [hv0, ← e0])
  have k1 := World.var?_cell gNames (show W.var? Tryd.prog "deadlatch/isa.names" = some (opNames.map str).toArray by rw [hv1, ← e1])
  have k2 := World.var?_cell gObj (show W.var? Tryd.prog "deadlatch/obj.names" = some (kindNames.map str).toArray by rw [hv2, ← e2])
  refine ⟨⟨fun i hi => ?_, fun i hi => ?_⟩, ⟨fun i hi => ?_⟩⟩
  · have hl : i < opNames.length := hi
    rw [k1 i]
    simp [List.getD, hl, str]
  · have hl : i < opUses.length := hi
    rw [k0 i]
    simp [List.getD, hl]
  · have hl : i < kindNames.length := hi
    rw [k2 i]
    simp [List.getD, hl, str]
theorem list4 {α : Type} : ∀ {l : List α}, l.length = 4 → ∃ a b c d, l = [a, b, c, d]
  | [a, b, c, d], _ => ⟨a, b, c, d, rfl⟩
theorem get_some {α : Type} {xs : List α} {i n : Nat} (h : xs.length = n) (hi : i < n) : ∃ y, xs[i]? = some y := ⟨_, List.getElem?_eq_getElem (by omega)⟩
/-- What is drawn for a case, opened. -/
theorem case_shape {H : Type} {enc : TypeId × Value → H} {W : World} {b0 base : Nat} {r : Reach} {sp : Nat → Bool} {held : Bool} {v : Value} {d : DataW H} {p : List MemPlace}
    (hv : Value.okWide Tryd.prog W r b0 39 v) (h : DataW.Trod enc Tryd.prog W base sp held 39 v d p) :
    ∃ (a b c e : Int), v = .agg #[.int .u8 a, .int .u8 b, .int .u8 c, .int .u8 e] ∧ (0 ≤ a ∧ a ≤ 255) ∧ (0 ≤ b ∧ b ≤ 255) ∧ (0 ≤ c ∧ c ≤ 255) ∧ (0 ≤ e ∧ e ≤ 255) := by
  obtain ⟨cs, rfl, hsz⟩ := okWide_struct Tryd.underlying39 hv
  obtain ⟨fuel, hf⟩ := h
  obtain ⟨l⟩ := cs
  have z4 : Tryd.prog.cellsOf 39 = 4 := by kernel_rfl
  have z1 : Tryd.prog.cellsOf 5 = 1 := by kernel_rfl
  obtain ⟨x0, x1, x2, x3, rfl⟩ := list4 (show l.length = 4 from hsz.trans z4)
  obtain ⟨xs, n, _, _, hl, hx, hfs⟩ := DataW.trod_struct Tryd.underlying39 hf
  have hx4 : xs.length = 4 := hx
  have f0 : DataW.trod enc Tryd.prog W base sp held n 5 (List.take (Tryd.prog.cellsOf 5) [x0, x1, x2, x3]) = xs[0]? := hfs 0 _ rfl
  have f1 : DataW.trod enc Tryd.prog W base sp held n 5 (List.take (Tryd.prog.cellsOf 5) [x1, x2, x3]) = xs[1]? := hfs 1 _ rfl
  have f2 : DataW.trod enc Tryd.prog W base sp held n 5 (List.take (Tryd.prog.cellsOf 5) [x2, x3]) = xs[2]? := hfs 2 _ rfl
  have f3 : DataW.trod enc Tryd.prog W base sp held n 5 (List.take (Tryd.prog.cellsOf 5) [x3]) = xs[3]? := hfs 3 _ rfl
  rw [z1] at f0 f1 f2 f3
  obtain ⟨y0, hy0⟩ := get_some hx4 (show 0 < 4 by decide)
  obtain ⟨y1, hy1⟩ := get_some hx4 (show 1 < 4 by decide)
  obtain ⟨y2, hy2⟩ := get_some hx4 (show 2 < 4 by decide)
  obtain ⟨y3, hy3⟩ := get_some hx4 (show 3 < 4 by decide)
  obtain ⟨a, ha, _, wa⟩ := DataW.trod_int Tryd.underlying5 (f0.trans hy0)
  obtain ⟨b, hb, _, wb⟩ := DataW.trod_int Tryd.underlying5 (f1.trans hy1)
  obtain ⟨c, hc, _, wc⟩ := DataW.trod_int Tryd.underlying5 (f2.trans hy2)
  obtain ⟨e, he, _, we⟩ := DataW.trod_int Tryd.underlying5 (f3.trans hy3)
  simp only [List.take_succ_cons, List.take_zero, List.cons.injEq, and_true] at ha hb hc he
  subst ha hb hc he
  simp [Lit.wf] at wa wb wc we
  have e1 : IntKind.u8.min = 0 := by decide
  have e2 : IntKind.u8.max = 255 := by decide
  exact ⟨a, b, c, e, rfl, by omega, by omega, by omega, by omega⟩
end Go.Proofs.YtackbadmcgjncaaDoor.As

namespace Go.Proofs.YtackbadmcgjncaaDoor.duoAloneL
open Go.ChangeShapes Go.WideShapes Go.ChangeAt Go.RowKit
open Go.Proofs.YtackbadmcgjncaaDoor.As

theorem own : ownKnob Tryd.prog.godebug = none := by kernel_rfl
theorem laidOut : laidOutB Tryd.prog = true := by kernel_rfl

theorem laid_eq : Rows.duoAloneRow.laid = laid3 := by kernel_rfl
set_option maxRecDepth 100000 in
/-- What the walks give, for every argument and every world that holds the tables. -/
theorem contract (H : Type) (enc : TypeId × Value → H) (W : World) (base : Nat) (args : Array Value) (ds gs : List (DataW H)) (before : List MemPlace)
    (hval : ∀ (j : Nat) t v, Tryd.f5.params[j]? = some t → args[j]? = some v → Value.okWide Tryd.prog W .any base t v)
    (hW : DataW.Whole enc Tryd.prog Tryd.f5.params.toList Rows.duoAloneSpec.vars false W args.toList ds gs before) (hL : laidMetH Tryd.prog Rows.duoAloneRow.laid W) :
    Calls Tryd.prog 5 args W fun e W' => ∃ v, e = .returned v ∧ Rows.duoAloneSpec.post enc Tryd.prog Tryd.f5 false true false false W args v W' := by
  have hW' := hW
  obtain ⟨p, q, hA0, hV, rfl, hfz, hnd⟩ := hW
  have hA : DataW.TrodAll enc Tryd.prog W 0 (fun _ => true) true Tryd.f5.params.toList args.toList ds p := hA0
  rw [Tryd.params5] at hA hval
  obtain ⟨v0, vs0, d0, ds0, p0, q0, hargs, rfl, rfl, h0, r0⟩ := trodAll_cons hA
  obtain ⟨v1, vs1, d1, ds1, p1, q1, rfl, rfl, rfl, h1, r1⟩ := trodAll_cons r0
  obtain ⟨rfl, rfl, rfl⟩ := trodAll_nil r1
  obtain rfl : args = #[v0, v1] := by cases args; simp_all
  have k0 := h0
  have lt0 : ∀ x ∈ p0, x.block < W.heap.size := by obtain ⟨m, hm⟩ := k0; exact DataW.trod_lt m _ _ _ hm
  obtain ⟨x0, x1, x2, x3, rfl, b0, b1, b2, b3⟩ := case_shape (hval 0 39 v0 rfl rfl) h0
  obtain ⟨a1, rfl, rfl, rfl, w1⟩ := open_int Tryd.underlying5 (hval 1 5 v1 rfl rfl) h1
  have w1' := w1
  simp [Lit.wf] at w1'
  have e3 : IntKind.u8.min = 0 := by decide
  have e4 : IntKind.u8.max = 255 := by decide
  obtain ⟨rfl, rfl⟩ := trodVars_none hV
  clear hA0
  obtain ⟨TI, TO⟩ := tables (laid_eq ▸ hL)
  refine (duoAlone_any W TI TO x0 x1 x2 x3 a1 b0 b1 b2 b3 (by omega)).mono fun e W' ⟨he, bel⟩ => ?_
  subst he
  exact ⟨_, rfl, _, _, _, [], _, [], hW', trodAll_mk1 (shut_bool Tryd.underlying4 _), (trodAll_cons_mk (Below.trod laidOut (by kernel_rfl) (of_decide_eq_true (by kernel_rfl)) k0 bel lt0) (trodAll_cons_mk (shut_int Tryd.underlying5 w1) trodAll_mk0)), rfl, bel.frame _, fun h => by cases h⟩

/-- A world for the witness: the settled one, the tables as their initialisers lay them. -/
noncomputable def laidWorld (os : Os) : World :=
  { World.holding Tryd.prog os ⟨#[], #[], []⟩ with heap := layG (layG (layG (World.holding Tryd.prog os ⟨#[], #[], []⟩).heap 0 (opUses.map (Value.int .i64)).toArray) 1 (opNames.map str).toArray) 2 (kindNames.map str).toArray }
theorem laid_met (os : Os) : laidMet Tryd.prog Rows.duoAloneRow.laid ((laidWorld os).forCall (fun _ _ => 0) ⟨#[], #[.agg #[.int .u8 0, .int .u8 0, .int .u8 0, .int .u8 0], .int .u8 0], []⟩).memory :=
  laidMet_of_run' 8 (by kernel_rfl) (by kernel_rfl)
theorem reads (os : Os) {H : Type} (enc : TypeId × Value → H) : ∃ places, DataW.whole enc Tryd.prog ((laidWorld os).forCall (fun _ _ => 0) ⟨#[], #[.agg #[.int .u8 0, .int .u8 0, .int .u8 0, .int .u8 0], .int .u8 0], []⟩).memory Tryd.f5.params.toList Rows.duoAloneSpec.vars false #[.agg #[.int .u8 0, .int .u8 0, .int .u8 0, .int .u8 0], .int .u8 0].toList 8 = some ([.agg [.lit (.int .u8 0), .lit (.int .u8 0), .lit (.int .u8 0), .lit (.int .u8 0)], .lit (.int .u8 0)], [], places) :=
  ⟨[], by kernel_rfl⟩

set_option maxRecDepth 100000 in
theorem lifted (os : Os) (started : os.Started) (H : Type) (enc : TypeId × Value → H) (F : Stop.Interp) :
    ReturnsInHanded {} Tryd.checked os 5 .any ((OpenSpec.ofChange Rows.duoAloneSpec).preRow enc Tryd.prog Tryd.f5 Rows.duoAloneRow.domain false Rows.duoAloneRow.laid) (((OpenSpec.ofChange Rows.duoAloneSpec).at F).post enc Tryd.prog Tryd.f5 false true false false) := by
  obtain ⟨places, hx⟩ := reads os enc
  refine returnsInHanded_of_row (C := Tryd.checked) (s := OpenSpec.ofChange Rows.duoAloneSpec) own started (by kernel_rfl) Tryd.func5
    (witness_row_at (enc := enc) (C := Tryd.checked) false (laidWorld os) #[.agg #[.int .u8 0, .int .u8 0, .int .u8 0, .int .u8 0], .int .u8 0] rfl (by kernel_rfl) (by kernel_rfl) (by kernel_rfl)
      (OpenSpec.preRow_of_cond 8 hx (by kernel_rfl) (fun k hk => by cases hk) (by kernel_rfl) (laid_met os))) ?_
  intro W base args ds gs before hval hW _ _ _ hL _ _
  exact contract H enc W base args ds gs before hval hW hL
theorem said : Rows.DuoAloneSaid :=
  OpenClaim.holds_of_cond 5 Tryd.f5 rfl rfl rfl rfl rfl rfl rfl ⟨rfl, rfl, rfl, rfl, rfl⟩ rfl rfl rfl rfl rfl (by kernel_rfl) Tryd.func5 (by kernel_rfl)
    (of_decide_eq_true (by kernel_rfl)) (by unfold Func.isWrapper; first | (rw [if_pos (by decide +kernel)]; kernel_rfl) | (rw [if_neg (by decide +kernel)]; exact ⟨rfl, rfl⟩))
    (fun os started H enc _ F => by rw [OpenClaim.pre_eq_preRow]; exact lifted os started H enc F)
theorem plain (f : FuncId) (fn : Func) (hf : Tryd.pinned.checked.prog.funcNamed "deadlatch/deadlatchlaw17.DuoAlone" = some f) (hfn : Tryd.pinned.checked.prog.funcs[f]? = some fn) :
    false = Tryd.pinned.checked.prog.looks [] ∧ ∀ (j : Nat) t, fn.params[j]? = some t → Tryd.pinned.checked.prog.wantsStandIn t = false := by
  obtain rfl : f = 5 := Option.some.inj ((show Tryd.prog.funcNamed "deadlatch/deadlatchlaw17.DuoAlone" = some 5 by kernel_rfl).symm.trans hf) |>.symm
  obtain rfl : fn = Tryd.f5 := (Option.some.inj (Tryd.func5.symm.trans hfn)).symm
  refine ⟨by kernel_rfl, fun j t ht => ?_⟩
  rw [Tryd.params5] at ht
  have ht2 : t = 39 ∨ t = 5 := by simpa using Array.mem_of_getElem? ht
  rcases ht2 with rfl | rfl
  · exact (show Tryd.prog.wantsStandIn 39 = false by kernel_rfl)
  · exact (show Tryd.prog.wantsStandIn 5 = false by kernel_rfl)

/-- The card. -/
theorem card : Rows.DuoAloneCardSaid :=
  Claim7.holds_tied_plain_at .later [] _ _ _ _ said (fun _ h => by cases h) (by kernel_rfl) (fun _ h => by cases h) duoAlone_row_tie rfl ⟨rfl, rfl⟩ (by kernel_rfl) rfl plain (by kernel_rfl)
#print axioms card
end Go.Proofs.YtackbadmcgjncaaDoor.duoAloneL
