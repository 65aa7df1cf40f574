/- The document's example of the law on mutexes: a semaphore that has all it may have tells so. -/
import Derived.Test.YtcnmhgblbikfkaaGreatDoorMuB
import Derived.Test.YtcnmhgblbikfkaaGreatDoorTlZ
import Derived.Test.YtcnmhgblbikfkaaGreatDoorGt
import Derived.Test.YtcnmhgblbikfkaaGreatDoorGx
set_option linter.unusedVariables false
set_option linter.unusedSimpArgs false
set_option maxRecDepth 20000
namespace Go.Proofs.YtcnmhgblbikfkaaGreatDoor.As.T
open Go.RowKit

theorem cdp_ofS {w W : World} {gp gcs pc T : Nat} {f : Nat → List Ins} (h : CsW w W gp (.slice (some ⟨gcs, 0, none⟩) T pc) f T) : CdP W gcs ((List.range T).map f) := by
  obtain ⟨⟨g, cap, h1, h2⟩, _⟩ := h
  intro t L hL
  have ht : t < T := by
    have := (List.getElem?_eq_some_iff.1 hL).1
    simpa using this
  rw [List.getElem?_map, List.getElem?_range ht] at hL
  obtain rfl := Option.some.inj hL
  obtain ⟨a, _, _, _, _, b⟩ := h2 t ht
  refine ⟨g t, cap t, ?_, a, b⟩
  have := h1.cells (g := gcs) rfl t (.slice (some ⟨g t, 0, none⟩) (f t).length (cap t)) (by rw [List.getElem?_map, List.getElem?_range ht]; rfl)
  rwa [add_at, Nat.zero_add] at this
/-- The codes of the calls of the semaphore of the example. -/
def codeX (x : Int) : List Ins := if x = 1 then resL (linSemIn 16 0) else resL (linSemOut 1 16 0)
def codesX : List (List Ins) := (List.range 1).map fun t => semN codeX (([[2]] : List (List Int)).getD t []) (([[2]] : List (List Int)).getD t []).length
def stX (i : Nat) : Option Ts := Ts.run codesX (ts0 (mem0 [1]) 1 1) (List.replicate i (0, 0))
def okX (i : Nat) : Bool := match stX i with
  | some s => decide (s.evs.length + s.pend ≤ 1000) && decide (s.ths.length = 1) && decide (s.mem.length = 17)
  | none => false
def endX : Bool := match stX 30 with
  | some s => (match callsAll s.evs with
    | [c] => decide (0 < c.ended) && decide (c.res = 3)
    | _ => false) && s.evs.all (fun e => decide (0 ≤ e.k ∧ e.k ≤ 4294967295)) && endedTo s 1
  | none => false
def fineX (L : List Ins) : Bool := decide (0 < L.length) && decide (L.length ≤ 200) && L.all (okI L.length) && L.all (fun x => decide (0 ≤ x.k ∧ x.k ≤ 4294967295))
set_option maxRecDepth 100000 in
theorem okX_all : (List.range 31).all okX = true := by decide +kernel
set_option maxRecDepth 100000 in
theorem endX_ok : endX = true := by decide +kernel
theorem fineX_ok : codesX.all fineX = true := by decide +kernel
def shortX (x : Int) : Bool := decide ((codeX x).length ≤ 200) && decide (0 < (codeX x).length) && (codeX x).all (fun i => decide (0 ≤ i.k ∧ i.k ≤ 4294967295))
theorem shortX_ok : shortX 1 = true ∧ shortX 2 = true := by decide +kernel
theorem codeX_len (x : Int) (h : x = 1 ∨ x = 2) : (codeX x).length ≤ 200 ∧ 0 < (codeX x).length ∧ ∀ i ∈ codeX x, 0 ≤ i.k ∧ i.k ≤ 4294967295 := by
  have h2 : shortX x = true := by rcases h with rfl | rfl; exact shortX_ok.1; exact shortX_ok.2
  unfold shortX at h2
  simp only [Bool.and_eq_true, decide_eq_true_eq, List.all_eq_true] at h2
  exact ⟨h2.1.1, h2.1.2, h2.2⟩
theorem stX_at {i : Nat} (hi : i ≤ 30) : ∃ s, stX i = some s ∧ s.evs.length + s.pend ≤ 1000 ∧ s.ths.length = 1 ∧ s.mem.length = 17 := by
  have h := List.all_eq_true.1 okX_all i (List.mem_range.2 (by omega))
  unfold okX at h
  cases hs : stX i with
  | none => rw [hs] at h; cases h
  | some s =>
    rw [hs] at h
    simp only [Bool.and_eq_true, decide_eq_true_eq] at h
    exact ⟨s, rfl, h.1.1, h.1.2, h.2⟩
theorem stX_succ {i : Nat} {s : Ts} (h : stX i = some s) : stX (i + 1) = s.pick codesX (0, 0) := by
  unfold stX at h ⊢
  rw [List.replicate_succ']
  exact Ts.run_snoc codesX _ (0, 0) _ s h
theorem codesX_ok : CodesOk codesX := fun L hL => by
  have h := List.all_eq_true.1 fineX_ok L hL
  unfold fineX at h
  simp only [Bool.and_eq_true, decide_eq_true_eq, List.all_eq_true] at h
  exact ⟨h.1.1.1, by omega, h.1.2⟩
theorem endX_at {s : Ts} (h : stX 30 = some s) : (∃ c, callsAll s.evs = [c] ∧ 0 < c.ended ∧ c.res = 3) ∧ (∀ e ∈ s.evs, 0 ≤ e.k ∧ e.k ≤ 4294967295) ∧ endedTo s 1 = true := by
  have e := endX_ok
  unfold endX at e
  rw [h] at e
  simp only [Bool.and_eq_true, List.all_eq_true, decide_eq_true_eq] at e
  obtain ⟨⟨e1, e2⟩, e3⟩ := e
  refine ⟨?_, e2, e3⟩
  split at e1
  · next c hc =>
    simp only [Bool.and_eq_true, decide_eq_true_eq] at e1
    exact ⟨c, hc, e1.1, e1.2⟩
  · cases e1
theorem results_obj1 {fn : Func} {p : Tmp} (h : fn.results = #[.cell p 23]) (tmps : Array Value) (w : World) (R : Nat) (a b c d : Value) (hb : w.heap[R]? = some (.cells #[a, b, c, d] 23 (0, 0))) (hp : tmps.getD p undef = .pointer (some ⟨R, 0, none⟩)) :
    (results fn tmps).run Tryz.prog w = .ok (.agg #[a, b, c, d]) w := by
  have hl := run_loadVar_row (P := Tryz.prog) w R 23 23 _ _ _ hb Tryz.underlying23 rfl (by kernel_rfl)
  simp only [Array.getD_eq_getD_getElem?] at hp
  simp [results, h, hp, asAddr, hl]
set_option maxHeartbeats 4000000 in
theorem semOf_any (w : World) (a b : Int) : Calls Tryz.prog 32 #[.int .i64 a, .int .i64 b] w fun e w' => e = .returned (.agg #[.int .i64 11, .int .i64 a, .int .i64 b, .int .i64 0]) ∧ Below w.heap.size w w' := by
  go_enter Tryz.func32, Tryz.ntmps32
  go_wp2_with fail
  refine bodyPost_ret (results_obj1 rfl _ _ w.heap.size _ _ _ _ (heap_alloc_new _ _) rfl) rfl ?_
  exact ⟨rfl, (Below.refl _ w).alloc (Nat.le_refl _) _⟩
/-- The program of the example. -/
theorem callsX (w : World) (TI : TabI w) (TO : TabO w) (gl lcap : Nat) (hrows : RowsAt w gl [[2]]) :
    Calls Tryz.prog 31 #[.agg #[.int .i64 11, .int .i64 1, .int .i64 1, .int .i64 0], .slice (some ⟨gl, 0, none⟩) 1 lcap, .int .i64 1] w fun e w' => ∃ gv pv gm pm, e = .returned (.tuple #[.agg #[.slice (some ⟨gv, 0, none⟩) 1 pv, .slice (some ⟨gm, 0, none⟩) 17 pm, .int .i64 1], .bool true]) ∧ w'.ownsRow w.heap.size 25 1 (.slice (some ⟨gm, 0, none⟩) 17 pm) 17 (w32 (mem0 [1])) ∧ CdP w' gv codesX ∧ Below w.heap.size w w' := by
  have h := calls20_any w TI 11 1 1 0 1 gl lcap [[2]] hrows (by decide) (by decide) (by intro row hr; simp at hr; subst hr; exact ⟨by decide, by decide, by simp⟩) codeX (fun W hW x hx t ht => by
    have ti := TI.below hW (Nat.le_refl _)
    have to_ := TO.below hW (Nat.le_refl _)
    have ht0 : t = 0 := by simpa using ht
    subst ht0
    rcases hx with rfl | rfl
    · exact codeSemIn_any W ti to_ 1 1 0 1 0 0 16 (by decide) (by decide) (by decide)
    · exact codeSemOut_any W ti to_ 1 0 1 1 0 0 16 (by decide) (by decide) (by decide) (by decide)) codeX_len (by decide)
  refine h.mono ?_
  rintro e w' ⟨cv, mv, rfl, h1, h2, h3⟩
  obtain ⟨gm, pm, rfl⟩ := own_form h1 (by decide)
  obtain ⟨g, cp, h4, _⟩ := h2.ex
  obtain ⟨gv, pv, rfl⟩ := own_form h4 (by decide)
  exact ⟨gv, pv, gm, pm, rfl, h1, cdp_ofS h2, h3⟩
end Go.Proofs.YtcnmhgblbikfkaaGreatDoor.As.T
