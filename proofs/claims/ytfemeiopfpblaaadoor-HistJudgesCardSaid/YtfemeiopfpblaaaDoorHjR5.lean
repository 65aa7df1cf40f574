/- The walks of the package deadlatchref25: what a call answers behind all that was done. -/
import Derived.Test.YtfemeiopfpblaaaDoorHjR4
set_option linter.unusedVariables false
set_option linter.unusedSimpArgs false
set_option maxRecDepth 20000
namespace Go.Proofs.YtfemeiopfpblaaaDoor.As
open Go.RowKit

def Ob.cells (o : Ob) : List Value := [.int .i64 o.k, .int .i64 o.n, .int .i64 o.a, .int .i64 o.b]
def flatO (l : List Ob) : List Value := l.flatMap Ob.cells
theorem flatO_get (l : List Ob) (i : Nat) (x : Ob) (h : l[i]? = some x) (j : Nat) (hj : j < 4) : (flatO l)[i * 4 + j]? = x.cells[j]? := flatMap_get Ob.cells 4 (fun _ => rfl) l i x h j hj
/-- A slice of objects that came in. -/
def InO (w : World) (v : Value) (n : Nat) (l : List Ob) : Prop :=
  l.length = n ∧ ∃ A cap, v = .slice A n cap ∧ (0 < n → ∃ b off, A = some ⟨b, off, none⟩ ∧ b < w.heap.size ∧ ∀ j u, (flatO l)[j]? = some u → w.cell? ⟨b, off + j, none⟩ = some u)
theorem InO.at {w : World} {A : Option Addr} {n cap i : Nat} {l : List Ob} {x : Ob} (h : InO w (.slice A n cap) n l) (hx : l[i]? = some x) :
    ∃ b off, A = some ⟨b, off, none⟩ ∧ b < w.heap.size ∧ w.cell? ⟨b, off + i * 4, none⟩ = some (.int .i64 x.k) ∧ w.cell? ⟨b, off + i * 4 + 1, none⟩ = some (.int .i64 x.n) ∧ w.cell? ⟨b, off + i * 4 + 2, none⟩ = some (.int .i64 x.a) ∧ w.cell? ⟨b, off + i * 4 + 3, none⟩ = some (.int .i64 x.b) := by
  obtain ⟨hl, A', cap', e, h⟩ := h
  injection e with e1 e2 e3
  subst e1
  have hi : i < l.length := (List.getElem?_eq_some_iff.1 hx).1
  obtain ⟨b, off, rfl, hb, hc⟩ := h (by omega)
  have g := fun j hj => flatO_get l i x hx j hj
  exact ⟨b, off, rfl, hb, hc _ _ (g 0 (by decide)), hc _ _ (g 1 (by decide)), hc _ _ (g 2 (by decide)), hc _ _ (g 3 (by decide))⟩
theorem InO.below {w w' : World} {B : Nat} {v : Value} {n : Nat} {l : List Ob} (h : InO w v n l) (hb : Below B w w') (hB : w.heap.size ≤ B) : InO w' v n l := by
  obtain ⟨hl, A, cap, rfl, h⟩ := h
  refine ⟨hl, A, cap, rfl, fun hn => ?_⟩
  obtain ⟨b, off, rfl, hlt, hc⟩ := h hn
  exact ⟨b, off, rfl, Nat.lt_of_lt_of_le hlt hb.size, fun j u hu => (hb.cell (p := ⟨b, off + j, none⟩) (Nat.lt_of_lt_of_le hlt hB)).trans (hc j u hu)⟩
theorem InO.at2 {w : World} {b off n cap i : Nat} {l : List Ob} {x : Ob} (h : InO w (.slice (some ⟨b, off, none⟩) n cap) n l) (hx : l[i]? = some x) :
    b < w.heap.size ∧ w.cell? ⟨b, off + i * 4, none⟩ = some (.int .i64 x.k) ∧ w.cell? ⟨b, off + i * 4 + 1, none⟩ = some (.int .i64 x.n) ∧ w.cell? ⟨b, off + i * 4 + 2, none⟩ = some (.int .i64 x.a) ∧ w.cell? ⟨b, off + i * 4 + 3, none⟩ = some (.int .i64 x.b) := by
  obtain ⟨b', off', e, hb, h0, h1, h2, h3⟩ := InO.at h hx
  injection e with e
  injection e with e1 e2
  subst e1 e2
  exact ⟨hb, h0, h1, h2, h3⟩
theorem hold25 {w : World} {R b off n cap i : Nat} {l : List Ob} {o : Ob} {v0 v1 v2 v3 v4 v5 : Value} {t : TypeId} (hX : w.heap[R]? = some (.cells #[v0, v1, v2, v3, v4, v5] t (0, 0))) (h : InO w (.slice (some ⟨b, off, none⟩) n cap) n l) (ho : l[i]? = some o) :
    w.cell? ⟨R, 0, none⟩ = some v0 ∧ w.cell? ⟨R, 1, none⟩ = some v1 ∧ w.cell? ⟨R, 2, none⟩ = some v2 ∧ w.cell? ⟨b, off + i * 4, none⟩ = some (.int .i64 o.k) ∧ w.cell? ⟨b, off + i * 4 + 1, none⟩ = some (.int .i64 o.n) ∧ w.cell? ⟨b, off + i * 4 + 2, none⟩ = some (.int .i64 o.a) ∧ w.cell? ⟨b, off + i * 4 + 3, none⟩ = some (.int .i64 o.b) := by
  obtain ⟨c0, c1, c2, _, _, _⟩ := cells6 hX
  obtain ⟨_, h0, h1, h2, h3⟩ := InO.at2 h ho
  exact ⟨c0, c1, c2, h0, h1, h2, h3⟩
theorem InO.drew {w : World} {v : Value} {n : Nat} {l : List Ob} (h : InO w v n l) : InO w.drew v n l := h
theorem blk2 (w : World) (X Z : Obj) : ((w.alloc X).alloc Z).heap[w.heap.size]? = some X ∧ ((w.alloc X).alloc Z).heap[w.heap.size + 1]? = some Z ∧ Below w.heap.size w ((w.alloc X).alloc Z) ∧ ((w.alloc X).alloc Z).heap.size = w.heap.size + 1 + 1 := by
  have h0 := heap_alloc_new w X
  have h1 := heap_alloc_new (w.alloc X) Z
  simp only [World.size_alloc] at h1
  exact ⟨by rw [Below.heap_alloc _ _ _ (by simp)]; exact h0, h1, ((Below.refl _ w).alloc (Nat.le_refl _) X).alloc (by simp) Z, by simp⟩
theorem ans_yes {w w' : World} {a : Ans} {k : Int} (h : a = some (k, [])) (hb : Below w.heap.size w w') : AnsPost w a (.returned (.agg #[.int .u32 k, .slice none 0 0, .bool true])) w' := by
  subst h; exact ⟨_, rfl, rd_nil _ _, hb⟩
theorem ans_no {w w' : World} {a : Ans} (h : a = none) (hb : Below w.heap.size w w') : AnsPost w a (.returned (.agg #[.int .u32 0, .slice none 0 0, .bool false])) w' := by
  subst h; exact ⟨_, rfl, rd_nil _ _, hb⟩
theorem alloc_set3 {w : World} {R : Nat} (hR : R < w.heap.size) (a b c : Value) (o : Obj) :
    ((((w.setCell ⟨R, 0, none⟩ a).setCell ⟨R, 1, none⟩ b).setCell ⟨R, 2, none⟩ c).alloc o).heap[R]? = (((w.setCell ⟨R, 0, none⟩ a).setCell ⟨R, 1, none⟩ b).setCell ⟨R, 2, none⟩ c).heap[R]? :=
  Below.heap_alloc _ _ _ (by simp; exact hR)
/-- How an answer is handed back: stored behind a call, or stored into what a call left and a new block behind it. -/
theorem ret_yes {fn : Func} {p : Tmp} {w wN : World} {R : Nat} {a : Ans} {k : Int} {act : Go.Act} (h : fn.results = #[.cell p 65]) (hd : act.defers = []) (hp : act.tmps.getD p undef = .pointer (some ⟨R, 0, none⟩)) (hz : wN.heap[R]? = some (.cells #[.int .u32 0, .slice none 0 0, .bool false] 65)) (hb : Below w.heap.size w wN) (hR : w.heap.size ≤ R) (ha : a = some (k, [])) :
    bodyPost Tryd.prog fn (AnsPost w a) .ret act (((wN.setCell ⟨R, 0, none⟩ (.int .u32 k)).setCell ⟨R, 1, none⟩ (.slice none 0 0)).setCell ⟨R, 2, none⟩ (.bool true)) :=
  bodyPost_ret (results_ans h _ _ R _ _ _ (set3_row hz _ _ _) hp) hd (ans_yes ha (set3_below hb hR _ _ _))
theorem ret_no {fn : Func} {p : Tmp} {w wN : World} {R : Nat} {a : Ans} {act : Go.Act} (h : fn.results = #[.cell p 65]) (hd : act.defers = []) (hp : act.tmps.getD p undef = .pointer (some ⟨R, 0, none⟩)) (hz : wN.heap[R]? = some (.cells #[.int .u32 0, .slice none 0 0, .bool false] 65)) (hb : Below w.heap.size w wN) (hR : w.heap.size ≤ R) (ha : a = none) :
    bodyPost Tryd.prog fn (AnsPost w a) .ret act (((wN.setCell ⟨R, 0, none⟩ (.int .u32 0)).setCell ⟨R, 1, none⟩ (.slice none 0 0)).setCell ⟨R, 2, none⟩ (.bool false)) :=
  bodyPost_ret (results_ans h _ _ R _ _ _ (set3_row hz _ _ _) hp) hd (ans_no ha (set3_below hb hR _ _ _))
theorem ret_no2 {fn : Func} {p : Tmp} {w wN : World} {R : Nat} {a : Ans} {act : Go.Act} {ob : Obj} (h : fn.results = #[.cell p 65]) (hd : act.defers = []) (hp : act.tmps.getD p undef = .pointer (some ⟨R, 0, none⟩)) (hz : wN.heap[R]? = some (.cells #[.int .u32 0, .slice none 0 0, .bool false] 65)) (hb : Below w.heap.size w wN) (hR : w.heap.size ≤ R) (ha : a = none) :
    bodyPost Tryd.prog fn (AnsPost w a) .ret act ((((wN.setCell ⟨R, 0, none⟩ (.int .u32 0)).setCell ⟨R, 1, none⟩ (.slice none 0 0)).setCell ⟨R, 2, none⟩ (.bool false)).alloc ob) :=
  bodyPost_ret (results_ans h _ _ R _ _ _ ((alloc_set3 (Array.getElem?_eq_some_iff.1 hz).1 _ _ _ _).trans (set3_row hz _ _ _)) hp) hd (ans_no ha ((set3_below hb hR _ _ _).alloc (set3_below hb hR _ _ _).size _))

set_option maxHeartbeats 2000000 in
theorem do25_out (w : World) (vl : Value) (m : Nat) (obs : List Ob) (hI : InO w vl m obs) (hm : m ≤ 1000000) (th : Int) (v : Value) (who obj call part arg val : Int) (hx : obj < 0 ∨ (m : Int) ≤ obj) :
    Calls Tryd.prog 12 #[vl, .int .i64 th, v, .agg #[.int .i64 who, .int .i64 obj, .int .i64 call, .int .i64 part, .int .u32 arg, .int .u32 val]] w (AnsPost w none) := by
  obtain ⟨hml, oA, ocap, rfl, _⟩ := hI
  obtain ⟨bX, bZ, bB, bS⟩ := blk2 w (.cells #[.int .i64 who, .int .i64 obj, .int .i64 call, .int .i64 part, .int .u32 arg, .int .u32 val] 36) (.cells #[.int .u32 0, .slice none 0 0, .bool false] 65)
  by_cases h0 : obj < 0
  · have f1 : decide (obj < 0) = true := decide_eq_true h0
    go_enter Tryd.func12, Tryd.ntmps12
    go_wp2_with fail
    go_quiet (fail)
    go_wp2_with fail
    refine bodyPost_ret (results_ans rfl _ _ (w.heap.size + 1) _ _ _ (set3_row (by first | exact bZ | (show World.heap _ _ = _; exact bZ)) _ _ _) rfl) rfl ?_
    exact ans_no rfl (set3_below (bl_drewN bB _) (by omega) _ _ _)
  · have f1 : decide (obj < 0) = false := decide_eq_false h0
    have f2 : decide ((m : Int) ≤ obj) = true := decide_eq_true (by omega)
    go_enter Tryd.func12, Tryd.ntmps12
    go_wp2_with fail
    go_quiet (fail)
    go_wp2_with fail
    refine bodyPost_ret (results_ans rfl _ _ (w.heap.size + 1) _ _ _ (set3_row (by first | exact bZ | (show World.heap _ _ = _; exact bZ)) _ _ _) rfl) rfl ?_
    exact ans_no rfl (set3_below (bl_drewN bB _) (by omega) _ _ _)

set_option maxHeartbeats 2000000 in
theorem do25_no (w : World) (vl : Value) (m : Nat) (obs : List Ob) (hI : InO w vl m obs) (hm : m ≤ 1000000) (th : Int) (v : Value) (n : Nat) (H : List Stp) (hl : H.length = n) (h : Rd w 7 v n (flatS H)) (hn : n ≤ 1000000) (o : Ob) (j : Nat) (who call part arg val : Int) (ho : obs[j]? = some o) (hx0 : 0 ≤ arg) (hx1 : arg ≤ 4294967295) (hP : ¬ AskP o.k o.n o.a o.b call th who) :
    Calls Tryd.prog 12 #[vl, .int .i64 th, v, .agg #[.int .i64 who, .int .i64 ((j : Nat) : Int), .int .i64 call, .int .i64 part, .int .u32 arg, .int .u32 val]] w (AnsPost w (refOb th o H ⟨who, ((j : Nat) : Int), call, part, arg, val⟩)) := by
  obtain ⟨A, cap, rfl⟩ := h.form
  have HI := Lib.hid hI
  obtain ⟨hml, oA, ocap, rfl, _⟩ := hI
  have HV := Lib.hid h
  have e1 : IntKind.i64.wrap arg = arg := by rw [IntKind.wrap_i64]; omega
  have hjm : j < m := by rw [← hml]; exact (List.getElem?_eq_some_iff.1 ho).1
  have f1 : decide (((j : Nat) : Int) < 0) = false := decide_eq_false (by omega)
  have f2 : decide ((m : Int) ≤ ((j : Nat) : Int)) = false := decide_eq_false (by omega)
  have f3 : decide (m ≤ j) = false := decide_eq_false (by omega)
  obtain ⟨b0, off0, rfl, hb0, _⟩ := InO.at HI.out ho
  obtain ⟨bX, bZ, bB, bS⟩ := blk2 w (.cells #[.int .i64 who, .int .i64 ((j : Nat) : Int), .int .i64 call, .int .i64 part, .int .u32 arg, .int .u32 val] 36) (.cells #[.int .u32 0, .slice none 0 0, .bool false] 65)
  have HO := Lib.hid ho
  have dA : decide (AskP o.k o.n o.a o.b call th who) = false := decide_eq_false hP
  have hr : refOb th o H ⟨who, ((j : Nat) : Int), call, part, arg, val⟩ = none := by unfold refOb; rw [if_neg hP]
  rw [hr]
  go_enter Tryd.func12, Tryd.ntmps12
  go_wp2_with fail
  go_region_held (fun w' => w'.cell? ⟨w.heap.size, 0, none⟩ = some (.int .i64 who) ∧ w'.cell? ⟨w.heap.size, 1, none⟩ = some (.int .i64 ((j : Nat) : Int)) ∧ w'.cell? ⟨w.heap.size, 2, none⟩ = some (.int .i64 call) ∧ w'.cell? ⟨b0, off0 + j * 4, none⟩ = some (.int .i64 o.k) ∧ w'.cell? ⟨b0, off0 + j * 4 + 1, none⟩ = some (.int .i64 o.n) ∧ w'.cell? ⟨b0, off0 + j * 4 + 2, none⟩ = some (.int .i64 o.a) ∧ w'.cell? ⟨b0, off0 + j * 4 + 3, none⟩ = some (.int .i64 o.b))
    (first | exact hold25 bXN (HI.out.below hbWN (Nat.le_refl _)) HO.out | exact hold25 (show ((w.alloc (.cells #[.int .i64 who, .int .i64 ((j : Nat) : Int), .int .i64 call, .int .i64 part, .int .u32 arg, .int .u32 val] 36)).alloc (.cells #[.int .u32 0, .slice none 0 0, .bool false] 65)).drew.heap[w.heap.size]? = _ from bX) (InO.drew (HI.out.below bB (Nat.le_refl _))) HO.out)
    (first | (go_at_call 25; refine (may15_any _ _ _ _ _ _ _ _).mono ?_; rintro e wN ⟨rfl, hbN⟩; have hbW2 : Below ((w.alloc (.cells #[.int .i64 who, .int .i64 ((j : Nat) : Int), .int .i64 call, .int .i64 part, .int .u32 arg, .int .u32 val] 36)).alloc (.cells #[.int .u32 0, .slice none 0 0, .bool false] 65)).heap.size ((w.alloc (.cells #[.int .i64 who, .int .i64 ((j : Nat) : Int), .int .i64 call, .int .i64 part, .int .u32 arg, .int .u32 val] 36)).alloc (.cells #[.int .u32 0, .slice none 0 0, .bool false] 65)) wN := (bl_drew (Below.refl _ ((w.alloc (.cells #[.int .i64 who, .int .i64 ((j : Nat) : Int), .int .i64 call, .int .i64 part, .int .u32 arg, .int .u32 val] 36)).alloc (.cells #[.int .u32 0, .slice none 0 0, .bool false] 65)))).trans hbN; have hbWN := bB.trans (hbW2.mono bB.size); have bXN := obj_keep bX hbW2))
  have bZN := obj_keep bZ hbW2
  have hkx := cells6 bXN
  obtain ⟨xc0, xc1, xc2, xc3, xc4, xc5⟩ := hkx
  obtain ⟨zc0, zc1, zc2⟩ := cells3 bZN
  have zf0 : wN.frozen? ⟨w.heap.size + 1, 0, none⟩ = false := frozen_of_row _ _ _ _ _ bZN
  have zf1 : wN.frozen? ⟨w.heap.size + 1, 1, none⟩ = false := frozen_of_row _ _ _ _ _ bZN
  have zf2 : wN.frozen? ⟨w.heap.size + 1, 2, none⟩ = false := frozen_of_row _ _ _ _ _ bZN
  obtain ⟨hb9, oc0, oc1, oc2, oc3⟩ := InO.at2 (HI.out.below hbWN (Nat.le_refl _)) HO.out
  have hsN : w.heap.size + 1 < wN.heap.size := (Array.getElem?_eq_some_iff.1 bZN).1
  have hsX : w.heap.size < wN.heap.size := by omega
  go_wp2_with fail
  refine bodyPost_ret (results_ans rfl _ _ (w.heap.size + 1) _ _ _ (set3_row bZN _ _ _) rfl) rfl ?_
  exact ans_no rfl (set3_below hbWN (by omega) _ _ _)

end Go.Proofs.YtfemeiopfpblaaaDoor.As
