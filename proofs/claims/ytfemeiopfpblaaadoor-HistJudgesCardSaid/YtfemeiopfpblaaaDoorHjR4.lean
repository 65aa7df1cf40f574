/- The walks of the package deadlatchref25: what a barrier answers. -/
import Derived.Test.YtfemeiopfpblaaaDoorHjR2
import Derived.Test.YtfemeiopfpblaaaDoorHjR3
import Derived.Deep.RegionHeld
set_option linter.unusedVariables false
set_option linter.unusedSimpArgs false
set_option maxRecDepth 20000
namespace Go.Proofs.YtfemeiopfpblaaaDoor.As
open Go.RowKit

theorem cells6 {w : World} {n : Nat} {a b c d e f : Value} {t : TypeId} (h : w.heap[n]? = some (.cells #[a, b, c, d, e, f] t (0, 0))) :
    w.cell? ⟨n, 0, none⟩ = some a ∧ w.cell? ⟨n, 1, none⟩ = some b ∧ w.cell? ⟨n, 2, none⟩ = some c ∧ w.cell? ⟨n, 3, none⟩ = some d ∧ w.cell? ⟨n, 4, none⟩ = some e ∧ w.cell? ⟨n, 5, none⟩ = some f := by
  have c0 := cell_of_row w n 0 _ _ _ h
  have c1 := cell_of_row w n 1 _ _ _ h
  have c2 := cell_of_row w n 2 _ _ _ h
  have c3 := cell_of_row w n 3 _ _ _ h
  have c4 := cell_of_row w n 4 _ _ _ h
  have c5 := cell_of_row w n 5 _ _ _ h
  exact ⟨c0, c1, c2, c3, c4, c5⟩
theorem cells3 {w : World} {n : Nat} {a b c : Value} {t : TypeId} (h : w.heap[n]? = some (.cells #[a, b, c] t (0, 0))) :
    w.cell? ⟨n, 0, none⟩ = some a ∧ w.cell? ⟨n, 1, none⟩ = some b ∧ w.cell? ⟨n, 2, none⟩ = some c := by
  have c0 := cell_of_row w n 0 _ _ _ h
  have c1 := cell_of_row w n 1 _ _ _ h
  have c2 := cell_of_row w n 2 _ _ _ h
  exact ⟨c0, c1, c2⟩
theorem xcells {w : World} {n : Nat} {a b c d e f : Value} {t : TypeId} (h : w.heap[n]? = some (.cells #[a, b, c, d, e, f] t (0, 0))) :
    w.cell? ⟨n, 0, none⟩ = some a ∧ w.cell? ⟨n, 1, none⟩ = some b := ⟨(cells6 h).1, (cells6 h).2.1⟩

def ansR : Ans → Int
  | some w => w.1
  | none => 0
def ansD : Ans → List Int
  | some w => w.2
  | none => []
/-- What is answered of the data that there are. -/
def AnsPost (w : World) (a : Ans) (e : Ending) (w' : World) : Prop := ∃ dv, e = .returned (.agg #[.int .u32 (ansR a), dv, .bool a.isSome]) ∧ Rd w' 1 dv (ansD a).length (ints32 (ansD a)) ∧ Below w.heap.size w w'
theorem rd_nil (w : World) (k : Nat) : Rd w k (.slice none 0 0) 0 [] := ⟨none, 0, rfl, Nat.le_refl _, by simp, .inl ⟨rfl, rfl⟩⟩
theorem results_ans {fn : Func} {p : Tmp} (h : fn.results = #[.cell p 65]) (tmps : Array Value) (w : World) (R : Nat) (a b c : Value) (hb : w.heap[R]? = some (.cells #[a, b, c] 65 (0, 0))) (hp : tmps.getD p undef = .pointer (some ⟨R, 0, none⟩)) :
    (results fn tmps).run Tryd.prog w = .ok (.agg #[a, b, c]) w := by
  have hl := run_loadVar_row (P := Tryd.prog) w R 65 65 _ _ _ hb Tryd.underlying65 rfl (by kernel_rfl)
  simp only [Array.getD_eq_getD_getElem?] at hp
  simp [results, h, hp, asAddr, hl]
theorem set3_row {w : World} {R : Nat} {a0 b0 c0 : Value} {t : TypeId} (h : w.heap[R]? = some (.cells #[a0, b0, c0] t (0, 0))) (a b c : Value) :
    (((w.setCell ⟨R, 0, none⟩ a).setCell ⟨R, 1, none⟩ b).setCell ⟨R, 2, none⟩ c).heap[R]? = some (.cells #[a, b, c] t (0, 0)) :=
  (heap_setCell_same _ R 2 _ t _ (heap_setCell_same _ R 1 _ t _ (heap_setCell_same _ R 0 _ t _ h))).trans (by simp)
theorem set3_below {B : Nat} {w w' : World} {R : Nat} (h : Below B w w') (hR : B ≤ R) (a b c : Value) : Below B w (((w'.setCell ⟨R, 0, none⟩ a).setCell ⟨R, 1, none⟩ b).setCell ⟨R, 2, none⟩ c) :=
  ((h.setCell hR _).setCell hR _).setCell hR _
theorem keepC {W w' : World} {B : Nat} (hb : Below B W w') (hB : W.heap.size ≤ B) : ∀ b j, b < W.heap.size → w'.cell? ⟨b, j, none⟩ = W.cell? ⟨b, j, none⟩ := fun b j h => World.cell?_of_block (w := W) (a := ⟨b, j, none⟩) (hb.block b (by omega))
theorem keepF {W w' : World} {B : Nat} (hb : Below B W w') (hB : W.heap.size ≤ B) : ∀ b j, b < W.heap.size → w'.frozen? ⟨b, j, none⟩ = W.frozen? ⟨b, j, none⟩ := fun b j h => World.frozen?_of_block (w := W) (a := ⟨b, j, none⟩) (hb.block b (by omega))
theorem blk3 (w : World) (O X Z : Obj) : (((w.alloc O).alloc X).alloc Z).heap[w.heap.size]? = some O ∧ (((w.alloc O).alloc X).alloc Z).heap[w.heap.size + 1]? = some X ∧ (((w.alloc O).alloc X).alloc Z).heap[w.heap.size + 1 + 1]? = some Z ∧ Below w.heap.size w (((w.alloc O).alloc X).alloc Z) ∧ (((w.alloc O).alloc X).alloc Z).heap.size = w.heap.size + 1 + 1 + 1 := by
  have h0 := heap_alloc_new w O
  have h1 := heap_alloc_new (w.alloc O) X
  have h2 := heap_alloc_new ((w.alloc O).alloc X) Z
  simp only [World.size_alloc] at h1 h2
  refine ⟨?_, ?_, h2, (((Below.refl _ w).alloc (Nat.le_refl _) O).alloc (by simp) X).alloc (by simp; omega) Z, by simp⟩
  · rw [Below.heap_alloc _ _ _ (by simp; omega), Below.heap_alloc _ _ _ (by simp)]; exact h0
  · rw [Below.heap_alloc _ _ _ (by simp)]; exact h1
theorem yes25_any (w : World) (r : Int) : Calls Tryd.prog 28 #[.int .u32 r] w fun e w' => e = .returned (.agg #[.int .u32 r, .slice none 0 0, .bool true]) ∧ Below w.heap.size w w' := by
  go_enter Tryd.func28, Tryd.ntmps28
  go_wp2_with fail
  refine bodyPost_ret (results_ans rfl _ _ w.heap.size _ _ _ (heap_alloc_new _ _) rfl) rfl ?_
  exact ⟨rfl, (Below.refl _ w).alloc (Nat.le_refl _) _⟩

set_option maxHeartbeats 2000000 in
theorem bar25_any (w : World) (v : Value) (n : Nat) (H : List Stp) (hl : H.length = n) (h : Rd w 7 v n (flatS H)) (hn : n ≤ 1000000) (o : Ob) (x : Ask) (hN : o.n ≤ 8) (hx0 : 0 ≤ x.arg) (hx1 : x.arg ≤ 4294967295) :
    Calls Tryd.prog 26 #[.agg #[.int .i64 o.k, .int .i64 o.n, .int .i64 o.a, .int .i64 o.b], v, .agg #[.int .i64 x.who, .int .i64 x.obj, .int .i64 x.call, .int .i64 x.part, .int .u32 x.arg, .int .u32 x.val]] w (AnsPost w (refBar o H x)) := by
  obtain ⟨A, cap, rfl⟩ := h.form
  have HV := Lib.hid h
  have e1 : IntKind.i64.wrap x.arg = x.arg := by rw [IntKind.wrap_i64]; omega
  obtain ⟨r, hr⟩ : ∃ r, r = refBar o H x := ⟨_, rfl⟩
  rw [← hr]
  have HR := Lib.hid hr
  obtain ⟨bO, bX, bZ, bB, bS⟩ := blk3 w (.cells #[.int .i64 o.k, .int .i64 o.n, .int .i64 o.a, .int .i64 o.b] 48) (.cells #[.int .i64 x.who, .int .i64 x.obj, .int .i64 x.call, .int .i64 x.part, .int .u32 x.arg, .int .u32 x.val] 36) (.cells #[.int .u32 0, .slice none 0 0, .bool false] 65)
  clear h hr
  by_cases k1 : o.n ≤ x.who
  · have d1 : decide (o.n ≤ x.who) = true := decide_eq_true k1
    obtain rfl : r = some (4, []) := by rw [HR.out]; unfold refBar; rw [if_pos k1]
    clear k1
    go_enter Tryd.func26, Tryd.ntmps26
    go_wp2_with (go_at_call 28; refine (yes25_any _ _).mono ?_; rintro e wY ⟨rfl, hbY⟩; have hk := keepC hbY (Nat.le_refl _); have hf := keepF hbY (Nat.le_refl _))
    refine bodyPost_ret (results_ans rfl _ _ (w.heap.size + 1 + 1) _ _ _ (set3_row (obj_keep bZ hbY) _ _ _) rfl) rfl ?_
    exact ⟨_, rfl, rd_nil _ _, set3_below (bB.trans (hbY.mono bB.size)) (by omega) _ _ _⟩
  · have d1 : decide (o.n ≤ x.who) = false := decide_eq_false k1
    by_cases k2 : 8 < x.arg ∨ x.arg ≠ o.n
    · obtain rfl : r = some (3, []) := by rw [HR.out]; unfold refBar; rw [if_neg k1, if_pos k2]
      clear HR k1
      go_enter Tryd.func26, Tryd.ntmps26
      by_cases k3 : 8 < x.arg
      · have d3 : decide (8 < x.arg) = true := decide_eq_true k3
        go_wp2_with (go_at_call 28; refine (yes25_any _ _).mono ?_; rintro e wY ⟨rfl, hbY⟩; have hk := keepC hbY (Nat.le_refl _); have hf := keepF hbY (Nat.le_refl _))
        refine bodyPost_ret (results_ans rfl _ _ (w.heap.size + 1 + 1) _ _ _ (set3_row (obj_keep bZ hbY) _ _ _) rfl) rfl ?_
        exact ⟨_, rfl, rd_nil _ _, set3_below (bB.trans (hbY.mono bB.size)) (by omega) _ _ _⟩
      · have d3 : decide (8 < x.arg) = false := decide_eq_false k3
        have d4 : (x.arg != o.n) = true := by simp; omega
        go_wp2_with (go_at_call 28; refine (yes25_any _ _).mono ?_; rintro e wY ⟨rfl, hbY⟩; have hk := keepC hbY (Nat.le_refl _); have hf := keepF hbY (Nat.le_refl _))
        refine bodyPost_ret (results_ans rfl _ _ (w.heap.size + 1 + 1) _ _ _ (set3_row (obj_keep bZ hbY) _ _ _) rfl) rfl ?_
        exact ⟨_, rfl, rd_nil _ _, set3_below (bB.trans (hbY.mono bB.size)) (by omega) _ _ _⟩
    · have HR2 : Hid (r = if x.part = 1 then (if manyH H x.obj 9 1 x.who = manyH H x.obj 9 3 x.who then some (0, []) else none) else if x.part = 2 then (if (List.range o.n.toNat).any (fun t => decide (manyH H x.obj 9 1 t ≤ manyH H x.obj 9 2 (-1))) = true then none else some (0, [])) else if x.part = 3 then (if manyH H x.obj 9 3 x.who < manyH H x.obj 9 1 x.who ∧ manyH H x.obj 9 1 x.who ≤ manyH H x.obj 9 2 (-1) then some (0, []) else none) else none) := by
        show r = _
        rw [HR.out]; unfold refBar; rw [if_neg k1, if_neg k2]
      have d3 : decide (8 < x.arg) = false := decide_eq_false (by omega)
      have d4 : (x.arg != o.n) = false := by simp; omega
      have hvA := (HV.out.below bB (Nat.le_refl _)).drew
      clear HR k1 k2
      go_enter Tryd.func26, Tryd.ntmps26
      go_wp2_with fail
      go_region_held (fun w' => w'.cell? ⟨w.heap.size + 1, 0, none⟩ = some (.int .i64 x.who) ∧ w'.cell? ⟨w.heap.size + 1, 1, none⟩ = some (.int .i64 x.obj))
        (first | exact xcells bXN | exact xcells (show (((w.alloc (.cells #[.int .i64 o.k, .int .i64 o.n, .int .i64 o.a, .int .i64 o.b] 48)).alloc (.cells #[.int .i64 x.who, .int .i64 x.obj, .int .i64 x.call, .int .i64 x.part, .int .u32 x.arg, .int .u32 x.val] 36)).alloc (.cells #[.int .u32 0, .slice none 0 0, .bool false] 65)).drew.heap[w.heap.size + 1]? = _ from bX))
        (first
          | (go_at_call 29; refine (many25_any _ (.slice A n cap) n H hl (by first | exact hvN | exact hvA) hn _ _ _ _).mono ?_; rintro e wN ⟨rfl, hbN⟩; have hbWN : Below (((w.alloc (.cells #[.int .i64 o.k, .int .i64 o.n, .int .i64 o.a, .int .i64 o.b] 48)).alloc (.cells #[.int .i64 x.who, .int .i64 x.obj, .int .i64 x.call, .int .i64 x.part, .int .u32 x.arg, .int .u32 x.val] 36)).alloc (.cells #[.int .u32 0, .slice none 0 0, .bool false] 65)).heap.size (((w.alloc (.cells #[.int .i64 o.k, .int .i64 o.n, .int .i64 o.a, .int .i64 o.b] 48)).alloc (.cells #[.int .i64 x.who, .int .i64 x.obj, .int .i64 x.call, .int .i64 x.part, .int .u32 x.arg, .int .u32 x.val] 36)).alloc (.cells #[.int .u32 0, .slice none 0 0, .bool false] 65)) wN := (by first | exact hbWN.trans (hbN.mono hbWN.size) | exact (bl_drew (Below.refl _ (((w.alloc (.cells #[.int .i64 o.k, .int .i64 o.n, .int .i64 o.a, .int .i64 o.b] 48)).alloc (.cells #[.int .i64 x.who, .int .i64 x.obj, .int .i64 x.call, .int .i64 x.part, .int .u32 x.arg, .int .u32 x.val] 36)).alloc (.cells #[.int .u32 0, .slice none 0 0, .bool false] 65)))).trans hbN); have bXN := obj_keep bX hbWN; have hvN := Rd.below (HV.out.below bB (Nat.le_refl _)) hbWN (Nat.le_refl _)))
      obtain ⟨wC, hwC⟩ : ∃ wC, wC = wN := ⟨_, rfl⟩
      subst hwC
      have hvD := hvN
      have hbW := hbWN
      have bO2 := obj_keep bO hbW
      have bX2 := obj_keep bX hbW
      have bZ2 := obj_keep bZ hbW
      have bB2 := bB.trans (hbW.mono bB.size)
      have hVD := Lib.hid hvD
      obtain ⟨y0, y1, y2, y3, y4, y5⟩ := cells6 bX2
      obtain ⟨p0, p1, p2, p3⟩ := cells4 bO2
      obtain ⟨s0, s1, s2⟩ := cells3 bZ2
      have hsz : w.heap.size + 1 + 1 + 1 ≤ wC.heap.size := by have := hbW.size; omega
      have zz : ∀ j, wC.frozen? ⟨w.heap.size + 1 + 1, j, none⟩ = false := fun j => frozen_of_row _ _ _ _ _ bZ2
      have z0 := zz 0
      have z1 := zz 1
      have z2 := zz 2
      have hlz : w.heap.size + 1 + 1 < wC.heap.size := by omega
      have HB2 := Lib.hid bB2
      have BZ := Lib.hid bZ2
      have BO := Lib.hid bO2
      have BX := Lib.hid bX2
      clear hvA hvD hbW bO bX bZ bB bS bO2 bX2 bZ2 bB2 zz HV bXN hvN hbWN hbN
      by_cases q1 : x.part = 1
      · have g1 : (x.part == 1) = true := by simp [q1]
        by_cases q : manyH H x.obj 9 1 x.who = manyH H x.obj 9 3 x.who
        · have g2 : (manyH H x.obj 9 1 x.who == manyH H x.obj 9 3 x.who) = true := by simp [q]
          obtain rfl : r = some (0, []) := by rw [HR2.out, if_pos q1, if_pos q]
          clear HR2 q1 q
          go_wp2_with (go_at_call 28; refine (yes25_any _ _).mono ?_; rintro e wY ⟨rfl, hbY⟩; have hk := keepC hbY (Nat.le_refl _); have hf := keepF hbY (Nat.le_refl _))
          refine bodyPost_ret (results_ans rfl _ _ (w.heap.size + 1 + 1) _ _ _ (set3_row (obj_keep BZ.out hbY) _ _ _) rfl) rfl ?_
          exact ⟨_, rfl, rd_nil _ _, set3_below (HB2.out.trans (hbY.mono HB2.out.size)) (by omega) _ _ _⟩
        · have g2 : (manyH H x.obj 9 1 x.who == manyH H x.obj 9 3 x.who) = false := by simp [q]
          obtain rfl : r = none := by rw [HR2.out, if_pos q1, if_neg q]
          clear HR2 q1 q
          go_wp2_with (go_at_call 28; refine (yes25_any _ _).mono ?_; rintro e wY ⟨rfl, hbY⟩; have hk := keepC hbY (Nat.le_refl _); have hf := keepF hbY (Nat.le_refl _))
          refine bodyPost_ret (results_ans rfl _ _ (w.heap.size + 1 + 1) _ _ _ (set3_row BZ.out _ _ _) rfl) rfl ?_
          exact ⟨_, rfl, rd_nil _ _, set3_below HB2.out (by omega) _ _ _⟩
      · have g1 : (x.part == 1) = false := by simp [q1]
        by_cases q2 : x.part = 2
        · have g2 : (x.part == 2) = true := by simp [q2]
          have HR3 : Hid (r = if (List.range o.n.toNat).any (fun t => decide (manyH H x.obj 9 1 t ≤ manyH H x.obj 9 2 (-1))) = true then none else some (0, [])) := by
            show r = _
            rw [HR2.out, if_neg q1, if_pos q2]
          clear HR2 q1 q2
          go_wp2_with fail
          go_loopw [10] (fun iv wr => ∃ i : Nat, (i : Int) ≤ max o.n 0 ∧ iv = .int .i64 i ∧ Hid (∀ t, t < i → manyH H x.obj 9 2 (-1) < manyH H x.obj 9 1 (t : Int)) ∧ Hid (Below wC.heap.size wC wr)) (fun i _ => o.n.toNat - (intOf i).toNat)
          case atStart => exact ⟨0, by omega, rfl, fun t ht => by omega, Below.refl _ _⟩
          case round =>
            clear y0 y1 y2 y3 y4 y5 p0 p1 p2 p3 s0 s1 s2 z0 z1 z2
            obtain ⟨i, hiN, rfl, HA, HB⟩ := hrel
            have rX := obj_keep BX.out HB.out
            have rO := obj_keep BO.out HB.out
            have rZ := obj_keep BZ.out HB.out
            obtain ⟨y0, y1, y2, y3, y4, y5⟩ := cells6 rX
            obtain ⟨p0, p1, p2, p3⟩ := cells4 rO
            obtain ⟨s0, s1, s2⟩ := cells3 rZ
            have zz : ∀ j, wr.frozen? ⟨w.heap.size + 1 + 1, j, none⟩ = false := fun j => frozen_of_row _ _ _ _ _ rZ
            have z0 := zz 0
            have z1 := zz 1
            have z2 := zz 2
            have hlw : w.heap.size + 1 + 1 < wr.heap.size := by have := HB.out.size; omega
            clear zz
            by_cases hlt : (i : Int) < o.n
            · have dlt : decide ((i : Int) < o.n) = true := decide_eq_true hlt
              have hm := many25_any wr (.slice A n cap) n H hl (hVD.out.below HB.out (Nat.le_refl _)) hn x.obj 9 1 (i : Int)
              obtain ⟨u, hu⟩ : ∃ u, u = manyH H x.obj 9 1 (i : Int) := ⟨_, rfl⟩
              rw [← hu] at hm
              by_cases q : u ≤ manyH H x.obj 9 2 (-1)
              · have dq : decide (u ≤ manyH H x.obj 9 2 (-1)) = true := decide_eq_true q
                obtain rfl : r = none := by
                  rw [HR3.out, if_pos (List.any_eq_true.2 ⟨i, List.mem_range.2 (by omega), decide_eq_true (by rw [← hu]; exact q)⟩)]
                clear HR3 q hu hlt
                go_wp2_with (go_at_call 29; refine hm.mono ?_; rintro e wY ⟨rfl, hbY⟩; have hk := keepC hbY (Nat.le_refl _); have hf := keepF hbY (Nat.le_refl _))
                have hb3 := HB.out.trans (hbY.mono HB.out.size)
                refine bodyPost_ret (results_ans rfl _ _ (w.heap.size + 1 + 1) _ _ _ (set3_row (obj_keep BZ.out hb3) _ _ _) rfl) rfl ?_
                exact ⟨_, rfl, rd_nil _ _, set3_below (HB2.out.trans (hb3.mono HB2.out.size)) (by omega) _ _ _⟩
              · have dq : decide (u ≤ manyH H x.obj 9 2 (-1)) = false := decide_eq_false q
                have HA1 : Hid (∀ t, t < i + 1 → manyH H x.obj 9 2 (-1) < manyH H x.obj 9 1 (t : Int)) := by
                  intro t ht
                  by_cases e : t = i
                  · subst e; rw [← hu]; omega
                  · exact HA.out t (by omega)
                clear q hu
                go_wp2_with (go_at_call 29; refine hm.mono ?_; rintro e wY ⟨rfl, hbY⟩; have hk := keepC hbY (Nat.le_refl _); have hf := keepF hbY (Nat.le_refl _))
                have hb3 := HB.out.trans (hbY.mono HB.out.size)
                exact ⟨⟨i + 1, by omega, by simp, HA1, hb3⟩, by simp [intOf]; omega⟩
            · have dlt : decide ((i : Int) < o.n) = false := decide_eq_false hlt
              obtain rfl : r = some (0, []) := by
                rw [HR3.out, if_neg]
                intro e
                obtain ⟨t, ht, hp⟩ := List.any_eq_true.1 e
                have h1 := HA.out t (by have := List.mem_range.1 ht; omega)
                have h2 := of_decide_eq_true hp
                omega
              clear HR3
              go_wp2_with (go_at_call 28; refine (yes25_any _ _).mono ?_; rintro e wY ⟨rfl, hbY⟩; have hk := keepC hbY (Nat.le_refl _); have hf := keepF hbY (Nat.le_refl _))
              have hb3 := HB.out.trans (hbY.mono HB.out.size)
              refine bodyPost_ret (results_ans rfl _ _ (w.heap.size + 1 + 1) _ _ _ (set3_row (obj_keep BZ.out hb3) _ _ _) rfl) rfl ?_
              exact ⟨_, rfl, rd_nil _ _, set3_below (HB2.out.trans (hb3.mono HB2.out.size)) (by omega) _ _ _⟩
        · have g2 : (x.part == 2) = false := by simp [q2]
          by_cases q3 : x.part = 3
          · have g3 : (x.part == 3) = true := by simp [q3]
            by_cases c1 : manyH H x.obj 9 3 x.who < manyH H x.obj 9 1 x.who
            · have g4 : decide (manyH H x.obj 9 3 x.who < manyH H x.obj 9 1 x.who) = true := decide_eq_true c1
              by_cases c2 : manyH H x.obj 9 1 x.who ≤ manyH H x.obj 9 2 (-1)
              · have g5 : decide (manyH H x.obj 9 1 x.who ≤ manyH H x.obj 9 2 (-1)) = true := decide_eq_true c2
                obtain rfl : r = some (0, []) := by rw [HR2.out, if_neg q1, if_neg q2, if_pos q3, if_pos ⟨c1, c2⟩]
                clear HR2 q1 q2 q3 c1 c2
                go_wp2_with (go_at_call 28; refine (yes25_any _ _).mono ?_; rintro e wY ⟨rfl, hbY⟩; have hk := keepC hbY (Nat.le_refl _); have hf := keepF hbY (Nat.le_refl _))
                refine bodyPost_ret (results_ans rfl _ _ (w.heap.size + 1 + 1) _ _ _ (set3_row (obj_keep BZ.out hbY) _ _ _) rfl) rfl ?_
                exact ⟨_, rfl, rd_nil _ _, set3_below (HB2.out.trans (hbY.mono HB2.out.size)) (by omega) _ _ _⟩
              · have g5 : decide (manyH H x.obj 9 1 x.who ≤ manyH H x.obj 9 2 (-1)) = false := decide_eq_false c2
                obtain rfl : r = none := by rw [HR2.out, if_neg q1, if_neg q2, if_pos q3, if_neg (fun e => c2 e.2)]
                clear HR2 q1 q2 q3 c1 c2
                go_wp2_with (go_at_call 28; refine (yes25_any _ _).mono ?_; rintro e wY ⟨rfl, hbY⟩; have hk := keepC hbY (Nat.le_refl _); have hf := keepF hbY (Nat.le_refl _))
                refine bodyPost_ret (results_ans rfl _ _ (w.heap.size + 1 + 1) _ _ _ (set3_row BZ.out _ _ _) rfl) rfl ?_
                exact ⟨_, rfl, rd_nil _ _, set3_below HB2.out (by omega) _ _ _⟩
            · have g4 : decide (manyH H x.obj 9 3 x.who < manyH H x.obj 9 1 x.who) = false := decide_eq_false c1
              obtain rfl : r = none := by rw [HR2.out, if_neg q1, if_neg q2, if_pos q3, if_neg (fun e => c1 e.1)]
              clear HR2 q1 q2 q3 c1
              go_wp2_with (go_at_call 28; refine (yes25_any _ _).mono ?_; rintro e wY ⟨rfl, hbY⟩; have hk := keepC hbY (Nat.le_refl _); have hf := keepF hbY (Nat.le_refl _))
              refine bodyPost_ret (results_ans rfl _ _ (w.heap.size + 1 + 1) _ _ _ (set3_row BZ.out _ _ _) rfl) rfl ?_
              exact ⟨_, rfl, rd_nil _ _, set3_below HB2.out (by omega) _ _ _⟩
          · have g3 : (x.part == 3) = false := by simp [q3]
            obtain rfl : r = none := by rw [HR2.out, if_neg q1, if_neg q2, if_neg q3]
            clear HR2 q1 q2 q3
            go_wp2_with (go_at_call 28; refine (yes25_any _ _).mono ?_; rintro e wY ⟨rfl, hbY⟩; have hk := keepC hbY (Nat.le_refl _); have hf := keepF hbY (Nat.le_refl _))
            refine bodyPost_ret (results_ans rfl _ _ (w.heap.size + 1 + 1) _ _ _ (set3_row BZ.out _ _ _) rfl) rfl ?_
            exact ⟨_, rfl, rd_nil _ _, set3_below HB2.out (by omega) _ _ _⟩

end Go.Proofs.YtfemeiopfpblaaaDoor.As
