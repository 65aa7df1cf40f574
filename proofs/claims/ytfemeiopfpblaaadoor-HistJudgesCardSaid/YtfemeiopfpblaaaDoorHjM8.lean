/- The walk of abs.New, which makes a machine; a machine in memory; what it does with a call. -/
import Derived.Test.YtfemeiopfpblaaaDoorHjM7
set_option linter.unusedVariables false
set_option linter.unusedSimpArgs false
set_option maxRecDepth 20000
namespace Go.Proofs.YtfemeiopfpblaaaDoor.As
open Go.RowKit

theorem infoSt : (Tryd.prog.info? 62).map (fun i => (i.zero, i.size, i.bytes)) = some (some (.agg #[.int .i64 0, .int .i64 0, .int .i64 0, .int .i64 0, .int .i64 0, .bool false, .bool false, .bool false, .bool false, .bool false, .bool false, .bool false, .bool false, .int .u32 0, .int .u32 0, .int .u32 0, .int .u32 0, .int .u32 0, .int .u32 0, .int .i64 0, .bool false, .int .i64 0, .int .i64 0, .int .i64 0, .int .i64 0, .int .i64 0, .int .i64 0, .int .i64 0, .int .i64 0, .int .i64 0, .int .i64 0, .int .i64 0, .int .i64 0, .int .i64 0, .int .i64 0, .int .i64 0, .int .i64 0, .int .i64 0]), 38, 224) := by kernel_rfl
def flatT (l : List St) : List Value := l.flatMap St.cells
theorem flatT_snoc (l : List St) (s : St) : flatT (l ++ [s]) = flatT l ++ s.cells := by simp [flatT]
theorem flatT_get : ∀ (l : List St), (∀ s ∈ l, s.Wf) → ∀ (i : Nat) (s : St), l[i]? = some s → ∀ j, j < 38 → (flatT l)[i * 38 + j]? = s.cells[j]?
  | [], _, i, s, h, j, hj => by simp at h
  | a :: r, hw, 0, s, h, j, hj => by
    simp at h; subst h
    have hl := (hw a List.mem_cons_self).len
    show (a.cells ++ flatT r)[0 * 38 + j]? = _
    rw [Nat.zero_mul, Nat.zero_add, List.getElem?_append_left (by omega)]
  | a :: r, hw, i + 1, s, h, j, hj => by
    have hl := (hw a List.mem_cons_self).len
    show (a.cells ++ flatT r)[(i + 1) * 38 + j]? = _
    rw [List.getElem?_append_right (by omega), hl, show (i + 1) * 38 + j - 38 = i * 38 + j by omega]
    exact flatT_get r (fun s hs => hw s (List.mem_cons_of_mem _ hs)) i s (by simpa using h) j hj
theorem St.new_wf (o : Ob) : (St.new o).Wf := ⟨rfl, rfl, rfl, rfl, rfl⟩
/-- A machine in memory: a block of its own, and its objects' row, behind a place. -/
def MachI (w : World) (mb B g : Nat) (th : Int) (S : List St) : Prop :=
  B ≤ g ∧ g < w.heap.size ∧ ∃ A cap, w.heap[mb]? = some (.cells #[.int .i64 th, .slice A S.length cap] 56 (0, 0)) ∧ ∀ (i : Nat) s, S[i]? = some s → A = some ⟨g, 0, none⟩ ∧ Seg w g (0 + i * 38) s
theorem mach_of_own {w : World} {mb B : Nat} {th : Int} {v : Value} {S : List St} (hB : B ≤ mb) (hw : ∀ s ∈ S, s.Wf) (hM : w.heap[mb]? = some (.cells #[.int .i64 th, v] 56 (0, 0))) (hO : w.ownsRow B 62 38 v S.length (flatT S)) : ∃ g, MachI w mb B g th S := by
  obtain ⟨hl, hO⟩ := hO
  have hlt := (Array.getElem?_eq_some_iff.1 hM).1
  rcases hO with ⟨rfl, hn⟩ | ⟨g, cap, cur, rfl, hBg, hh, hc, _, hs, ht⟩
  · refine ⟨mb, hB, hlt, none, 0, by rw [hn]; exact hM, fun i s hi => ?_⟩
    have := (List.getElem?_eq_some_iff.1 hi).1
    omega
  · refine ⟨g, hBg, (Array.getElem?_eq_some_iff.1 hh).1, _, cap, hM, fun i s hi => ⟨rfl, hw s (List.mem_of_getElem? hi), cur, hh, (hw s (List.mem_of_getElem? hi)).len, ?_, fun j hj => ?_⟩⟩
    · have := (List.getElem?_eq_some_iff.1 hi).1
      omega
    · have hiS := (List.getElem?_eq_some_iff.1 hi).1
      rw [← flatT_get S hw i s hi j hj, ← ht, List.getElem?_take, if_pos (by omega), Nat.zero_add]
      simp
theorem MachI.keep {w w' : World} {mb B B' g : Nat} {th : Int} {S : List St} (h : MachI w mb B g th S) (hb : Below B' w w') (hB : w.heap.size ≤ B') : MachI w' mb B g th S := by
  obtain ⟨hg, hgl, A, cap, hM, hS⟩ := h
  have hlt := (Array.getElem?_eq_some_iff.1 hM).1
  refine ⟨hg, Nat.lt_of_lt_of_le hgl hb.size, A, cap, (hb.block _ (by omega)).trans hM, fun i s hi => ?_⟩
  obtain ⟨e, hs⟩ := hS i s hi
  exact ⟨e, Seg.below hs hb hB⟩
theorem MachI.upd {w w' : World} {mb B g j : Nat} {th : Int} {S : List St} {s s' : St} (h : MachI w mb B g th S) (hj : S[j]? = some s) (hU : Upd w g (0 + j * 38) s' w') : MachI w' mb B g th (S.set j s') := by
  obtain ⟨hBg, hgl, A, cap, hM, hS⟩ := h
  obtain ⟨hO, hw, arr, arr', h1, h2, hsz, hseg, hrest⟩ := hU
  have hne : mb ≠ g := by
    intro e
    subst e
    rw [hM] at h1
    injection h1 with h1
    injection h1 with _ h1
    exact absurd h1 (by decide)
  have hlt := (Array.getElem?_eq_some_iff.1 hM).1
  refine ⟨hBg, Nat.lt_of_lt_of_le hgl hO.size, A, cap, ?_, fun i q hi => ?_⟩
  · rw [List.length_set]
    exact (hO.block mb hlt hne).trans hM
  · have hjl := (List.getElem?_eq_some_iff.1 hj).1
    rw [set_get _ _ _ _ hjl] at hi
    by_cases e : i = j
    · subst e
      rw [if_pos rfl] at hi
      injection hi with hi
      subst hi
      exact ⟨(hS i s hj).1, hw, arr', h2, hseg⟩
    · rw [if_neg e] at hi
      obtain ⟨e', hq, arr2, h3, h4, h5, h6⟩ := hS i q hi
      rw [h1] at h3
      injection h3 with h3
      injection h3 with h3
      subst h3
      exact ⟨e', hq, arr', h2, h4, by omega, fun k hk => (hrest (0 + i * 38 + k) (by omega)).trans (h6 k hk)⟩
def NewOk (th : Int) (obs : List Ob) : Prop := 1 ≤ th ∧ th ≤ 8 ∧ ∀ o ∈ obs, RightP o.k o.n o.a o.b th
def NewPost (w : World) (obs : List Ob) (th : Int) (e : Ending) (w' : World) : Prop :=
  Below w.heap.size w w' ∧ ((NewOk th obs ∧ ∃ mb g, e = .returned (.tuple #[.pointer (some ⟨mb, 0, none⟩), .int .i64 0]) ∧ MachI w' mb w.heap.size g th (obs.map St.new)) ∨ (¬ NewOk th obs ∧ e = .returned (.tuple #[.pointer none, .int .i64 1])))
def NewI (w : World) (obs : List Ob) (th : Int) (i : Nat) (wr : World) : Prop :=
  ∃ ov, wr.heap[w.heap.size]? = some (.cells #[.int .i64 th, ov] 56 (0, 0)) ∧ wr.ownsRow (w.heap.size + 1) 62 38 ov i (flatT ((obs.take i).map St.new)) ∧ Below w.heap.size w wr
theorem own_mono {w : World} {b b' : Nat} {e : TypeId} {size n : Nat} {v : Value} {xs : List Value} (h : w.ownsRow b e size v n xs) (hb : b' ≤ b) : w.ownsRow b' e size v n xs := by
  obtain ⟨h1, h2⟩ := h
  refine ⟨h1, h2.imp id ?_⟩
  rintro ⟨g, cap, cur, a1, a2, a3⟩
  exact ⟨g, cap, cur, a1, by omega, a3⟩
set_option maxHeartbeats 2000000 in
theorem absNew_any (w : World) (T : TabO w) (vl : Value) (m : Nat) (obs : List Ob) (hI : InO w vl m obs) (hm : m ≤ 1000) (th : Int) :
    Calls Tryd.prog 7 #[vl, .int .i64 th] w (NewPost w obs th) := by
  have HI := Lib.hid hI
  have HT := Lib.hid T
  obtain ⟨hml, oA, oc, rfl, _⟩ := hI
  obtain ⟨i0, hi, hz0, hz1, hz2⟩ := info_parts infoSt
  have HB1 := Lib.hid ((Below.refl w.heap.size w).alloc (Nat.le_refl _) (.cells #[.int .i64 th, .slice none 0 0] 56))
  have HC1 := Lib.hid (heap_alloc_new w (.cells #[.int .i64 th, .slice none 0 0] 56))
  clear T
  by_cases t1 : th < 1
  · have d1 : decide (th < 1) = true := decide_eq_true t1
    go_enter Tryd.func7, Tryd.ntmps7
    go_wp2_with fail
    go_ret2
    exact ⟨HB1.out, .inr ⟨fun e => by have := e.1; omega, rfl⟩⟩
  have d1 : decide (th < 1) = false := decide_eq_false t1
  by_cases t2 : 8 < th
  · have d2 : decide (8 < th) = true := decide_eq_true t2
    go_enter Tryd.func7, Tryd.ntmps7
    go_wp2_with fail
    go_ret2
    exact ⟨HB1.out, .inr ⟨fun e => by have := e.2.1; omega, rfl⟩⟩
  have d2 : decide (8 < th) = false := decide_eq_false t2
  have m20 : (m : Int) ≤ 1000 := by omega
  go_enter Tryd.func7, Tryd.ntmps7
  go_wp2_with fail
  go_loopw [20] (fun iv wr => ∃ i : Nat, i ≤ m ∧ iv = .int .i64 i ∧ Hid (∀ o ∈ obs.take i, RightP o.k o.n o.a o.b th) ∧ Hid (NewI w obs th i wr)) (fun i _ => m - (intOf i).toNat)
  case atStart => exact ⟨0, by omega, rfl, (fun o ho => by simp at ho), ⟨_, HC1.out, World.ownsRow_nil _ _ _ _, HB1.out⟩⟩
  case round =>
    obtain ⟨i, hin, rfl, HA, HN⟩ := hrel
    obtain ⟨ov, hMr, hOr, hBr⟩ := HN.out
    have hwr : w.heap.size < wr.heap.size := (Array.getElem?_eq_some_iff.1 hMr).1
    have mc0 : wr.cell? ⟨w.heap.size, 0, none⟩ = some (.int .i64 th) := cell_of_row wr w.heap.size 0 _ _ _ hMr
    have mc1 : wr.cell? ⟨w.heap.size, 1, none⟩ = some ov := cell_of_row wr w.heap.size 1 _ _ _ hMr
    have HMr := Lib.hid hMr
    have HOr := Lib.hid hOr
    have HBr := Lib.hid hBr
    clear hMr hOr hBr HN
    by_cases hlt : i < m
    · obtain ⟨o, ho⟩ : ∃ o, obs[i]? = some o := ⟨_, List.getElem?_eq_getElem (by omega)⟩
      obtain ⟨b0, off0, rfl, hb0, _⟩ := InO.at (HI.out.below HBr.out (Nat.le_refl _)) ho
      obtain ⟨hb9, oc0, oc1, oc2, oc3⟩ := InO.at2 (HI.out.below HBr.out (Nat.le_refl _)) ho
      have hTO := (HT.out.below HBr.out (Nat.le_refl _)).below ((Below.refl wr.heap.size wr).alloc (Nat.le_refl _) (.cells #[.int .i64 o.k, .int .i64 o.n, .int .i64 o.a, .int .i64 o.b] 48)) (Nat.le_refl _)
      have HTO := Lib.hid hTO
      have HKB := Lib.hid ((Below.refl wr.heap.size wr).alloc (Nat.le_refl _) (.cells #[.int .i64 o.k, .int .i64 o.n, .int .i64 o.a, .int .i64 o.b] 48))
      have HKC := Lib.hid (heap_alloc_new wr (.cells #[.int .i64 o.k, .int .i64 o.n, .int .i64 o.a, .int .i64 o.b] 48))
      have HOO := Lib.hid ho
      clear hTO ho
      by_cases hR : RightP o.k o.n o.a o.b th
      · have dR : decide (RightP o.k o.n o.a o.b th) = true := decide_eq_true hR
        have HA1 : Hid (∀ o ∈ obs.take (i + 1), RightP o.k o.n o.a o.b th) := by
          intro q hq
          rw [List.take_add_one, HOO.out] at hq
          rcases List.mem_append.1 hq with hq | hq
          · exact HA.out q hq
          · simp at hq; subst hq; exact hR
        clear hR
        go_wp2_with fail
        go_at_call 11
        refine (right_any _ HTO.out _ _ _ _ _).mono ?_
        rintro e wN ⟨rfl, hbN⟩
        have hON := obj_keep HKC.out hbN
        obtain ⟨p0, p1, p2, p3⟩ := cells4 hON
        have hsN : wr.heap.size < wN.heap.size := (Array.getElem?_eq_some_iff.1 hON).1
        have hsW : w.heap.size < wN.heap.size := by omega
        have hBN := HKB.out.trans (hbN.mono HKB.out.size)
        have hMN := (hBN.block _ hwr).trans HMr.out
        have nc1 : wN.cell? ⟨w.heap.size, 1, none⟩ = some ov := cell_of_row wN w.heap.size 1 _ _ _ hMN
        have hOwn : wN.ownsRow (w.heap.size + 1) 62 38 ov i (flatT ((obs.take i).map St.new)) := own_only HOr.out (Only.of_below (F := fun _ => False) hBN (Nat.le_refl _)) (fun _ _ e => e)
        have HON := Lib.hid hOwn
        have HMN := Lib.hid hMN
        have HBN := Lib.hid (HBr.out.trans (hBN.mono HBr.out.size))
        have hne : ov.ownBlock ≠ some w.heap.size := fun e => by have := (hOwn.lt _ e).1; omega
        clear hOwn hMN hBN hbN hON mc0 mc1
        go_wp2_with fail
        go_region_law (refine step_append_lies _ rfl (.tmp 32) (.tmp 37) 54 rfl (w.heap.size + 1) 62 i0 _ 38 224 Tryd.underlying54 hi hz0 hz1 hz2 rfl (by decide) ov _ _ rfl (HON.out.alloc _) ⟨wN.heap.size, 0, none⟩ 1 1 [.int .i64 o.k, .int .i64 o.n, .int .i64 o.a, .int .i64 o.b, .int .i64 (-1), .bool false, .bool false, .bool false, .bool false, .bool false, .bool false, .bool false, .bool false, .int .u32 0, .int .u32 0, .int .u32 0, .int .u32 0, .int .u32 0, .int .u32 0, .int .i64 o.n, .bool false, .int .i64 0, .int .i64 0, .int .i64 0, .int .i64 0, .int .i64 0, .int .i64 0, .int .i64 0, .int .i64 0, .int .i64 0, .int .i64 0, .int .i64 0, .int .i64 0, .int .i64 0, .int .i64 0, .int .i64 0, .int .i64 0, .int .i64 0] rfl rfl (World.news_of_block (heap_alloc_new _ _)) (by simp [Value.oneCell']) (by decide) (by unfold maxLen; omega) (by omega) (by simp; omega) _ rfl ?_; intro g1 cap w1 ho hgr hat hlt1; have k0 : w1.heap[w.heap.size]? = some (.cells #[.int .i64 th, ov] 56 (0, 0)) := (hgr.block w.heap.size (by simp; omega) (fun e => hne e.symm)).trans ((Below.heap_alloc _ _ _ (by omega)).trans HMN.out); have k1 : w1.cell? ⟨w.heap.size, 1, none⟩ = some ov := cell_of_row w1 w.heap.size 1 _ _ _ k0; have k2 := frozen_of_row w1 w.heap.size 1 _ _ k0)
        all_goals
          (try go_wp2_with fail)
          have hBg : Below w.heap.size w (w1.setCell ⟨w.heap.size, 1, none⟩ (.slice (some ⟨g1, 0, none⟩) (i + 1) cap)) := ((bl_drew (HBN.out.alloc HBN.out.size _)).grown hgr (by simp; omega) (fun k hk => by have := (HON.out.lt k hk).1; omega)).setCell (Nat.le_refl _) _
          refine ⟨⟨i + 1, by omega, by simp, HA1, _, (heap_setCell_same _ w.heap.size 1 _ _ _ k0).trans (by simp; rfl), ?_, hBg⟩, by simp [intOf]; omega⟩
          rw [List.take_add_one, HOO.out, Option.toList_some, List.map_append, List.map_singleton, flatT_snoc]
          exact ownsRow_setCell_below ho (a := ⟨w.heap.size, 1, none⟩) (by show w.heap.size < w.heap.size + 1; omega) _
      · have dR : decide (RightP o.k o.n o.a o.b th) = false := decide_eq_false hR
        have HNO : Hid (¬ NewOk th obs) := fun e => hR (e.2.2 o (List.mem_of_getElem? HOO.out))
        clear hR
        go_wp2_with fail
        go_at_call 11
        refine (right_any _ HTO.out _ _ _ _ _).mono ?_
        rintro e wN ⟨rfl, hbN⟩
        have hBN := HKB.out.trans (hbN.mono HKB.out.size)
        have HBN := Lib.hid (HBr.out.trans (hBN.mono HBr.out.size))
        clear hBN hbN mc0 mc1
        go_wp2_with fail
        go_ret2
        exact ⟨HBN.out, .inr ⟨HNO.out, rfl⟩⟩
    · have hie : i = m := by omega
      have HOK : Hid (NewOk th obs) := ⟨by omega, by omega, fun o ho => HA.out o (by rw [hie, ← hml, List.take_length]; exact ho)⟩
      have hO2 : wr.ownsRow w.heap.size 62 38 ov (obs.map St.new).length (flatT (obs.map St.new)) := by
        have h := own_mono HOr.out (Nat.le_succ w.heap.size)
        rw [hie, ← hml, List.take_length] at h
        rw [List.length_map]
        exact h
      obtain ⟨g, hM⟩ := mach_of_own (Nat.le_refl _) (fun s hs => by obtain ⟨o, _, rfl⟩ := List.mem_map.1 hs; exact St.new_wf o) HMr.out hO2
      have HMM := Lib.hid hM
      clear hM hO2 hie
      go_wp2_with fail
      go_ret2
      exact ⟨HBr.out, .inl ⟨HOK.out, w.heap.size, g, rfl, HMM.out⟩⟩

end Go.Proofs.YtfemeiopfpblaaaDoor.As
