/- The walk of deadlatchlaw20.calls: a program of threads that each ask a semaphore, call by call. -/
import Derived.Test.YtcnmhgblbikfkaaGreatDoorTrB
set_option linter.unusedVariables false
set_option linter.unusedSimpArgs false
set_option maxRecDepth 20000
namespace Go.Proofs.YtcnmhgblbikfkaaGreatDoor.As.T
open Go.RowKit

/-- A thread's code behind so many of its calls. -/
def semN (c : Int → List Ins) (row : List Int) : Nat → List Ins
  | 0 => []
  | j + 1 => match row[j]? with
    | some x => addR (semN c row j) (2 * (x - 1)) (c x)
    | none => semN c row j
theorem semN_at {c : Int → List Ins} {row : List Int} {j : Nat} {x : Int} (h : row[j]? = some x) : semN c row (j + 1) = addR (semN c row j) (2 * (x - 1)) (c x) := by rw [semN, h]
theorem semN_len {c : Int → List Ins} {row : List Int} (hc : ∀ x ∈ row, (c x).length ≤ 200) : ∀ j, (semN c row j).length ≤ j * 202
  | 0 => Nat.le_refl _
  | j + 1 => by
    have ih := semN_len hc j
    rw [semN]
    cases h : row[j]? with
    | none => show (semN c row j).length ≤ _; omega
    | some x =>
      have := hc x (List.mem_of_getElem? h)
      show (addR _ _ _).length ≤ _
      rw [addR_len]; omega
/-- Rows of calls in memory. -/
def RowsAt (W : World) (gl : Nat) (ls : List (List Int)) : Prop := ∀ t row, ls[t]? = some row → ∃ v, W.cell? ⟨gl, t, none⟩ = some v ∧ Rd W 1 v row.length (row.map (.int .i64))
theorem RowsAt.at {w W : World} {gl : Nat} {ls : List (List Int)} (h : RowsAt w gl ls) (hb : Below w.heap.size w W) {t : Nat} {row : List Int} (ht : ls[t]? = some row) (h0 : 0 < row.length) : ∃ b off cap, W.cell? ⟨gl, t, none⟩ = some (.slice (some ⟨b, off, none⟩) row.length cap) ∧ ∀ j x, row[j]? = some x → W.cell? ⟨b, off + j, none⟩ = some (.int .i64 x) := by
  obtain ⟨v, h1, h2⟩ := h t row ht
  have h3 := h2.below hb (Nat.le_refl _)
  obtain ⟨A, cap, rfl⟩ := h3.form
  obtain ⟨b, off, rfl, hlt, hc⟩ := h3.cells h0
  refine ⟨b, off, cap, (hb.cell (block_lt_of_cell h1)).trans h1, fun j x hx => hc j _ ?_⟩
  rw [List.getElem?_map, hx]; rfl
/-- A thread's code so far, all of it laid since. -/
structure CV (wo W : World) (lv : Value) (L : List Ins) : Prop where
  ho : W.ownsRow wo.heap.size 132 5 lv L.length (flat L)
  bel : Below wo.heap.size wo W
theorem CV.only {wo W W1 : World} {lv : Value} {L : List Ins} (h : CV wo W lv L) (h1 : Only (fun _ => False) W W1) : CV wo W1 lv L :=
  ⟨own_only h.ho h1 (fun _ _ f => f), h.bel.trans (h1.below h.bel.size (fun _ e => e.elim))⟩
theorem CV.app {wo W W1 W2 : World} {lv : Value} {L L' : List Ins} {g p m : Nat} (h : CV wo W lv L) (h1 : Only (fun _ => False) W W1) (ho : W2.ownsRow wo.heap.size 132 5 (.slice (some ⟨g, 0, none⟩) m p) m (flat L')) (hl : L'.length = m) (hgr : W1.grownBy W2 lv.ownBlock) : CV wo W2 (.slice (some ⟨g, 0, none⟩) m p) L' ∧ ∀ k, k < W.heap.size → lv.ownBlock ≠ some k → W2.heap[k]? = W.heap[k]? := by
  subst hl
  have h2 := h.only h1
  exact ⟨⟨ho, Below.grown h2.bel hgr h2.bel.size (fun k hk => (h.ho.lt k hk).1)⟩, fun k hk hn => (hgr.block k (Nat.lt_of_lt_of_le hk h1.size) (fun e => hn e.symm)).trans (h1.block k hk (fun e => e))⟩
theorem semN_pos {c : Int → List Ins} {row : List Int} {j : Nat} (h : j < row.length) : 0 < (semN c row (j + 1)).length := by
  rw [semN_at (List.getElem?_eq_getElem h), addR_len]; omega
theorem wr_idM {x : Int} (h0 : 0 ≤ x) (h1 : x ≤ 1000000) : wrap64 x = x := by unfold wrap64; omega
set_option maxHeartbeats 16000000 in
theorem calls20_any (w : World) (TI : TabI w) (k n a b : Int) (room : Int) (gl lcap : Nat) (ls : List (List Int)) (hrows : RowsAt w gl ls) (hT0 : 0 < ls.length) (hT : ls.length ≤ 4) (hrow : ∀ row ∈ ls, 0 < row.length ∧ row.length ≤ 6 ∧ ∀ x ∈ row, x = 1 ∨ x = 2) (c : Int → List Ins)
    (hcode : ∀ W, Below w.heap.size w W → ∀ x, (x = 1 ∨ x = 2) → ∀ t : Nat, t < ls.length → Calls Tryz.prog 10 #[.agg #[.int .i64 k, .int .i64 n, .int .i64 a, .int .i64 b], .int .i64 x, .int .i64 (ls.length : Int), .int .i64 (t : Int), .int .u32 16, .int .u32 0] W (CodeIs W (c x)))
    (hlc : ∀ x, (x = 1 ∨ x = 2) → (c x).length ≤ 200 ∧ 0 < (c x).length ∧ ∀ i ∈ c x, 0 ≤ i.k ∧ i.k ≤ 4294967295) (hn : 0 ≤ n ∧ n ≤ 4294967295) :
    Calls Tryz.prog 31 #[.agg #[.int .i64 k, .int .i64 n, .int .i64 a, .int .i64 b], .slice (some ⟨gl, 0, none⟩) ls.length lcap, .int .i64 room] w fun e w' => ∃ cv mv, e = .returned (.tuple #[.agg #[cv, mv, .int .i64 room], .bool true]) ∧ w'.ownsRow w.heap.size 25 1 mv (16 + [n].length) (w32 (mem0 [n])) ∧ CsW w w' (w.heap.size + 1) cv (fun t => semN c (ls.getD t []) (ls.getD t []).length) ls.length ∧ Below w.heap.size w w' := by
  obtain ⟨f, hf⟩ : ∃ f : Nat → List Ins, f = fun t => semN c (ls.getD t []) (ls.getD t []).length := ⟨_, rfl⟩
  rw [← hf]
  have HFF : Hid (∀ t row, ls[t]? = some row → f t = semN c row row.length) := Lib.hid (by intro t row h; rw [hf]; simp only [List.getD_eq_getElem?_getD, h, Option.getD_some])
  clear hf
  obtain ⟨i0, hi0, hz0, hz1, hz2⟩ := info_parts infoI
  obtain ⟨i1, hi', hy0, hy1, hy2⟩ := info_parts infoW
  have h17 : 16 + 1 ≤ maxLen := by decide
  have ha4 : (16 + 1) * 4 ≤ 140737488355328 := by decide
  have h16 : 16 ≤ maxLen := by decide
  have hwn : IntKind.u32.wrap n = n := by rw [IntKind.wrap_u32]; omega
  have hmk : ∀ W, (Instr.makeSlice 43 (.int .i64 16) (.int .i64 16)).run Tryz.prog W = .ok (.slice (some ⟨W.heap.size, 0, none⟩) 16 16) (W.alloc (.cells #[.int .u32 0, .int .u32 0, .int .u32 0, .int .u32 0, .int .u32 0, .int .u32 0, .int .u32 0, .int .u32 0, .int .u32 0, .int .u32 0, .int .u32 0, .int .u32 0, .int .u32 0, .int .u32 0, .int .u32 0, .int .u32 0] 25)) := fun _ => by kernel_rfl
  obtain ⟨w1, hw1⟩ : ∃ W, (w.alloc (.cells #[.int .i64 k, .int .i64 n, .int .i64 a, .int .i64 b] 23)).alloc (.cells #[.slice none 0 0, .slice none 0 0, .int .i64 0] 45) = W := ⟨_, rfl⟩
  have hsz1 : w1.heap.size = w.heap.size + 1 + 1 := by rw [← hw1]; simp
  have hbw : Below w.heap.size w w1 := by rw [← hw1]; exact ((Below.refl _ w).alloc (Nat.le_refl _) _).alloc (by simp) _
  have hob : w1.heap[w.heap.size]? = some (.cells #[.int .i64 k, .int .i64 n, .int .i64 a, .int .i64 b] 23 (0, 0)) := by rw [← hw1]; exact up_al (heap_alloc_new _ _)
  have hrs : w1.heap[w.heap.size + 1]? = some (.cells #[.slice none 0 0, .slice none 0 0, .int .i64 0] 45 (0, 0)) := by
    have e : (w.alloc (.cells #[.int .i64 k, .int .i64 n, .int .i64 a, .int .i64 b] 23)).heap.size = w.heap.size + 1 := by simp
    rw [← hw1, ← e]; exact heap_alloc_new _ _
  have lt : ∀ {k : Nat} {o : Obj}, w1.heap[k]? = some o → k < w1.heap.size := fun hk => (Array.getElem?_eq_some_iff.1 hk).1
  have x1 : ∀ W, Below w1.heap.size w1 W → W.cell? ⟨w.heap.size, 1, none⟩ = some (.int .i64 n) := fun W hW => cell_of_row _ _ 1 _ _ _ (up_bl hW (lt hob) hob)
  have HCD := Lib.hid hcode
  have HTI := Lib.hid TI
  have HLC := Lib.hid hlc
  have HRW := Lib.hid hrows
  have HRO := Lib.hid hrow
  have HW1 := Lib.hid hw1
  have HSZ := Lib.hid hsz1
  have HBW := Lib.hid hbw
  have HRS := Lib.hid hrs
  have HOB := Lib.hid hob
  clear hcode TI hlc hrows hrow hw1 hsz1 hbw hob hrs lt hn
  go_enter Tryz.func31, Tryz.ntmps31
  go_upto_region 1 with fail
  rw [HW1.out]
  clear HW1
  go_cut [6, 8] (fun v6 v8 wx => v6 = .pointer (some ⟨w.heap.size + 1, 0, none⟩) ∧ ∃ gp : Nat, v8 = .pointer (some ⟨gp, 0, none⟩) ∧ Hid (PrW w wx gp (.slice none 0 0) room [n]) ∧ Hid (wx.heap[w.heap.size]? = some (.cells #[.int .i64 k, .int .i64 n, .int .i64 a, .int .i64 b] 23 (0, 0))))
  case first =>
    have b0 : Below w1.heap.size w1 w1.drew := bl_drw (Below.refl _ _)
    refine wp_region_g (fun W => Below w1.heap.size w1 W) 9 (by kernel_rfl) ?_
    generalize w1.drew = wd at *
    refine AnyG_take (i := 0) (oi := _) (v := ?_) rfl (by kernel_rfl) (fun _ _ _ h => h) (Or.inl ⟨by rfl, ?_⟩) b0 ?_
    rotate_left
    · intro W hSw; (try dsimp only at hSw); go_simp; first | done | with_reducible rfl
    simp only [Act.put, List.getElem_toArray, List.getElem_cons_zero, List.getElem_cons_succ, List.setIfInBounds_toArray, List.set_cons_zero, List.set_cons_succ]
    refine AnyG_take (i := 2) (oi := _) (v := ?_) rfl (by kernel_rfl) (fun _ _ _ h => h) (Or.inl ⟨by rfl, ?_⟩) b0 ?_
    rotate_left
    · intro W hSw; (try dsimp only at hSw); go_simp; first | done | with_reducible rfl
    simp only [Act.put, List.getElem_toArray, List.getElem_cons_zero, List.getElem_cons_succ, List.setIfInBounds_toArray, List.set_cons_zero, List.set_cons_succ]
    refine AnyG_take (i := 3) (oi := _) (v := ?_) rfl (by kernel_rfl) (fun _ _ _ h => h) (Or.inl ⟨by rfl, ?_⟩) b0 ?_
    rotate_left
    · intro W hSw; (try dsimp only at hSw); go_simp; first | done | with_reducible rfl
    simp only [Act.put, List.getElem_toArray, List.getElem_cons_zero, List.getElem_cons_succ, List.setIfInBounds_toArray, List.set_cons_zero, List.set_cons_succ]
    refine AnyG_take (i := 4) (oi := _) (v := ?_) rfl (by kernel_rfl) (fun _ _ _ h => h) (Or.inl ⟨by rfl, ?_⟩) b0 ?_
    rotate_left
    · intro W hSw; (try dsimp only at hSw); go_simp; first | done | with_reducible rfl
    simp only [Act.put, List.getElem_toArray, List.getElem_cons_zero, List.getElem_cons_succ, List.setIfInBounds_toArray, List.set_cons_zero, List.set_cons_succ]
    refine AnyG_three (i := 1) (j := 5) (k := 8) (by kernel_rfl) ?_ ?_ ?_
    · skip
      refine wpOp_of rfl rfl ?_
      try simp only [Act.put, List.getElem_toArray, List.getElem_cons_zero, List.getElem_cons_succ, List.setIfInBounds_toArray, List.set_cons_zero, List.set_cons_succ]
      go_simp
      obtain ⟨v1, hv1⟩ : ∃ W, World.alloc wd (.cells #[.int .u32 0, .int .u32 0, .int .u32 0, .int .u32 0, .int .u32 0, .int .u32 0, .int .u32 0, .int .u32 0, .int .u32 0, .int .u32 0, .int .u32 0, .int .u32 0, .int .u32 0, .int .u32 0, .int .u32 0, .int .u32 0] 25) = W := ⟨_, rfl⟩
      rw [hv1]
      have b1 : Below w1.heap.size w1 v1 := by rw [← hv1]; exact Below.alloc b0 (Below.size b0) _
      have M1 : Hid (v1.heap[wd.heap.size]? = some (.cells #[.int .u32 0, .int .u32 0, .int .u32 0, .int .u32 0, .int .u32 0, .int .u32 0, .int .u32 0, .int .u32 0, .int .u32 0, .int .u32 0, .int .u32 0, .int .u32 0, .int .u32 0, .int .u32 0, .int .u32 0, .int .u32 0] 25 (0, 0)) ∧ w1.heap.size ≤ wd.heap.size) := Lib.hid ⟨by rw [← hv1]; exact heap_alloc_new _ _, Below.size b0⟩
      clear hv1
      refine ⟨b1, ?_⟩
      try simp only [Act.put, List.getElem_toArray, List.getElem_cons_zero, List.getElem_cons_succ, List.setIfInBounds_toArray, List.set_cons_zero, List.set_cons_succ]
      refine AnyG_two (i := 5) (j := 8) (by kernel_rfl) ?_ ?_
      · skip
        refine wpOp_of rfl rfl ?_
        try simp only [Act.put, List.getElem_toArray, List.getElem_cons_zero, List.getElem_cons_succ, List.setIfInBounds_toArray, List.set_cons_zero, List.set_cons_succ]
        go_simp
        obtain ⟨v2, hv2⟩ : ∃ W, World.alloc v1 (.cells #[.int .u32 n] 25) = W := ⟨_, rfl⟩
        rw [hv2]
        have b2 : Below w1.heap.size w1 v2 := by rw [← hv2]; exact Below.alloc b1 (Below.size b1) _
        have M2 : Hid (v2.heap[wd.heap.size]? = some (.cells #[.int .u32 0, .int .u32 0, .int .u32 0, .int .u32 0, .int .u32 0, .int .u32 0, .int .u32 0, .int .u32 0, .int .u32 0, .int .u32 0, .int .u32 0, .int .u32 0, .int .u32 0, .int .u32 0, .int .u32 0, .int .u32 0] 25 (0, 0)) ∧ w1.heap.size ≤ wd.heap.size) := Lib.hid ⟨by rw [← hv2]; exact up_al M1.out.1, M1.out.2⟩
        have F2 : Hid (v2.heap[v1.heap.size]? = some (.cells #[.int .u32 n] 25 (0, 0)) ∧ w1.heap.size ≤ v1.heap.size) := Lib.hid ⟨by rw [← hv2]; exact heap_alloc_new _ _, Below.size b1⟩
        clear hv2
        refine ⟨b2, ?_⟩
        try simp only [Act.put, List.getElem_toArray, List.getElem_cons_zero, List.getElem_cons_succ, List.setIfInBounds_toArray, List.set_cons_zero, List.set_cons_succ]
        refine AnyG_two (i := 6) (j := 8) (by kernel_rfl) ?_ ?_
        · skip
          refine wpOp_of rfl rfl ?_
          try simp only [Act.put, List.getElem_toArray, List.getElem_cons_zero, List.getElem_cons_succ, List.setIfInBounds_toArray, List.set_cons_zero, List.set_cons_succ]
          refine wp_append_lies _ (.tmp 16) (.tmp 20) 43 (by rfl) w1.heap.size 25 i1 _ 1 4 Tryz.underlying43 hi' hy0 hy1 hy2 rfl (by decide) (.slice (some ⟨wd.heap.size, 0, none⟩) 16 16) 16 [.int .u32 0, .int .u32 0, .int .u32 0, .int .u32 0, .int .u32 0, .int .u32 0, .int .u32 0, .int .u32 0, .int .u32 0, .int .u32 0, .int .u32 0, .int .u32 0, .int .u32 0, .int .u32 0, .int .u32 0, .int .u32 0] (by rfl) (own_made (arr := #[.int .u32 0, .int .u32 0, .int .u32 0, .int .u32 0, .int .u32 0, .int .u32 0, .int .u32 0, .int .u32 0, .int .u32 0, .int .u32 0, .int .u32 0, .int .u32 0, .int .u32 0, .int .u32 0, .int .u32 0, .int .u32 0]) M2.out.2 M2.out.1 rfl h16) ⟨v1.heap.size, 0, none⟩ 1 1 [.int .u32 n] (by rfl) rfl (World.news_of_block F2.out.1) (by simp [Value.oneCell']) (by decide) h17 ha4 (Below.size b2) _ rfl ?_
          intro g5 p5 v3 o5 gr5 at5 lt5
          have b3 : Below w1.heap.size w1 v3 := Below.grown b2 gr5 (Below.size b2) (fun k hk => by have := own_eq hk; have := M2.out.2; omega)
          have V3 : Hid (v3.ownsRow w1.heap.size 25 1 (.slice (some ⟨g5, 0, none⟩) (16 + [n].length) p5) (16 + [n].length) ([.int .u32 0, .int .u32 0, .int .u32 0, .int .u32 0, .int .u32 0, .int .u32 0, .int .u32 0, .int .u32 0, .int .u32 0, .int .u32 0, .int .u32 0, .int .u32 0, .int .u32 0, .int .u32 0, .int .u32 0, .int .u32 0] ++ w32 [n])) := Lib.hid o5
          clear o5 gr5 at5 lt5
          refine ⟨fun _ _ => b3, ?_⟩
          try simp only [Act.put, List.getElem_toArray, List.getElem_cons_zero, List.getElem_cons_succ, List.setIfInBounds_toArray, List.set_cons_zero, List.set_cons_succ]
          refine AnyG_take (i := 7) (oi := _) (v := ?_) rfl (by kernel_rfl) (fun _ _ _ h => h) (Or.inl ⟨by rfl, ?_⟩) b3 ?_
          rotate_left
          · intro W hSw; (try dsimp only at hSw); go_simp; first | done | with_reducible rfl
          simp only [Act.put, List.getElem_toArray, List.getElem_cons_zero, List.getElem_cons_succ, List.setIfInBounds_toArray, List.set_cons_zero, List.set_cons_succ]
          refine AnyG_one (i := 8) rfl (by kernel_rfl) ?_
          refine wpOp_of rfl rfl ?_
          try simp only [Act.put, List.getElem_toArray, List.getElem_cons_zero, List.getElem_cons_succ, List.setIfInBounds_toArray, List.set_cons_zero, List.set_cons_succ]
          go_simp
          obtain ⟨v4, hv4⟩ : ∃ W, World.alloc v3 (.cells #[.slice none 0 0, .slice none 0 0, .int .i64 0] 45) = W := ⟨_, rfl⟩
          rw [hv4]
          have b4 : Below w1.heap.size w1 v4 := by rw [← hv4]; exact Below.alloc b3 (Below.size b3) _
          have V4 : Hid (v4.ownsRow w1.heap.size 25 1 (.slice (some ⟨g5, 0, none⟩) (16 + [n].length) p5) (16 + [n].length) ([.int .u32 0, .int .u32 0, .int .u32 0, .int .u32 0, .int .u32 0, .int .u32 0, .int .u32 0, .int .u32 0, .int .u32 0, .int .u32 0, .int .u32 0, .int .u32 0, .int .u32 0, .int .u32 0, .int .u32 0, .int .u32 0] ++ w32 [n])) := Lib.hid (by rw [← hv4]; exact own_only V3.out (F := fun _ => False) ⟨rfl, rfl, rfl, by simp, fun k hk _ => Below.heap_alloc _ _ _ hk⟩ (fun _ _ f => f))
          have P4 : Hid (v4.heap[v3.heap.size]? = some (.cells #[.slice none 0 0, .slice none 0 0, .int .i64 0] 45 (0, 0)) ∧ w1.heap.size ≤ v3.heap.size) := Lib.hid ⟨by rw [← hv4]; exact heap_alloc_new _ _, Below.size b3⟩
          have nf4 : g5 ≠ v3.heap.size := by have := (World.ownsRow.lt V3.out g5 rfl).2; omega
          clear hv4
          refine ⟨b4, ?_⟩
          try simp only [Act.put, List.getElem_toArray, List.getElem_cons_zero, List.getElem_cons_succ, List.setIfInBounds_toArray, List.set_cons_zero, List.set_cons_succ]
          obtain ⟨z0, z1, z2⟩ := cells3 P4.out.1
          have f0 := frozen_of_row v4 (v3.heap.size) 0 _ _ P4.out.1
          have f1 := frozen_of_row v4 (v3.heap.size) 1 _ _ P4.out.1
          have f2 := frozen_of_row v4 (v3.heap.size) 2 _ _ P4.out.1
          have HFIN := Lib.hid (PrW.fin (room := room) (mem := [n]) b4 HBW.out HSZ.out HRS.out P4.out.1 P4.out.2 V4.out nf4)
          have HOF : Hid ((((v4.setCell ⟨v3.heap.size, 0, none⟩ (.slice none 0 0)).setCell ⟨v3.heap.size, 1, none⟩ (.slice (some ⟨g5, 0, none⟩) (16 + [n].length) p5)).setCell ⟨v3.heap.size, 2, none⟩ (.int .i64 room)).heap[w.heap.size]? = some (.cells #[.int .i64 k, .int .i64 n, .int .i64 a, .int .i64 b] 23 (0, 0))) := Lib.hid (by
            have hz := HSZ.out
            have hp := P4.out.2
            rw [heap_setCell_other _ _ _ _ (by show w.heap.size ≠ v3.heap.size; omega), heap_setCell_other _ _ _ _ (by show w.heap.size ≠ v3.heap.size; omega), heap_setCell_other _ _ _ _ (by show w.heap.size ≠ v3.heap.size; omega)]
            exact (b4.block _ (by omega)).trans HOB.out)
          refine AnyG_one (i := 9) rfl (by kernel_rfl) ?_
          refine wpOp_of rfl rfl ?_
          try simp only [Act.put, List.getElem_toArray, List.getElem_cons_zero, List.getElem_cons_succ, List.setIfInBounds_toArray, List.set_cons_zero, List.set_cons_succ]
          go_simp
          try simp only [Act.put, List.getElem_toArray, List.getElem_cons_zero, List.getElem_cons_succ, List.setIfInBounds_toArray, List.set_cons_zero, List.set_cons_succ]
          refine AnyG_done (by kernel_rfl) ?_ _
          go_wp2_with fail
          go_meet
          exact ⟨rfl, _, rfl, HFIN, HOF⟩
        · skip
          refine wpOp_of rfl rfl ?_
          try simp only [Act.put, List.getElem_toArray, List.getElem_cons_zero, List.getElem_cons_succ, List.setIfInBounds_toArray, List.set_cons_zero, List.set_cons_succ]
          go_simp
          obtain ⟨v5, hv5⟩ : ∃ W, World.alloc v2 (.cells #[.slice none 0 0, .slice none 0 0, .int .i64 0] 45) = W := ⟨_, rfl⟩
          rw [hv5]
          have b5 : Below w1.heap.size w1 v5 := by rw [← hv5]; exact Below.alloc b2 (Below.size b2) _
          have M5 : Hid (v5.heap[wd.heap.size]? = some (.cells #[.int .u32 0, .int .u32 0, .int .u32 0, .int .u32 0, .int .u32 0, .int .u32 0, .int .u32 0, .int .u32 0, .int .u32 0, .int .u32 0, .int .u32 0, .int .u32 0, .int .u32 0, .int .u32 0, .int .u32 0, .int .u32 0] 25 (0, 0)) ∧ w1.heap.size ≤ wd.heap.size) := Lib.hid ⟨by rw [← hv5]; exact up_al M2.out.1, M2.out.2⟩
          have F5 : Hid (v5.heap[v1.heap.size]? = some (.cells #[.int .u32 n] 25 (0, 0)) ∧ w1.heap.size ≤ v1.heap.size) := Lib.hid ⟨by rw [← hv5]; exact up_al F2.out.1, F2.out.2⟩
          have P5 : Hid (v5.heap[v2.heap.size]? = some (.cells #[.slice none 0 0, .slice none 0 0, .int .i64 0] 45 (0, 0)) ∧ w1.heap.size ≤ v2.heap.size) := Lib.hid ⟨by rw [← hv5]; exact heap_alloc_new _ _, Below.size b2⟩
          have ne5 : v2.heap.size ≠ wd.heap.size := by have := (Array.getElem?_eq_some_iff.1 M2.out.1).1; omega
          clear hv5
          refine ⟨b5, ?_⟩
          try simp only [Act.put, List.getElem_toArray, List.getElem_cons_zero, List.getElem_cons_succ, List.setIfInBounds_toArray, List.set_cons_zero, List.set_cons_succ]
          refine AnyG_one (i := 6) rfl (by kernel_rfl) ?_
          refine wpOp_of rfl rfl ?_
          try simp only [Act.put, List.getElem_toArray, List.getElem_cons_zero, List.getElem_cons_succ, List.setIfInBounds_toArray, List.set_cons_zero, List.set_cons_succ]
          refine wp_append_lies _ (.tmp 16) (.tmp 20) 43 (by rfl) w1.heap.size 25 i1 _ 1 4 Tryz.underlying43 hi' hy0 hy1 hy2 rfl (by decide) (.slice (some ⟨wd.heap.size, 0, none⟩) 16 16) 16 [.int .u32 0, .int .u32 0, .int .u32 0, .int .u32 0, .int .u32 0, .int .u32 0, .int .u32 0, .int .u32 0, .int .u32 0, .int .u32 0, .int .u32 0, .int .u32 0, .int .u32 0, .int .u32 0, .int .u32 0, .int .u32 0] (by rfl) (own_made (arr := #[.int .u32 0, .int .u32 0, .int .u32 0, .int .u32 0, .int .u32 0, .int .u32 0, .int .u32 0, .int .u32 0, .int .u32 0, .int .u32 0, .int .u32 0, .int .u32 0, .int .u32 0, .int .u32 0, .int .u32 0, .int .u32 0]) M5.out.2 M5.out.1 rfl h16) ⟨v1.heap.size, 0, none⟩ 1 1 [.int .u32 n] (by rfl) rfl (World.news_of_block F5.out.1) (by simp [Value.oneCell']) (by decide) h17 ha4 (Below.size b5) _ rfl ?_
          intro g5 p5 v6 o5 gr5 at5 lt5
          have b6 : Below w1.heap.size w1 v6 := Below.grown b5 gr5 (Below.size b5) (fun k hk => by have := own_eq hk; have := M5.out.2; omega)
          have V6 : Hid (v6.ownsRow w1.heap.size 25 1 (.slice (some ⟨g5, 0, none⟩) (16 + [n].length) p5) (16 + [n].length) ([.int .u32 0, .int .u32 0, .int .u32 0, .int .u32 0, .int .u32 0, .int .u32 0, .int .u32 0, .int .u32 0, .int .u32 0, .int .u32 0, .int .u32 0, .int .u32 0, .int .u32 0, .int .u32 0, .int .u32 0, .int .u32 0] ++ w32 [n])) := Lib.hid o5
          have P6 : Hid (v6.heap[v2.heap.size]? = some (.cells #[.slice none 0 0, .slice none 0 0, .int .i64 0] 45 (0, 0)) ∧ w1.heap.size ≤ v2.heap.size) := Lib.hid ⟨(gr5.block _ (Array.getElem?_eq_some_iff.1 P5.out.1).1 (fun e => ne5 (own_eq e.symm).symm)).trans P5.out.1, P5.out.2⟩
          have nf6 : g5 ≠ v2.heap.size := by
            rcases at5 with e | e
            · have := own_eq e; intro e2; exact ne5 (by omega)
            · have := (Array.getElem?_eq_some_iff.1 P5.out.1).1; omega
          clear o5 gr5 at5 lt5
          refine ⟨fun _ _ => b6, ?_⟩
          try simp only [Act.put, List.getElem_toArray, List.getElem_cons_zero, List.getElem_cons_succ, List.setIfInBounds_toArray, List.set_cons_zero, List.set_cons_succ]
          refine AnyG_take (i := 7) (oi := _) (v := ?_) rfl (by kernel_rfl) (fun _ _ _ h => h) (Or.inl ⟨by rfl, ?_⟩) b6 ?_
          rotate_left
          · intro W hSw; (try dsimp only at hSw); go_simp; first | done | with_reducible rfl
          simp only [Act.put, List.getElem_toArray, List.getElem_cons_zero, List.getElem_cons_succ, List.setIfInBounds_toArray, List.set_cons_zero, List.set_cons_succ]
          obtain ⟨z0, z1, z2⟩ := cells3 P6.out.1
          have f0 := frozen_of_row v6 (v2.heap.size) 0 _ _ P6.out.1
          have f1 := frozen_of_row v6 (v2.heap.size) 1 _ _ P6.out.1
          have f2 := frozen_of_row v6 (v2.heap.size) 2 _ _ P6.out.1
          have HFIN := Lib.hid (PrW.fin (room := room) (mem := [n]) b6 HBW.out HSZ.out HRS.out P6.out.1 P6.out.2 V6.out nf6)
          have HOF : Hid ((((v6.setCell ⟨v2.heap.size, 0, none⟩ (.slice none 0 0)).setCell ⟨v2.heap.size, 1, none⟩ (.slice (some ⟨g5, 0, none⟩) (16 + [n].length) p5)).setCell ⟨v2.heap.size, 2, none⟩ (.int .i64 room)).heap[w.heap.size]? = some (.cells #[.int .i64 k, .int .i64 n, .int .i64 a, .int .i64 b] 23 (0, 0))) := Lib.hid (by
            have hz := HSZ.out
            have hp := P6.out.2
            rw [heap_setCell_other _ _ _ _ (by show w.heap.size ≠ v2.heap.size; omega), heap_setCell_other _ _ _ _ (by show w.heap.size ≠ v2.heap.size; omega), heap_setCell_other _ _ _ _ (by show w.heap.size ≠ v2.heap.size; omega)]
            exact (b6.block _ (by omega)).trans HOB.out)
          refine AnyG_one (i := 9) rfl (by kernel_rfl) ?_
          refine wpOp_of rfl rfl ?_
          try simp only [Act.put, List.getElem_toArray, List.getElem_cons_zero, List.getElem_cons_succ, List.setIfInBounds_toArray, List.set_cons_zero, List.set_cons_succ]
          go_simp
          try simp only [Act.put, List.getElem_toArray, List.getElem_cons_zero, List.getElem_cons_succ, List.setIfInBounds_toArray, List.set_cons_zero, List.set_cons_succ]
          refine AnyG_done (by kernel_rfl) ?_ _
          go_wp2_with fail
          go_meet
          exact ⟨rfl, _, rfl, HFIN, HOF⟩
      · skip
        refine wpOp_of rfl rfl ?_
        try simp only [Act.put, List.getElem_toArray, List.getElem_cons_zero, List.getElem_cons_succ, List.setIfInBounds_toArray, List.set_cons_zero, List.set_cons_succ]
        go_simp
        obtain ⟨v7, hv7⟩ : ∃ W, World.alloc v1 (.cells #[.slice none 0 0, .slice none 0 0, .int .i64 0] 45) = W := ⟨_, rfl⟩
        rw [hv7]
        have b7 : Below w1.heap.size w1 v7 := by rw [← hv7]; exact Below.alloc b1 (Below.size b1) _
        have M7 : Hid (v7.heap[wd.heap.size]? = some (.cells #[.int .u32 0, .int .u32 0, .int .u32 0, .int .u32 0, .int .u32 0, .int .u32 0, .int .u32 0, .int .u32 0, .int .u32 0, .int .u32 0, .int .u32 0, .int .u32 0, .int .u32 0, .int .u32 0, .int .u32 0, .int .u32 0] 25 (0, 0)) ∧ w1.heap.size ≤ wd.heap.size) := Lib.hid ⟨by rw [← hv7]; exact up_al M1.out.1, M1.out.2⟩
        have P7 : Hid (v7.heap[v1.heap.size]? = some (.cells #[.slice none 0 0, .slice none 0 0, .int .i64 0] 45 (0, 0)) ∧ w1.heap.size ≤ v1.heap.size) := Lib.hid ⟨by rw [← hv7]; exact heap_alloc_new _ _, Below.size b1⟩
        have ne7 : v1.heap.size ≠ wd.heap.size := by have := (Array.getElem?_eq_some_iff.1 M1.out.1).1; omega
        clear hv7
        refine ⟨b7, ?_⟩
        try simp only [Act.put, List.getElem_toArray, List.getElem_cons_zero, List.getElem_cons_succ, List.setIfInBounds_toArray, List.set_cons_zero, List.set_cons_succ]
        refine AnyG_one (i := 5) rfl (by kernel_rfl) ?_
        refine wpOp_of rfl rfl ?_
        try simp only [Act.put, List.getElem_toArray, List.getElem_cons_zero, List.getElem_cons_succ, List.setIfInBounds_toArray, List.set_cons_zero, List.set_cons_succ]
        go_simp
        obtain ⟨v8, hv8⟩ : ∃ W, World.alloc v7 (.cells #[.int .u32 n] 25) = W := ⟨_, rfl⟩
        rw [hv8]
        have b8 : Below w1.heap.size w1 v8 := by rw [← hv8]; exact Below.alloc b7 (Below.size b7) _
        have M8 : Hid (v8.heap[wd.heap.size]? = some (.cells #[.int .u32 0, .int .u32 0, .int .u32 0, .int .u32 0, .int .u32 0, .int .u32 0, .int .u32 0, .int .u32 0, .int .u32 0, .int .u32 0, .int .u32 0, .int .u32 0, .int .u32 0, .int .u32 0, .int .u32 0, .int .u32 0] 25 (0, 0)) ∧ w1.heap.size ≤ wd.heap.size) := Lib.hid ⟨by rw [← hv8]; exact up_al M7.out.1, M7.out.2⟩
        have P8 : Hid (v8.heap[v1.heap.size]? = some (.cells #[.slice none 0 0, .slice none 0 0, .int .i64 0] 45 (0, 0)) ∧ w1.heap.size ≤ v1.heap.size) := Lib.hid ⟨by rw [← hv8]; exact up_al P7.out.1, P7.out.2⟩
        have F8 : Hid (v8.heap[v7.heap.size]? = some (.cells #[.int .u32 n] 25 (0, 0)) ∧ w1.heap.size ≤ v7.heap.size) := Lib.hid ⟨by rw [← hv8]; exact heap_alloc_new _ _, Below.size b7⟩
        clear hv8
        refine ⟨b8, ?_⟩
        try simp only [Act.put, List.getElem_toArray, List.getElem_cons_zero, List.getElem_cons_succ, List.setIfInBounds_toArray, List.set_cons_zero, List.set_cons_succ]
        refine AnyG_one (i := 6) rfl (by kernel_rfl) ?_
        refine wpOp_of rfl rfl ?_
        try simp only [Act.put, List.getElem_toArray, List.getElem_cons_zero, List.getElem_cons_succ, List.setIfInBounds_toArray, List.set_cons_zero, List.set_cons_succ]
        refine wp_append_lies _ (.tmp 16) (.tmp 20) 43 (by rfl) w1.heap.size 25 i1 _ 1 4 Tryz.underlying43 hi' hy0 hy1 hy2 rfl (by decide) (.slice (some ⟨wd.heap.size, 0, none⟩) 16 16) 16 [.int .u32 0, .int .u32 0, .int .u32 0, .int .u32 0, .int .u32 0, .int .u32 0, .int .u32 0, .int .u32 0, .int .u32 0, .int .u32 0, .int .u32 0, .int .u32 0, .int .u32 0, .int .u32 0, .int .u32 0, .int .u32 0] (by rfl) (own_made (arr := #[.int .u32 0, .int .u32 0, .int .u32 0, .int .u32 0, .int .u32 0, .int .u32 0, .int .u32 0, .int .u32 0, .int .u32 0, .int .u32 0, .int .u32 0, .int .u32 0, .int .u32 0, .int .u32 0, .int .u32 0, .int .u32 0]) M8.out.2 M8.out.1 rfl h16) ⟨v7.heap.size, 0, none⟩ 1 1 [.int .u32 n] (by rfl) rfl (World.news_of_block F8.out.1) (by simp [Value.oneCell']) (by decide) h17 ha4 (Below.size b8) _ rfl ?_
        intro g5 p5 v9 o5 gr5 at5 lt5
        have b9 : Below w1.heap.size w1 v9 := Below.grown b8 gr5 (Below.size b8) (fun k hk => by have := own_eq hk; have := M8.out.2; omega)
        have V9 : Hid (v9.ownsRow w1.heap.size 25 1 (.slice (some ⟨g5, 0, none⟩) (16 + [n].length) p5) (16 + [n].length) ([.int .u32 0, .int .u32 0, .int .u32 0, .int .u32 0, .int .u32 0, .int .u32 0, .int .u32 0, .int .u32 0, .int .u32 0, .int .u32 0, .int .u32 0, .int .u32 0, .int .u32 0, .int .u32 0, .int .u32 0, .int .u32 0] ++ w32 [n])) := Lib.hid o5
        have P9 : Hid (v9.heap[v1.heap.size]? = some (.cells #[.slice none 0 0, .slice none 0 0, .int .i64 0] 45 (0, 0)) ∧ w1.heap.size ≤ v1.heap.size) := Lib.hid ⟨(gr5.block _ (Array.getElem?_eq_some_iff.1 P8.out.1).1 (fun e => ne7 (own_eq e.symm).symm)).trans P8.out.1, P8.out.2⟩
        have nf9 : g5 ≠ v1.heap.size := by
          rcases at5 with e | e
          · have := own_eq e; intro e2; exact ne7 (by omega)
          · have := (Array.getElem?_eq_some_iff.1 P8.out.1).1; omega
        clear o5 gr5 at5 lt5
        refine ⟨fun _ _ => b9, ?_⟩
        try simp only [Act.put, List.getElem_toArray, List.getElem_cons_zero, List.getElem_cons_succ, List.setIfInBounds_toArray, List.set_cons_zero, List.set_cons_succ]
        refine AnyG_take (i := 7) (oi := _) (v := ?_) rfl (by kernel_rfl) (fun _ _ _ h => h) (Or.inl ⟨by rfl, ?_⟩) b9 ?_
        rotate_left
        · intro W hSw; (try dsimp only at hSw); go_simp; first | done | with_reducible rfl
        simp only [Act.put, List.getElem_toArray, List.getElem_cons_zero, List.getElem_cons_succ, List.setIfInBounds_toArray, List.set_cons_zero, List.set_cons_succ]
        obtain ⟨z0, z1, z2⟩ := cells3 P9.out.1
        have f0 := frozen_of_row v9 (v1.heap.size) 0 _ _ P9.out.1
        have f1 := frozen_of_row v9 (v1.heap.size) 1 _ _ P9.out.1
        have f2 := frozen_of_row v9 (v1.heap.size) 2 _ _ P9.out.1
        have HFIN := Lib.hid (PrW.fin (room := room) (mem := [n]) b9 HBW.out HSZ.out HRS.out P9.out.1 P9.out.2 V9.out nf9)
        have HOF : Hid ((((v9.setCell ⟨v1.heap.size, 0, none⟩ (.slice none 0 0)).setCell ⟨v1.heap.size, 1, none⟩ (.slice (some ⟨g5, 0, none⟩) (16 + [n].length) p5)).setCell ⟨v1.heap.size, 2, none⟩ (.int .i64 room)).heap[w.heap.size]? = some (.cells #[.int .i64 k, .int .i64 n, .int .i64 a, .int .i64 b] 23 (0, 0))) := Lib.hid (by
          have hz := HSZ.out
          have hp := P9.out.2
          rw [heap_setCell_other _ _ _ _ (by show w.heap.size ≠ v1.heap.size; omega), heap_setCell_other _ _ _ _ (by show w.heap.size ≠ v1.heap.size; omega), heap_setCell_other _ _ _ _ (by show w.heap.size ≠ v1.heap.size; omega)]
          exact (b9.block _ (by omega)).trans HOB.out)
        refine AnyG_one (i := 9) rfl (by kernel_rfl) ?_
        refine wpOp_of rfl rfl ?_
        try simp only [Act.put, List.getElem_toArray, List.getElem_cons_zero, List.getElem_cons_succ, List.setIfInBounds_toArray, List.set_cons_zero, List.set_cons_succ]
        go_simp
        try simp only [Act.put, List.getElem_toArray, List.getElem_cons_zero, List.getElem_cons_succ, List.setIfInBounds_toArray, List.set_cons_zero, List.set_cons_succ]
        refine AnyG_done (by kernel_rfl) ?_ _
        go_wp2_with fail
        go_meet
        exact ⟨rfl, _, rfl, HFIN, HOF⟩
    · skip
      refine wpOp_of rfl rfl ?_
      try simp only [Act.put, List.getElem_toArray, List.getElem_cons_zero, List.getElem_cons_succ, List.setIfInBounds_toArray, List.set_cons_zero, List.set_cons_succ]
      go_simp
      obtain ⟨v10, hv10⟩ : ∃ W, World.alloc wd (.cells #[.int .u32 n] 25) = W := ⟨_, rfl⟩
      rw [hv10]
      have b10 : Below w1.heap.size w1 v10 := by rw [← hv10]; exact Below.alloc b0 (Below.size b0) _
      have F10 : Hid (v10.heap[wd.heap.size]? = some (.cells #[.int .u32 n] 25 (0, 0)) ∧ w1.heap.size ≤ wd.heap.size) := Lib.hid ⟨by rw [← hv10]; exact heap_alloc_new _ _, Below.size b0⟩
      clear hv10
      refine ⟨b10, ?_⟩
      try simp only [Act.put, List.getElem_toArray, List.getElem_cons_zero, List.getElem_cons_succ, List.setIfInBounds_toArray, List.set_cons_zero, List.set_cons_succ]
      refine AnyG_two (i := 1) (j := 8) (by kernel_rfl) ?_ ?_
      · skip
        refine wpOp_of rfl rfl ?_
        try simp only [Act.put, List.getElem_toArray, List.getElem_cons_zero, List.getElem_cons_succ, List.setIfInBounds_toArray, List.set_cons_zero, List.set_cons_succ]
        go_simp
        obtain ⟨v11, hv11⟩ : ∃ W, World.alloc v10 (.cells #[.int .u32 0, .int .u32 0, .int .u32 0, .int .u32 0, .int .u32 0, .int .u32 0, .int .u32 0, .int .u32 0, .int .u32 0, .int .u32 0, .int .u32 0, .int .u32 0, .int .u32 0, .int .u32 0, .int .u32 0, .int .u32 0] 25) = W := ⟨_, rfl⟩
        rw [hv11]
        have b11 : Below w1.heap.size w1 v11 := by rw [← hv11]; exact Below.alloc b10 (Below.size b10) _
        have F11 : Hid (v11.heap[wd.heap.size]? = some (.cells #[.int .u32 n] 25 (0, 0)) ∧ w1.heap.size ≤ wd.heap.size) := Lib.hid ⟨by rw [← hv11]; exact up_al F10.out.1, F10.out.2⟩
        have M11 : Hid (v11.heap[v10.heap.size]? = some (.cells #[.int .u32 0, .int .u32 0, .int .u32 0, .int .u32 0, .int .u32 0, .int .u32 0, .int .u32 0, .int .u32 0, .int .u32 0, .int .u32 0, .int .u32 0, .int .u32 0, .int .u32 0, .int .u32 0, .int .u32 0, .int .u32 0] 25 (0, 0)) ∧ w1.heap.size ≤ v10.heap.size) := Lib.hid ⟨by rw [← hv11]; exact heap_alloc_new _ _, Below.size b10⟩
        clear hv11
        refine ⟨b11, ?_⟩
        try simp only [Act.put, List.getElem_toArray, List.getElem_cons_zero, List.getElem_cons_succ, List.setIfInBounds_toArray, List.set_cons_zero, List.set_cons_succ]
        refine AnyG_two (i := 6) (j := 8) (by kernel_rfl) ?_ ?_
        · skip
          refine wpOp_of rfl rfl ?_
          try simp only [Act.put, List.getElem_toArray, List.getElem_cons_zero, List.getElem_cons_succ, List.setIfInBounds_toArray, List.set_cons_zero, List.set_cons_succ]
          refine wp_append_lies _ (.tmp 16) (.tmp 20) 43 (by rfl) w1.heap.size 25 i1 _ 1 4 Tryz.underlying43 hi' hy0 hy1 hy2 rfl (by decide) (.slice (some ⟨v10.heap.size, 0, none⟩) 16 16) 16 [.int .u32 0, .int .u32 0, .int .u32 0, .int .u32 0, .int .u32 0, .int .u32 0, .int .u32 0, .int .u32 0, .int .u32 0, .int .u32 0, .int .u32 0, .int .u32 0, .int .u32 0, .int .u32 0, .int .u32 0, .int .u32 0] (by rfl) (own_made (arr := #[.int .u32 0, .int .u32 0, .int .u32 0, .int .u32 0, .int .u32 0, .int .u32 0, .int .u32 0, .int .u32 0, .int .u32 0, .int .u32 0, .int .u32 0, .int .u32 0, .int .u32 0, .int .u32 0, .int .u32 0, .int .u32 0]) M11.out.2 M11.out.1 rfl h16) ⟨wd.heap.size, 0, none⟩ 1 1 [.int .u32 n] (by rfl) rfl (World.news_of_block F11.out.1) (by simp [Value.oneCell']) (by decide) h17 ha4 (Below.size b11) _ rfl ?_
          intro g5 p5 v12 o5 gr5 at5 lt5
          have b12 : Below w1.heap.size w1 v12 := Below.grown b11 gr5 (Below.size b11) (fun k hk => by have := own_eq hk; have := M11.out.2; omega)
          have V12 : Hid (v12.ownsRow w1.heap.size 25 1 (.slice (some ⟨g5, 0, none⟩) (16 + [n].length) p5) (16 + [n].length) ([.int .u32 0, .int .u32 0, .int .u32 0, .int .u32 0, .int .u32 0, .int .u32 0, .int .u32 0, .int .u32 0, .int .u32 0, .int .u32 0, .int .u32 0, .int .u32 0, .int .u32 0, .int .u32 0, .int .u32 0, .int .u32 0] ++ w32 [n])) := Lib.hid o5
          clear o5 gr5 at5 lt5
          refine ⟨fun _ _ => b12, ?_⟩
          try simp only [Act.put, List.getElem_toArray, List.getElem_cons_zero, List.getElem_cons_succ, List.setIfInBounds_toArray, List.set_cons_zero, List.set_cons_succ]
          refine AnyG_take (i := 7) (oi := _) (v := ?_) rfl (by kernel_rfl) (fun _ _ _ h => h) (Or.inl ⟨by rfl, ?_⟩) b12 ?_
          rotate_left
          · intro W hSw; (try dsimp only at hSw); go_simp; first | done | with_reducible rfl
          simp only [Act.put, List.getElem_toArray, List.getElem_cons_zero, List.getElem_cons_succ, List.setIfInBounds_toArray, List.set_cons_zero, List.set_cons_succ]
          refine AnyG_one (i := 8) rfl (by kernel_rfl) ?_
          refine wpOp_of rfl rfl ?_
          try simp only [Act.put, List.getElem_toArray, List.getElem_cons_zero, List.getElem_cons_succ, List.setIfInBounds_toArray, List.set_cons_zero, List.set_cons_succ]
          go_simp
          obtain ⟨v13, hv13⟩ : ∃ W, World.alloc v12 (.cells #[.slice none 0 0, .slice none 0 0, .int .i64 0] 45) = W := ⟨_, rfl⟩
          rw [hv13]
          have b13 : Below w1.heap.size w1 v13 := by rw [← hv13]; exact Below.alloc b12 (Below.size b12) _
          have V13 : Hid (v13.ownsRow w1.heap.size 25 1 (.slice (some ⟨g5, 0, none⟩) (16 + [n].length) p5) (16 + [n].length) ([.int .u32 0, .int .u32 0, .int .u32 0, .int .u32 0, .int .u32 0, .int .u32 0, .int .u32 0, .int .u32 0, .int .u32 0, .int .u32 0, .int .u32 0, .int .u32 0, .int .u32 0, .int .u32 0, .int .u32 0, .int .u32 0] ++ w32 [n])) := Lib.hid (by rw [← hv13]; exact own_only V12.out (F := fun _ => False) ⟨rfl, rfl, rfl, by simp, fun k hk _ => Below.heap_alloc _ _ _ hk⟩ (fun _ _ f => f))
          have P13 : Hid (v13.heap[v12.heap.size]? = some (.cells #[.slice none 0 0, .slice none 0 0, .int .i64 0] 45 (0, 0)) ∧ w1.heap.size ≤ v12.heap.size) := Lib.hid ⟨by rw [← hv13]; exact heap_alloc_new _ _, Below.size b12⟩
          have nf13 : g5 ≠ v12.heap.size := by have := (World.ownsRow.lt V12.out g5 rfl).2; omega
          clear hv13
          refine ⟨b13, ?_⟩
          try simp only [Act.put, List.getElem_toArray, List.getElem_cons_zero, List.getElem_cons_succ, List.setIfInBounds_toArray, List.set_cons_zero, List.set_cons_succ]
          obtain ⟨z0, z1, z2⟩ := cells3 P13.out.1
          have f0 := frozen_of_row v13 (v12.heap.size) 0 _ _ P13.out.1
          have f1 := frozen_of_row v13 (v12.heap.size) 1 _ _ P13.out.1
          have f2 := frozen_of_row v13 (v12.heap.size) 2 _ _ P13.out.1
          have HFIN := Lib.hid (PrW.fin (room := room) (mem := [n]) b13 HBW.out HSZ.out HRS.out P13.out.1 P13.out.2 V13.out nf13)
          have HOF : Hid ((((v13.setCell ⟨v12.heap.size, 0, none⟩ (.slice none 0 0)).setCell ⟨v12.heap.size, 1, none⟩ (.slice (some ⟨g5, 0, none⟩) (16 + [n].length) p5)).setCell ⟨v12.heap.size, 2, none⟩ (.int .i64 room)).heap[w.heap.size]? = some (.cells #[.int .i64 k, .int .i64 n, .int .i64 a, .int .i64 b] 23 (0, 0))) := Lib.hid (by
            have hz := HSZ.out
            have hp := P13.out.2
            rw [heap_setCell_other _ _ _ _ (by show w.heap.size ≠ v12.heap.size; omega), heap_setCell_other _ _ _ _ (by show w.heap.size ≠ v12.heap.size; omega), heap_setCell_other _ _ _ _ (by show w.heap.size ≠ v12.heap.size; omega)]
            exact (b13.block _ (by omega)).trans HOB.out)
          refine AnyG_one (i := 9) rfl (by kernel_rfl) ?_
          refine wpOp_of rfl rfl ?_
          try simp only [Act.put, List.getElem_toArray, List.getElem_cons_zero, List.getElem_cons_succ, List.setIfInBounds_toArray, List.set_cons_zero, List.set_cons_succ]
          go_simp
          try simp only [Act.put, List.getElem_toArray, List.getElem_cons_zero, List.getElem_cons_succ, List.setIfInBounds_toArray, List.set_cons_zero, List.set_cons_succ]
          refine AnyG_done (by kernel_rfl) ?_ _
          go_wp2_with fail
          go_meet
          exact ⟨rfl, _, rfl, HFIN, HOF⟩
        · skip
          refine wpOp_of rfl rfl ?_
          try simp only [Act.put, List.getElem_toArray, List.getElem_cons_zero, List.getElem_cons_succ, List.setIfInBounds_toArray, List.set_cons_zero, List.set_cons_succ]
          go_simp
          obtain ⟨v14, hv14⟩ : ∃ W, World.alloc v11 (.cells #[.slice none 0 0, .slice none 0 0, .int .i64 0] 45) = W := ⟨_, rfl⟩
          rw [hv14]
          have b14 : Below w1.heap.size w1 v14 := by rw [← hv14]; exact Below.alloc b11 (Below.size b11) _
          have M14 : Hid (v14.heap[v10.heap.size]? = some (.cells #[.int .u32 0, .int .u32 0, .int .u32 0, .int .u32 0, .int .u32 0, .int .u32 0, .int .u32 0, .int .u32 0, .int .u32 0, .int .u32 0, .int .u32 0, .int .u32 0, .int .u32 0, .int .u32 0, .int .u32 0, .int .u32 0] 25 (0, 0)) ∧ w1.heap.size ≤ v10.heap.size) := Lib.hid ⟨by rw [← hv14]; exact up_al M11.out.1, M11.out.2⟩
          have F14 : Hid (v14.heap[wd.heap.size]? = some (.cells #[.int .u32 n] 25 (0, 0)) ∧ w1.heap.size ≤ wd.heap.size) := Lib.hid ⟨by rw [← hv14]; exact up_al F11.out.1, F11.out.2⟩
          have P14 : Hid (v14.heap[v11.heap.size]? = some (.cells #[.slice none 0 0, .slice none 0 0, .int .i64 0] 45 (0, 0)) ∧ w1.heap.size ≤ v11.heap.size) := Lib.hid ⟨by rw [← hv14]; exact heap_alloc_new _ _, Below.size b11⟩
          have ne14 : v11.heap.size ≠ v10.heap.size := by have := (Array.getElem?_eq_some_iff.1 M11.out.1).1; omega
          clear hv14
          refine ⟨b14, ?_⟩
          try simp only [Act.put, List.getElem_toArray, List.getElem_cons_zero, List.getElem_cons_succ, List.setIfInBounds_toArray, List.set_cons_zero, List.set_cons_succ]
          refine AnyG_one (i := 6) rfl (by kernel_rfl) ?_
          refine wpOp_of rfl rfl ?_
          try simp only [Act.put, List.getElem_toArray, List.getElem_cons_zero, List.getElem_cons_succ, List.setIfInBounds_toArray, List.set_cons_zero, List.set_cons_succ]
          refine wp_append_lies _ (.tmp 16) (.tmp 20) 43 (by rfl) w1.heap.size 25 i1 _ 1 4 Tryz.underlying43 hi' hy0 hy1 hy2 rfl (by decide) (.slice (some ⟨v10.heap.size, 0, none⟩) 16 16) 16 [.int .u32 0, .int .u32 0, .int .u32 0, .int .u32 0, .int .u32 0, .int .u32 0, .int .u32 0, .int .u32 0, .int .u32 0, .int .u32 0, .int .u32 0, .int .u32 0, .int .u32 0, .int .u32 0, .int .u32 0, .int .u32 0] (by rfl) (own_made (arr := #[.int .u32 0, .int .u32 0, .int .u32 0, .int .u32 0, .int .u32 0, .int .u32 0, .int .u32 0, .int .u32 0, .int .u32 0, .int .u32 0, .int .u32 0, .int .u32 0, .int .u32 0, .int .u32 0, .int .u32 0, .int .u32 0]) M14.out.2 M14.out.1 rfl h16) ⟨wd.heap.size, 0, none⟩ 1 1 [.int .u32 n] (by rfl) rfl (World.news_of_block F14.out.1) (by simp [Value.oneCell']) (by decide) h17 ha4 (Below.size b14) _ rfl ?_
          intro g5 p5 v15 o5 gr5 at5 lt5
          have b15 : Below w1.heap.size w1 v15 := Below.grown b14 gr5 (Below.size b14) (fun k hk => by have := own_eq hk; have := M14.out.2; omega)
          have V15 : Hid (v15.ownsRow w1.heap.size 25 1 (.slice (some ⟨g5, 0, none⟩) (16 + [n].length) p5) (16 + [n].length) ([.int .u32 0, .int .u32 0, .int .u32 0, .int .u32 0, .int .u32 0, .int .u32 0, .int .u32 0, .int .u32 0, .int .u32 0, .int .u32 0, .int .u32 0, .int .u32 0, .int .u32 0, .int .u32 0, .int .u32 0, .int .u32 0] ++ w32 [n])) := Lib.hid o5
          have P15 : Hid (v15.heap[v11.heap.size]? = some (.cells #[.slice none 0 0, .slice none 0 0, .int .i64 0] 45 (0, 0)) ∧ w1.heap.size ≤ v11.heap.size) := Lib.hid ⟨(gr5.block _ (Array.getElem?_eq_some_iff.1 P14.out.1).1 (fun e => ne14 (own_eq e.symm).symm)).trans P14.out.1, P14.out.2⟩
          have nf15 : g5 ≠ v11.heap.size := by
            rcases at5 with e | e
            · have := own_eq e; intro e2; exact ne14 (by omega)
            · have := (Array.getElem?_eq_some_iff.1 P14.out.1).1; omega
          clear o5 gr5 at5 lt5
          refine ⟨fun _ _ => b15, ?_⟩
          try simp only [Act.put, List.getElem_toArray, List.getElem_cons_zero, List.getElem_cons_succ, List.setIfInBounds_toArray, List.set_cons_zero, List.set_cons_succ]
          refine AnyG_take (i := 7) (oi := _) (v := ?_) rfl (by kernel_rfl) (fun _ _ _ h => h) (Or.inl ⟨by rfl, ?_⟩) b15 ?_
          rotate_left
          · intro W hSw; (try dsimp only at hSw); go_simp; first | done | with_reducible rfl
          simp only [Act.put, List.getElem_toArray, List.getElem_cons_zero, List.getElem_cons_succ, List.setIfInBounds_toArray, List.set_cons_zero, List.set_cons_succ]
          obtain ⟨z0, z1, z2⟩ := cells3 P15.out.1
          have f0 := frozen_of_row v15 (v11.heap.size) 0 _ _ P15.out.1
          have f1 := frozen_of_row v15 (v11.heap.size) 1 _ _ P15.out.1
          have f2 := frozen_of_row v15 (v11.heap.size) 2 _ _ P15.out.1
          have HFIN := Lib.hid (PrW.fin (room := room) (mem := [n]) b15 HBW.out HSZ.out HRS.out P15.out.1 P15.out.2 V15.out nf15)
          have HOF : Hid ((((v15.setCell ⟨v11.heap.size, 0, none⟩ (.slice none 0 0)).setCell ⟨v11.heap.size, 1, none⟩ (.slice (some ⟨g5, 0, none⟩) (16 + [n].length) p5)).setCell ⟨v11.heap.size, 2, none⟩ (.int .i64 room)).heap[w.heap.size]? = some (.cells #[.int .i64 k, .int .i64 n, .int .i64 a, .int .i64 b] 23 (0, 0))) := Lib.hid (by
            have hz := HSZ.out
            have hp := P15.out.2
            rw [heap_setCell_other _ _ _ _ (by show w.heap.size ≠ v11.heap.size; omega), heap_setCell_other _ _ _ _ (by show w.heap.size ≠ v11.heap.size; omega), heap_setCell_other _ _ _ _ (by show w.heap.size ≠ v11.heap.size; omega)]
            exact (b15.block _ (by omega)).trans HOB.out)
          refine AnyG_one (i := 9) rfl (by kernel_rfl) ?_
          refine wpOp_of rfl rfl ?_
          try simp only [Act.put, List.getElem_toArray, List.getElem_cons_zero, List.getElem_cons_succ, List.setIfInBounds_toArray, List.set_cons_zero, List.set_cons_succ]
          go_simp
          try simp only [Act.put, List.getElem_toArray, List.getElem_cons_zero, List.getElem_cons_succ, List.setIfInBounds_toArray, List.set_cons_zero, List.set_cons_succ]
          refine AnyG_done (by kernel_rfl) ?_ _
          go_wp2_with fail
          go_meet
          exact ⟨rfl, _, rfl, HFIN, HOF⟩
      · skip
        refine wpOp_of rfl rfl ?_
        try simp only [Act.put, List.getElem_toArray, List.getElem_cons_zero, List.getElem_cons_succ, List.setIfInBounds_toArray, List.set_cons_zero, List.set_cons_succ]
        go_simp
        obtain ⟨v16, hv16⟩ : ∃ W, World.alloc v10 (.cells #[.slice none 0 0, .slice none 0 0, .int .i64 0] 45) = W := ⟨_, rfl⟩
        rw [hv16]
        have b16 : Below w1.heap.size w1 v16 := by rw [← hv16]; exact Below.alloc b10 (Below.size b10) _
        have F16 : Hid (v16.heap[wd.heap.size]? = some (.cells #[.int .u32 n] 25 (0, 0)) ∧ w1.heap.size ≤ wd.heap.size) := Lib.hid ⟨by rw [← hv16]; exact up_al F10.out.1, F10.out.2⟩
        have P16 : Hid (v16.heap[v10.heap.size]? = some (.cells #[.slice none 0 0, .slice none 0 0, .int .i64 0] 45 (0, 0)) ∧ w1.heap.size ≤ v10.heap.size) := Lib.hid ⟨by rw [← hv16]; exact heap_alloc_new _ _, Below.size b10⟩
        clear hv16
        refine ⟨b16, ?_⟩
        try simp only [Act.put, List.getElem_toArray, List.getElem_cons_zero, List.getElem_cons_succ, List.setIfInBounds_toArray, List.set_cons_zero, List.set_cons_succ]
        refine AnyG_one (i := 1) rfl (by kernel_rfl) ?_
        refine wpOp_of rfl rfl ?_
        try simp only [Act.put, List.getElem_toArray, List.getElem_cons_zero, List.getElem_cons_succ, List.setIfInBounds_toArray, List.set_cons_zero, List.set_cons_succ]
        go_simp
        obtain ⟨v17, hv17⟩ : ∃ W, World.alloc v16 (.cells #[.int .u32 0, .int .u32 0, .int .u32 0, .int .u32 0, .int .u32 0, .int .u32 0, .int .u32 0, .int .u32 0, .int .u32 0, .int .u32 0, .int .u32 0, .int .u32 0, .int .u32 0, .int .u32 0, .int .u32 0, .int .u32 0] 25) = W := ⟨_, rfl⟩
        rw [hv17]
        have b17 : Below w1.heap.size w1 v17 := by rw [← hv17]; exact Below.alloc b16 (Below.size b16) _
        have F17 : Hid (v17.heap[wd.heap.size]? = some (.cells #[.int .u32 n] 25 (0, 0)) ∧ w1.heap.size ≤ wd.heap.size) := Lib.hid ⟨by rw [← hv17]; exact up_al F16.out.1, F16.out.2⟩
        have P17 : Hid (v17.heap[v10.heap.size]? = some (.cells #[.slice none 0 0, .slice none 0 0, .int .i64 0] 45 (0, 0)) ∧ w1.heap.size ≤ v10.heap.size) := Lib.hid ⟨by rw [← hv17]; exact up_al P16.out.1, P16.out.2⟩
        have M17 : Hid (v17.heap[v16.heap.size]? = some (.cells #[.int .u32 0, .int .u32 0, .int .u32 0, .int .u32 0, .int .u32 0, .int .u32 0, .int .u32 0, .int .u32 0, .int .u32 0, .int .u32 0, .int .u32 0, .int .u32 0, .int .u32 0, .int .u32 0, .int .u32 0, .int .u32 0] 25 (0, 0)) ∧ w1.heap.size ≤ v16.heap.size) := Lib.hid ⟨by rw [← hv17]; exact heap_alloc_new _ _, Below.size b16⟩
        have ne17 : v10.heap.size ≠ v16.heap.size := by have := (Array.getElem?_eq_some_iff.1 P16.out.1).1; omega
        clear hv17
        refine ⟨b17, ?_⟩
        try simp only [Act.put, List.getElem_toArray, List.getElem_cons_zero, List.getElem_cons_succ, List.setIfInBounds_toArray, List.set_cons_zero, List.set_cons_succ]
        refine AnyG_one (i := 6) rfl (by kernel_rfl) ?_
        refine wpOp_of rfl rfl ?_
        try simp only [Act.put, List.getElem_toArray, List.getElem_cons_zero, List.getElem_cons_succ, List.setIfInBounds_toArray, List.set_cons_zero, List.set_cons_succ]
        refine wp_append_lies _ (.tmp 16) (.tmp 20) 43 (by rfl) w1.heap.size 25 i1 _ 1 4 Tryz.underlying43 hi' hy0 hy1 hy2 rfl (by decide) (.slice (some ⟨v16.heap.size, 0, none⟩) 16 16) 16 [.int .u32 0, .int .u32 0, .int .u32 0, .int .u32 0, .int .u32 0, .int .u32 0, .int .u32 0, .int .u32 0, .int .u32 0, .int .u32 0, .int .u32 0, .int .u32 0, .int .u32 0, .int .u32 0, .int .u32 0, .int .u32 0] (by rfl) (own_made (arr := #[.int .u32 0, .int .u32 0, .int .u32 0, .int .u32 0, .int .u32 0, .int .u32 0, .int .u32 0, .int .u32 0, .int .u32 0, .int .u32 0, .int .u32 0, .int .u32 0, .int .u32 0, .int .u32 0, .int .u32 0, .int .u32 0]) M17.out.2 M17.out.1 rfl h16) ⟨wd.heap.size, 0, none⟩ 1 1 [.int .u32 n] (by rfl) rfl (World.news_of_block F17.out.1) (by simp [Value.oneCell']) (by decide) h17 ha4 (Below.size b17) _ rfl ?_
        intro g5 p5 v18 o5 gr5 at5 lt5
        have b18 : Below w1.heap.size w1 v18 := Below.grown b17 gr5 (Below.size b17) (fun k hk => by have := own_eq hk; have := M17.out.2; omega)
        have V18 : Hid (v18.ownsRow w1.heap.size 25 1 (.slice (some ⟨g5, 0, none⟩) (16 + [n].length) p5) (16 + [n].length) ([.int .u32 0, .int .u32 0, .int .u32 0, .int .u32 0, .int .u32 0, .int .u32 0, .int .u32 0, .int .u32 0, .int .u32 0, .int .u32 0, .int .u32 0, .int .u32 0, .int .u32 0, .int .u32 0, .int .u32 0, .int .u32 0] ++ w32 [n])) := Lib.hid o5
        have P18 : Hid (v18.heap[v10.heap.size]? = some (.cells #[.slice none 0 0, .slice none 0 0, .int .i64 0] 45 (0, 0)) ∧ w1.heap.size ≤ v10.heap.size) := Lib.hid ⟨(gr5.block _ (Array.getElem?_eq_some_iff.1 P17.out.1).1 (fun e => ne17 (own_eq e.symm).symm)).trans P17.out.1, P17.out.2⟩
        have nf18 : g5 ≠ v10.heap.size := by
          rcases at5 with e | e
          · have := own_eq e; intro e2; exact ne17 (by omega)
          · have := (Array.getElem?_eq_some_iff.1 P17.out.1).1; omega
        clear o5 gr5 at5 lt5
        refine ⟨fun _ _ => b18, ?_⟩
        try simp only [Act.put, List.getElem_toArray, List.getElem_cons_zero, List.getElem_cons_succ, List.setIfInBounds_toArray, List.set_cons_zero, List.set_cons_succ]
        refine AnyG_take (i := 7) (oi := _) (v := ?_) rfl (by kernel_rfl) (fun _ _ _ h => h) (Or.inl ⟨by rfl, ?_⟩) b18 ?_
        rotate_left
        · intro W hSw; (try dsimp only at hSw); go_simp; first | done | with_reducible rfl
        simp only [Act.put, List.getElem_toArray, List.getElem_cons_zero, List.getElem_cons_succ, List.setIfInBounds_toArray, List.set_cons_zero, List.set_cons_succ]
        obtain ⟨z0, z1, z2⟩ := cells3 P18.out.1
        have f0 := frozen_of_row v18 (v10.heap.size) 0 _ _ P18.out.1
        have f1 := frozen_of_row v18 (v10.heap.size) 1 _ _ P18.out.1
        have f2 := frozen_of_row v18 (v10.heap.size) 2 _ _ P18.out.1
        have HFIN := Lib.hid (PrW.fin (room := room) (mem := [n]) b18 HBW.out HSZ.out HRS.out P18.out.1 P18.out.2 V18.out nf18)
        have HOF : Hid ((((v18.setCell ⟨v10.heap.size, 0, none⟩ (.slice none 0 0)).setCell ⟨v10.heap.size, 1, none⟩ (.slice (some ⟨g5, 0, none⟩) (16 + [n].length) p5)).setCell ⟨v10.heap.size, 2, none⟩ (.int .i64 room)).heap[w.heap.size]? = some (.cells #[.int .i64 k, .int .i64 n, .int .i64 a, .int .i64 b] 23 (0, 0))) := Lib.hid (by
          have hz := HSZ.out
          have hp := P18.out.2
          rw [heap_setCell_other _ _ _ _ (by show w.heap.size ≠ v10.heap.size; omega), heap_setCell_other _ _ _ _ (by show w.heap.size ≠ v10.heap.size; omega), heap_setCell_other _ _ _ _ (by show w.heap.size ≠ v10.heap.size; omega)]
          exact (b18.block _ (by omega)).trans HOB.out)
        refine AnyG_one (i := 9) rfl (by kernel_rfl) ?_
        refine wpOp_of rfl rfl ?_
        try simp only [Act.put, List.getElem_toArray, List.getElem_cons_zero, List.getElem_cons_succ, List.setIfInBounds_toArray, List.set_cons_zero, List.set_cons_succ]
        go_simp
        try simp only [Act.put, List.getElem_toArray, List.getElem_cons_zero, List.getElem_cons_succ, List.setIfInBounds_toArray, List.set_cons_zero, List.set_cons_succ]
        refine AnyG_done (by kernel_rfl) ?_ _
        go_wp2_with fail
        go_meet
        exact ⟨rfl, _, rfl, HFIN, HOF⟩
    · skip
      refine wpOp_of rfl rfl ?_
      try simp only [Act.put, List.getElem_toArray, List.getElem_cons_zero, List.getElem_cons_succ, List.setIfInBounds_toArray, List.set_cons_zero, List.set_cons_succ]
      go_simp
      obtain ⟨v19, hv19⟩ : ∃ W, World.alloc wd (.cells #[.slice none 0 0, .slice none 0 0, .int .i64 0] 45) = W := ⟨_, rfl⟩
      rw [hv19]
      have b19 : Below w1.heap.size w1 v19 := by rw [← hv19]; exact Below.alloc b0 (Below.size b0) _
      have P19 : Hid (v19.heap[wd.heap.size]? = some (.cells #[.slice none 0 0, .slice none 0 0, .int .i64 0] 45 (0, 0)) ∧ w1.heap.size ≤ wd.heap.size) := Lib.hid ⟨by rw [← hv19]; exact heap_alloc_new _ _, Below.size b0⟩
      clear hv19
      refine ⟨b19, ?_⟩
      try simp only [Act.put, List.getElem_toArray, List.getElem_cons_zero, List.getElem_cons_succ, List.setIfInBounds_toArray, List.set_cons_zero, List.set_cons_succ]
      refine AnyG_two (i := 1) (j := 5) (by kernel_rfl) ?_ ?_
      · skip
        refine wpOp_of rfl rfl ?_
        try simp only [Act.put, List.getElem_toArray, List.getElem_cons_zero, List.getElem_cons_succ, List.setIfInBounds_toArray, List.set_cons_zero, List.set_cons_succ]
        go_simp
        obtain ⟨v20, hv20⟩ : ∃ W, World.alloc v19 (.cells #[.int .u32 0, .int .u32 0, .int .u32 0, .int .u32 0, .int .u32 0, .int .u32 0, .int .u32 0, .int .u32 0, .int .u32 0, .int .u32 0, .int .u32 0, .int .u32 0, .int .u32 0, .int .u32 0, .int .u32 0, .int .u32 0] 25) = W := ⟨_, rfl⟩
        rw [hv20]
        have b20 : Below w1.heap.size w1 v20 := by rw [← hv20]; exact Below.alloc b19 (Below.size b19) _
        have P20 : Hid (v20.heap[wd.heap.size]? = some (.cells #[.slice none 0 0, .slice none 0 0, .int .i64 0] 45 (0, 0)) ∧ w1.heap.size ≤ wd.heap.size) := Lib.hid ⟨by rw [← hv20]; exact up_al P19.out.1, P19.out.2⟩
        have M20 : Hid (v20.heap[v19.heap.size]? = some (.cells #[.int .u32 0, .int .u32 0, .int .u32 0, .int .u32 0, .int .u32 0, .int .u32 0, .int .u32 0, .int .u32 0, .int .u32 0, .int .u32 0, .int .u32 0, .int .u32 0, .int .u32 0, .int .u32 0, .int .u32 0, .int .u32 0] 25 (0, 0)) ∧ w1.heap.size ≤ v19.heap.size) := Lib.hid ⟨by rw [← hv20]; exact heap_alloc_new _ _, Below.size b19⟩
        have ne20 : wd.heap.size ≠ v19.heap.size := by have := (Array.getElem?_eq_some_iff.1 P19.out.1).1; omega
        clear hv20
        refine ⟨b20, ?_⟩
        try simp only [Act.put, List.getElem_toArray, List.getElem_cons_zero, List.getElem_cons_succ, List.setIfInBounds_toArray, List.set_cons_zero, List.set_cons_succ]
        refine AnyG_one (i := 5) rfl (by kernel_rfl) ?_
        refine wpOp_of rfl rfl ?_
        try simp only [Act.put, List.getElem_toArray, List.getElem_cons_zero, List.getElem_cons_succ, List.setIfInBounds_toArray, List.set_cons_zero, List.set_cons_succ]
        go_simp
        obtain ⟨v21, hv21⟩ : ∃ W, World.alloc v20 (.cells #[.int .u32 n] 25) = W := ⟨_, rfl⟩
        rw [hv21]
        have b21 : Below w1.heap.size w1 v21 := by rw [← hv21]; exact Below.alloc b20 (Below.size b20) _
        have M21 : Hid (v21.heap[v19.heap.size]? = some (.cells #[.int .u32 0, .int .u32 0, .int .u32 0, .int .u32 0, .int .u32 0, .int .u32 0, .int .u32 0, .int .u32 0, .int .u32 0, .int .u32 0, .int .u32 0, .int .u32 0, .int .u32 0, .int .u32 0, .int .u32 0, .int .u32 0] 25 (0, 0)) ∧ w1.heap.size ≤ v19.heap.size) := Lib.hid ⟨by rw [← hv21]; exact up_al M20.out.1, M20.out.2⟩
        have P21 : Hid (v21.heap[wd.heap.size]? = some (.cells #[.slice none 0 0, .slice none 0 0, .int .i64 0] 45 (0, 0)) ∧ w1.heap.size ≤ wd.heap.size) := Lib.hid ⟨by rw [← hv21]; exact up_al P20.out.1, P20.out.2⟩
        have F21 : Hid (v21.heap[v20.heap.size]? = some (.cells #[.int .u32 n] 25 (0, 0)) ∧ w1.heap.size ≤ v20.heap.size) := Lib.hid ⟨by rw [← hv21]; exact heap_alloc_new _ _, Below.size b20⟩
        clear hv21
        refine ⟨b21, ?_⟩
        try simp only [Act.put, List.getElem_toArray, List.getElem_cons_zero, List.getElem_cons_succ, List.setIfInBounds_toArray, List.set_cons_zero, List.set_cons_succ]
        refine AnyG_one (i := 6) rfl (by kernel_rfl) ?_
        refine wpOp_of rfl rfl ?_
        try simp only [Act.put, List.getElem_toArray, List.getElem_cons_zero, List.getElem_cons_succ, List.setIfInBounds_toArray, List.set_cons_zero, List.set_cons_succ]
        refine wp_append_lies _ (.tmp 16) (.tmp 20) 43 (by rfl) w1.heap.size 25 i1 _ 1 4 Tryz.underlying43 hi' hy0 hy1 hy2 rfl (by decide) (.slice (some ⟨v19.heap.size, 0, none⟩) 16 16) 16 [.int .u32 0, .int .u32 0, .int .u32 0, .int .u32 0, .int .u32 0, .int .u32 0, .int .u32 0, .int .u32 0, .int .u32 0, .int .u32 0, .int .u32 0, .int .u32 0, .int .u32 0, .int .u32 0, .int .u32 0, .int .u32 0] (by rfl) (own_made (arr := #[.int .u32 0, .int .u32 0, .int .u32 0, .int .u32 0, .int .u32 0, .int .u32 0, .int .u32 0, .int .u32 0, .int .u32 0, .int .u32 0, .int .u32 0, .int .u32 0, .int .u32 0, .int .u32 0, .int .u32 0, .int .u32 0]) M21.out.2 M21.out.1 rfl h16) ⟨v20.heap.size, 0, none⟩ 1 1 [.int .u32 n] (by rfl) rfl (World.news_of_block F21.out.1) (by simp [Value.oneCell']) (by decide) h17 ha4 (Below.size b21) _ rfl ?_
        intro g5 p5 v22 o5 gr5 at5 lt5
        have b22 : Below w1.heap.size w1 v22 := Below.grown b21 gr5 (Below.size b21) (fun k hk => by have := own_eq hk; have := M21.out.2; omega)
        have V22 : Hid (v22.ownsRow w1.heap.size 25 1 (.slice (some ⟨g5, 0, none⟩) (16 + [n].length) p5) (16 + [n].length) ([.int .u32 0, .int .u32 0, .int .u32 0, .int .u32 0, .int .u32 0, .int .u32 0, .int .u32 0, .int .u32 0, .int .u32 0, .int .u32 0, .int .u32 0, .int .u32 0, .int .u32 0, .int .u32 0, .int .u32 0, .int .u32 0] ++ w32 [n])) := Lib.hid o5
        have P22 : Hid (v22.heap[wd.heap.size]? = some (.cells #[.slice none 0 0, .slice none 0 0, .int .i64 0] 45 (0, 0)) ∧ w1.heap.size ≤ wd.heap.size) := Lib.hid ⟨(gr5.block _ (Array.getElem?_eq_some_iff.1 P21.out.1).1 (fun e => ne20 (own_eq e.symm).symm)).trans P21.out.1, P21.out.2⟩
        have nf22 : g5 ≠ wd.heap.size := by
          rcases at5 with e | e
          · have := own_eq e; intro e2; exact ne20 (by omega)
          · have := (Array.getElem?_eq_some_iff.1 P21.out.1).1; omega
        clear o5 gr5 at5 lt5
        refine ⟨fun _ _ => b22, ?_⟩
        try simp only [Act.put, List.getElem_toArray, List.getElem_cons_zero, List.getElem_cons_succ, List.setIfInBounds_toArray, List.set_cons_zero, List.set_cons_succ]
        refine AnyG_take (i := 7) (oi := _) (v := ?_) rfl (by kernel_rfl) (fun _ _ _ h => h) (Or.inl ⟨by rfl, ?_⟩) b22 ?_
        rotate_left
        · intro W hSw; (try dsimp only at hSw); go_simp; first | done | with_reducible rfl
        simp only [Act.put, List.getElem_toArray, List.getElem_cons_zero, List.getElem_cons_succ, List.setIfInBounds_toArray, List.set_cons_zero, List.set_cons_succ]
        obtain ⟨z0, z1, z2⟩ := cells3 P22.out.1
        have f0 := frozen_of_row v22 (wd.heap.size) 0 _ _ P22.out.1
        have f1 := frozen_of_row v22 (wd.heap.size) 1 _ _ P22.out.1
        have f2 := frozen_of_row v22 (wd.heap.size) 2 _ _ P22.out.1
        have HFIN := Lib.hid (PrW.fin (room := room) (mem := [n]) b22 HBW.out HSZ.out HRS.out P22.out.1 P22.out.2 V22.out nf22)
        have HOF : Hid ((((v22.setCell ⟨wd.heap.size, 0, none⟩ (.slice none 0 0)).setCell ⟨wd.heap.size, 1, none⟩ (.slice (some ⟨g5, 0, none⟩) (16 + [n].length) p5)).setCell ⟨wd.heap.size, 2, none⟩ (.int .i64 room)).heap[w.heap.size]? = some (.cells #[.int .i64 k, .int .i64 n, .int .i64 a, .int .i64 b] 23 (0, 0))) := Lib.hid (by
          have hz := HSZ.out
          have hp := P22.out.2
          rw [heap_setCell_other _ _ _ _ (by show w.heap.size ≠ wd.heap.size; omega), heap_setCell_other _ _ _ _ (by show w.heap.size ≠ wd.heap.size; omega), heap_setCell_other _ _ _ _ (by show w.heap.size ≠ wd.heap.size; omega)]
          exact (b22.block _ (by omega)).trans HOB.out)
        refine AnyG_one (i := 9) rfl (by kernel_rfl) ?_
        refine wpOp_of rfl rfl ?_
        try simp only [Act.put, List.getElem_toArray, List.getElem_cons_zero, List.getElem_cons_succ, List.setIfInBounds_toArray, List.set_cons_zero, List.set_cons_succ]
        go_simp
        try simp only [Act.put, List.getElem_toArray, List.getElem_cons_zero, List.getElem_cons_succ, List.setIfInBounds_toArray, List.set_cons_zero, List.set_cons_succ]
        refine AnyG_done (by kernel_rfl) ?_ _
        go_wp2_with fail
        go_meet
        exact ⟨rfl, _, rfl, HFIN, HOF⟩
      · skip
        refine wpOp_of rfl rfl ?_
        try simp only [Act.put, List.getElem_toArray, List.getElem_cons_zero, List.getElem_cons_succ, List.setIfInBounds_toArray, List.set_cons_zero, List.set_cons_succ]
        go_simp
        obtain ⟨v23, hv23⟩ : ∃ W, World.alloc v19 (.cells #[.int .u32 n] 25) = W := ⟨_, rfl⟩
        rw [hv23]
        have b23 : Below w1.heap.size w1 v23 := by rw [← hv23]; exact Below.alloc b19 (Below.size b19) _
        have P23 : Hid (v23.heap[wd.heap.size]? = some (.cells #[.slice none 0 0, .slice none 0 0, .int .i64 0] 45 (0, 0)) ∧ w1.heap.size ≤ wd.heap.size) := Lib.hid ⟨by rw [← hv23]; exact up_al P19.out.1, P19.out.2⟩
        have F23 : Hid (v23.heap[v19.heap.size]? = some (.cells #[.int .u32 n] 25 (0, 0)) ∧ w1.heap.size ≤ v19.heap.size) := Lib.hid ⟨by rw [← hv23]; exact heap_alloc_new _ _, Below.size b19⟩
        clear hv23
        refine ⟨b23, ?_⟩
        try simp only [Act.put, List.getElem_toArray, List.getElem_cons_zero, List.getElem_cons_succ, List.setIfInBounds_toArray, List.set_cons_zero, List.set_cons_succ]
        refine AnyG_one (i := 1) rfl (by kernel_rfl) ?_
        refine wpOp_of rfl rfl ?_
        try simp only [Act.put, List.getElem_toArray, List.getElem_cons_zero, List.getElem_cons_succ, List.setIfInBounds_toArray, List.set_cons_zero, List.set_cons_succ]
        go_simp
        obtain ⟨v24, hv24⟩ : ∃ W, World.alloc v23 (.cells #[.int .u32 0, .int .u32 0, .int .u32 0, .int .u32 0, .int .u32 0, .int .u32 0, .int .u32 0, .int .u32 0, .int .u32 0, .int .u32 0, .int .u32 0, .int .u32 0, .int .u32 0, .int .u32 0, .int .u32 0, .int .u32 0] 25) = W := ⟨_, rfl⟩
        rw [hv24]
        have b24 : Below w1.heap.size w1 v24 := by rw [← hv24]; exact Below.alloc b23 (Below.size b23) _
        have F24 : Hid (v24.heap[v19.heap.size]? = some (.cells #[.int .u32 n] 25 (0, 0)) ∧ w1.heap.size ≤ v19.heap.size) := Lib.hid ⟨by rw [← hv24]; exact up_al F23.out.1, F23.out.2⟩
        have P24 : Hid (v24.heap[wd.heap.size]? = some (.cells #[.slice none 0 0, .slice none 0 0, .int .i64 0] 45 (0, 0)) ∧ w1.heap.size ≤ wd.heap.size) := Lib.hid ⟨by rw [← hv24]; exact up_al P23.out.1, P23.out.2⟩
        have M24 : Hid (v24.heap[v23.heap.size]? = some (.cells #[.int .u32 0, .int .u32 0, .int .u32 0, .int .u32 0, .int .u32 0, .int .u32 0, .int .u32 0, .int .u32 0, .int .u32 0, .int .u32 0, .int .u32 0, .int .u32 0, .int .u32 0, .int .u32 0, .int .u32 0, .int .u32 0] 25 (0, 0)) ∧ w1.heap.size ≤ v23.heap.size) := Lib.hid ⟨by rw [← hv24]; exact heap_alloc_new _ _, Below.size b23⟩
        have ne24 : wd.heap.size ≠ v23.heap.size := by have := (Array.getElem?_eq_some_iff.1 P23.out.1).1; omega
        clear hv24
        refine ⟨b24, ?_⟩
        try simp only [Act.put, List.getElem_toArray, List.getElem_cons_zero, List.getElem_cons_succ, List.setIfInBounds_toArray, List.set_cons_zero, List.set_cons_succ]
        refine AnyG_one (i := 6) rfl (by kernel_rfl) ?_
        refine wpOp_of rfl rfl ?_
        try simp only [Act.put, List.getElem_toArray, List.getElem_cons_zero, List.getElem_cons_succ, List.setIfInBounds_toArray, List.set_cons_zero, List.set_cons_succ]
        refine wp_append_lies _ (.tmp 16) (.tmp 20) 43 (by rfl) w1.heap.size 25 i1 _ 1 4 Tryz.underlying43 hi' hy0 hy1 hy2 rfl (by decide) (.slice (some ⟨v23.heap.size, 0, none⟩) 16 16) 16 [.int .u32 0, .int .u32 0, .int .u32 0, .int .u32 0, .int .u32 0, .int .u32 0, .int .u32 0, .int .u32 0, .int .u32 0, .int .u32 0, .int .u32 0, .int .u32 0, .int .u32 0, .int .u32 0, .int .u32 0, .int .u32 0] (by rfl) (own_made (arr := #[.int .u32 0, .int .u32 0, .int .u32 0, .int .u32 0, .int .u32 0, .int .u32 0, .int .u32 0, .int .u32 0, .int .u32 0, .int .u32 0, .int .u32 0, .int .u32 0, .int .u32 0, .int .u32 0, .int .u32 0, .int .u32 0]) M24.out.2 M24.out.1 rfl h16) ⟨v19.heap.size, 0, none⟩ 1 1 [.int .u32 n] (by rfl) rfl (World.news_of_block F24.out.1) (by simp [Value.oneCell']) (by decide) h17 ha4 (Below.size b24) _ rfl ?_
        intro g5 p5 v25 o5 gr5 at5 lt5
        have b25 : Below w1.heap.size w1 v25 := Below.grown b24 gr5 (Below.size b24) (fun k hk => by have := own_eq hk; have := M24.out.2; omega)
        have V25 : Hid (v25.ownsRow w1.heap.size 25 1 (.slice (some ⟨g5, 0, none⟩) (16 + [n].length) p5) (16 + [n].length) ([.int .u32 0, .int .u32 0, .int .u32 0, .int .u32 0, .int .u32 0, .int .u32 0, .int .u32 0, .int .u32 0, .int .u32 0, .int .u32 0, .int .u32 0, .int .u32 0, .int .u32 0, .int .u32 0, .int .u32 0, .int .u32 0] ++ w32 [n])) := Lib.hid o5
        have P25 : Hid (v25.heap[wd.heap.size]? = some (.cells #[.slice none 0 0, .slice none 0 0, .int .i64 0] 45 (0, 0)) ∧ w1.heap.size ≤ wd.heap.size) := Lib.hid ⟨(gr5.block _ (Array.getElem?_eq_some_iff.1 P24.out.1).1 (fun e => ne24 (own_eq e.symm).symm)).trans P24.out.1, P24.out.2⟩
        have nf25 : g5 ≠ wd.heap.size := by
          rcases at5 with e | e
          · have := own_eq e; intro e2; exact ne24 (by omega)
          · have := (Array.getElem?_eq_some_iff.1 P24.out.1).1; omega
        clear o5 gr5 at5 lt5
        refine ⟨fun _ _ => b25, ?_⟩
        try simp only [Act.put, List.getElem_toArray, List.getElem_cons_zero, List.getElem_cons_succ, List.setIfInBounds_toArray, List.set_cons_zero, List.set_cons_succ]
        refine AnyG_take (i := 7) (oi := _) (v := ?_) rfl (by kernel_rfl) (fun _ _ _ h => h) (Or.inl ⟨by rfl, ?_⟩) b25 ?_
        rotate_left
        · intro W hSw; (try dsimp only at hSw); go_simp; first | done | with_reducible rfl
        simp only [Act.put, List.getElem_toArray, List.getElem_cons_zero, List.getElem_cons_succ, List.setIfInBounds_toArray, List.set_cons_zero, List.set_cons_succ]
        obtain ⟨z0, z1, z2⟩ := cells3 P25.out.1
        have f0 := frozen_of_row v25 (wd.heap.size) 0 _ _ P25.out.1
        have f1 := frozen_of_row v25 (wd.heap.size) 1 _ _ P25.out.1
        have f2 := frozen_of_row v25 (wd.heap.size) 2 _ _ P25.out.1
        have HFIN := Lib.hid (PrW.fin (room := room) (mem := [n]) b25 HBW.out HSZ.out HRS.out P25.out.1 P25.out.2 V25.out nf25)
        have HOF : Hid ((((v25.setCell ⟨wd.heap.size, 0, none⟩ (.slice none 0 0)).setCell ⟨wd.heap.size, 1, none⟩ (.slice (some ⟨g5, 0, none⟩) (16 + [n].length) p5)).setCell ⟨wd.heap.size, 2, none⟩ (.int .i64 room)).heap[w.heap.size]? = some (.cells #[.int .i64 k, .int .i64 n, .int .i64 a, .int .i64 b] 23 (0, 0))) := Lib.hid (by
          have hz := HSZ.out
          have hp := P25.out.2
          rw [heap_setCell_other _ _ _ _ (by show w.heap.size ≠ wd.heap.size; omega), heap_setCell_other _ _ _ _ (by show w.heap.size ≠ wd.heap.size; omega), heap_setCell_other _ _ _ _ (by show w.heap.size ≠ wd.heap.size; omega)]
          exact (b25.block _ (by omega)).trans HOB.out)
        refine AnyG_one (i := 9) rfl (by kernel_rfl) ?_
        refine wpOp_of rfl rfl ?_
        try simp only [Act.put, List.getElem_toArray, List.getElem_cons_zero, List.getElem_cons_succ, List.setIfInBounds_toArray, List.set_cons_zero, List.set_cons_succ]
        go_simp
        try simp only [Act.put, List.getElem_toArray, List.getElem_cons_zero, List.getElem_cons_succ, List.setIfInBounds_toArray, List.set_cons_zero, List.set_cons_succ]
        refine AnyG_done (by kernel_rfl) ?_ _
        go_wp2_with fail
        go_meet
        exact ⟨rfl, _, rfl, HFIN, HOF⟩
  case rest =>
    obtain ⟨rfl, gp, rfl, HP, HOB2⟩ := hcut
    clear x1 HSZ HRS HBW HOB hmk h17 ha4 h16 hwn hy0 hy1 hy2 hi'
    go_wp2_with fail
    go_loopg [10, 9] ls.length (fun g iv okv wr => ∃ (i : Nat) (cv : Value), i + g = ls.length ∧ iv = .int .i64 i ∧ okv = .bool true ∧ Hid (PrW w wr gp cv room [n] ∧ CsW w wr gp cv f i ∧ wr.heap[w.heap.size]? = some (.cells #[.int .i64 k, .int .i64 n, .int .i64 a, .int .i64 b] 23 (0, 0))))
    case atStart => exact ⟨0, .slice none 0 0, by omega, rfl, rfl, Lib.hid ⟨HP.out, ⟨⟨fun _ => 0, fun _ => 0, World.ownsRow_nil _ _ _ _, fun t ht => absurd ht (by omega)⟩, by simp [Value.ownBlock], by simp [Value.ownBlock]⟩, HOB2.out⟩⟩
    case round =>
      obtain ⟨i, cv, hi, rfl, rfl, HR⟩ := hrel
      obtain ⟨wo, hwo⟩ : ∃ x, x = wr := ⟨_, rfl⟩
      subst hwo
      by_cases hlt : i < ls.length
      · obtain ⟨g', rfl⟩ : ∃ g', gk = g' + 1 := ⟨gk - 1, by omega⟩
        have hil : (i : Int) < (ls.length : Int) := by omega
        obtain ⟨row, hrowi⟩ : ∃ row, ls[i]? = some row := ⟨ls[i], List.getElem?_eq_getElem hlt⟩
        obtain ⟨hr0, hr6, hr12⟩ := HRO.out row (List.mem_of_getElem? hrowi)
        have HR12 := Lib.hid hr12
        obtain ⟨rb, ro, rc, u0, u1⟩ := HRW.out.at HR.out.1.bel hrowi hr0
        have U0 : Hid (∀ W, Below wo.heap.size wo W → W.cell? ⟨gl, i, none⟩ = some (.slice (some ⟨rb, ro, none⟩) row.length rc)) := Lib.hid fun W hW => (hW.cell (block_lt_of_cell u0)).trans u0
        have U1 : Hid (∀ W, Below wo.heap.size wo W → ∀ j x, row[j]? = some x → W.cell? ⟨rb, ro + j, none⟩ = some (.int .i64 x)) := Lib.hid fun W hW j x hx => (hW.cell (block_lt_of_cell (u1 j x hx))).trans (u1 j x hx)
        have HSL : Hid (∀ j, (semN c row j).length ≤ j * 202) := Lib.hid (semN_len fun x hx => (HLC.out x (HR12.out x hx)).1)
        have HRI := Lib.hid hrowi
        clear hrowi hr12 u0 u1
        go_wp2_with fail
        go_loopg [12, 9, 11] row.length (fun g jv okv kv wi => ∃ (j : Nat) (lv : Value), j + g = row.length ∧ jv = .int .i64 j ∧ okv = .bool true ∧ lv = kv ∧ Hid (wi.ownsRow wo.heap.size 132 5 lv (semN c row j).length (flat (semN c row j)) ∧ Below wo.heap.size wo wi))
        case atStart => exact ⟨0, .slice none 0 0, by omega, rfl, rfl, rfl, Lib.hid ⟨World.ownsRow_nil _ _ _ _, Below.refl _ _⟩⟩
        case round =>
          obtain ⟨j, lv, hj, rfl, rfl, rfl, HL⟩ := hrel
          obtain ⟨wi, hwi⟩ : ∃ x, x = wr := ⟨_, rfl⟩
          subst hwi
          have hbwi : Below w.heap.size w wi := HR.out.1.bel.trans (HL.out.2.mono HR.out.1.bel.size)
          have q0 := U0.out wi HL.out.2
          by_cases hjn : j < row.length
          · obtain ⟨g2, rfl⟩ : ∃ g2, gk = g2 + 1 := ⟨gk - 1, by omega⟩
            have hjl : (j : Int) < (row.length : Int) := by omega
            obtain ⟨x, hx⟩ : ∃ x, row[j]? = some x := ⟨row[j], List.getElem?_eq_getElem hjn⟩
            have q2 := U1.out wi HL.out.2 j x hx
            have hx12 := HR12.out x (List.mem_of_getElem? hx)
            have HX := Lib.hid hx
            have HBWI := Lib.hid hbwi
            clear hx hbwi
            go_wp2_with fail
            have b0 : Below wi.heap.size wi wi.drew := bl_drw (Below.refl _ _)
            have hobi : wi.heap[w.heap.size]? = some (.cells #[.int .i64 k, .int .i64 n, .int .i64 a, .int .i64 b] 23 (0, 0)) := (HL.out.2.block _ (Array.getElem?_eq_some_iff.1 HR.out.2.2).1).trans HR.out.2.2
            have hobl := (Array.getElem?_eq_some_iff.1 hobi).1
            have o0 : ∀ W, Below wi.heap.size wi W → W.cell? ⟨w.heap.size, 0, none⟩ = some (.int .i64 k) := fun W hW => cell_of_row _ _ 0 _ _ _ (up_bl hW hobl hobi)
            have o1 : ∀ W, Below wi.heap.size wi W → W.cell? ⟨w.heap.size, 1, none⟩ = some (.int .i64 n) := fun W hW => cell_of_row _ _ 1 _ _ _ (up_bl hW hobl hobi)
            have o2 : ∀ W, Below wi.heap.size wi W → W.cell? ⟨w.heap.size, 2, none⟩ = some (.int .i64 a) := fun W hW => cell_of_row _ _ 2 _ _ _ (up_bl hW hobl hobi)
            have o3 : ∀ W, Below wi.heap.size wi W → W.cell? ⟨w.heap.size, 3, none⟩ = some (.int .i64 b) := fun W hW => cell_of_row _ _ 3 _ _ _ (up_bl hW hobl hobi)
            have p0 : ∀ W, Below wi.heap.size wi W → W.cell? ⟨gl, i, none⟩ = some (.slice (some ⟨rb, ro, none⟩) row.length rc) := fun W hW => (hW.cell (block_lt_of_cell q0)).trans q0
            have p2 : ∀ W, Below wi.heap.size wi W → W.cell? ⟨rb, ro + j, none⟩ = some (.int .i64 x) := fun W hW => (hW.cell (block_lt_of_cell q2)).trans q2
            have HOBI := Lib.hid hobi
            have hcd := fun W (hW : Below wi.heap.size wi W) => HCD.out W (HBWI.out.trans (hW.mono HBWI.out.size)) x hx12 i hlt
            have HCDI := Lib.hid hcd
            clear hobi hobl hcd q0 q2
            refine wp_region_g (fun W => Below wi.heap.size wi W) 99 (by kernel_rfl) ?_
            generalize wi.drew = wd at *
            refine AnyG_take (i := 0) (oi := _) (v := ?_) rfl (by kernel_rfl) (fun _ _ _ h => h) (Or.inl ⟨by rfl, ?_⟩) b0 ?_
            rotate_left
            · intro W hSw; (try dsimp only at hSw); go_simp; first | done | with_reducible rfl
            simp only [Act.put, List.getElem_toArray, List.getElem_cons_zero, List.getElem_cons_succ, List.setIfInBounds_toArray, List.set_cons_zero, List.set_cons_succ]
            refine AnyG_take (i := 1) (oi := _) (v := ?_) rfl (by kernel_rfl) (fun _ _ _ h => h) (Or.inl ⟨by rfl, ?_⟩) b0 ?_
            rotate_left
            · intro W hSw; (try dsimp only at hSw); go_simp; first | done | with_reducible rfl
            simp only [Act.put, List.getElem_toArray, List.getElem_cons_zero, List.getElem_cons_succ, List.setIfInBounds_toArray, List.set_cons_zero, List.set_cons_succ]
            refine AnyG_take (i := 2) (oi := _) (v := ?_) rfl (by kernel_rfl) (fun _ _ _ h => h) (Or.inl ⟨by rfl, ?_⟩) b0 ?_
            rotate_left
            · intro W hSw; (try dsimp only at hSw); go_simp; first | done | with_reducible rfl
            simp only [Act.put, List.getElem_toArray, List.getElem_cons_zero, List.getElem_cons_succ, List.setIfInBounds_toArray, List.set_cons_zero, List.set_cons_succ]
            refine AnyG_take (i := 3) (oi := _) (v := ?_) rfl (by kernel_rfl) (fun _ _ _ h => h) (Or.inl ⟨by rfl, ?_⟩) b0 ?_
            rotate_left
            · intro W hSw; (try dsimp only at hSw); go_simp; first | done | with_reducible rfl
            simp only [Act.put, List.getElem_toArray, List.getElem_cons_zero, List.getElem_cons_succ, List.setIfInBounds_toArray, List.set_cons_zero, List.set_cons_succ]
            refine AnyG_take (i := 4) (oi := _) (v := ?_) rfl (by kernel_rfl) (fun _ _ _ h => h) (Or.inl ⟨by rfl, ?_⟩) b0 ?_
            rotate_left
            · intro W hSw; (try dsimp only at hSw); go_simp; first | done | with_reducible rfl
            simp only [Act.put, List.getElem_toArray, List.getElem_cons_zero, List.getElem_cons_succ, List.setIfInBounds_toArray, List.set_cons_zero, List.set_cons_succ]
            refine AnyG_take (i := 5) (oi := _) (v := ?_) rfl (by kernel_rfl) (fun _ _ _ h => h) (Or.inl ⟨by rfl, ?_⟩) b0 ?_
            rotate_left
            · intro W hSw; (try dsimp only at hSw); go_simp; first | done | with_reducible rfl
            simp only [Act.put, List.getElem_toArray, List.getElem_cons_zero, List.getElem_cons_succ, List.setIfInBounds_toArray, List.set_cons_zero, List.set_cons_succ]
            refine AnyG_take (i := 6) (oi := _) (v := ?_) rfl (by kernel_rfl) (fun _ _ _ h => h) (Or.inl ⟨by rfl, ?_⟩) b0 ?_
            rotate_left
            · intro W hSw; (try dsimp only at hSw); go_simp; first | done | with_reducible rfl
            simp only [Act.put, List.getElem_toArray, List.getElem_cons_zero, List.getElem_cons_succ, List.setIfInBounds_toArray, List.set_cons_zero, List.set_cons_succ]
            refine AnyG_take (i := 7) (oi := _) (v := ?_) rfl (by kernel_rfl) (fun _ _ _ h => h) (Or.inl ⟨by rfl, ?_⟩) b0 ?_
            rotate_left
            · intro W hSw; (try dsimp only at hSw); go_simp; first | done | with_reducible rfl
            simp only [Act.put, List.getElem_toArray, List.getElem_cons_zero, List.getElem_cons_succ, List.setIfInBounds_toArray, List.set_cons_zero, List.set_cons_succ]
            refine AnyG_take (i := 8) (oi := _) (v := ?_) rfl (by kernel_rfl) (fun _ _ _ h => h) (Or.inl ⟨by rfl, ?_⟩) b0 ?_
            rotate_left
            · intro W hSw; (try dsimp only at hSw); go_simp; first | done | with_reducible rfl
            simp only [Act.put, List.getElem_toArray, List.getElem_cons_zero, List.getElem_cons_succ, List.setIfInBounds_toArray, List.set_cons_zero, List.set_cons_succ]
            refine AnyG_take (i := 9) (oi := _) (v := ?_) rfl (by kernel_rfl) (fun _ _ _ h => h) (Or.inl ⟨by rfl, ?_⟩) b0 ?_
            rotate_left
            · intro W hSw; (try dsimp only at hSw); go_simp; first | done | with_reducible rfl
            simp only [Act.put, List.getElem_toArray, List.getElem_cons_zero, List.getElem_cons_succ, List.setIfInBounds_toArray, List.set_cons_zero, List.set_cons_succ]
            refine AnyG_take (i := 10) (oi := _) (v := ?_) rfl (by kernel_rfl) (fun _ _ _ h => h) (Or.inl ⟨by rfl, ?_⟩) b0 ?_
            rotate_left
            · intro W hSw; (try dsimp only at hSw); go_simp; first | done | with_reducible rfl
            simp only [Act.put, List.getElem_toArray, List.getElem_cons_zero, List.getElem_cons_succ, List.setIfInBounds_toArray, List.set_cons_zero, List.set_cons_succ]
            refine AnyG_one (i := 11) rfl (by kernel_rfl) ?_
            refine wpOp_of rfl rfl ?_
            try simp only [Act.put, List.getElem_toArray, List.getElem_cons_zero, List.getElem_cons_succ, List.setIfInBounds_toArray, List.set_cons_zero, List.set_cons_succ]
            go_simp
            refine (HCDI.out wd b0).mono ?_
            rintro r w2 ⟨⟨va, rfl, hva⟩, hb2⟩
            have b2 : Below wi.heap.size wi w2 := b0.trans (hb2.mono b0.size)
            refine ⟨b2, ?_⟩
            try simp only [Act.put, List.getElem_toArray, List.getElem_cons_zero, List.getElem_cons_succ, List.setIfInBounds_toArray, List.set_cons_zero, List.set_cons_succ]
            refine AnyG_take (i := 12) (oi := _) (v := ?_) rfl (by kernel_rfl) (fun _ _ _ h => h) (Or.inl ⟨by rfl, ?_⟩) b2 ?_
            rotate_left
            · intro W hSw; (try dsimp only at hSw); go_simp; first | done | with_reducible rfl
            simp only [Act.put, List.getElem_toArray, List.getElem_cons_zero, List.getElem_cons_succ, List.setIfInBounds_toArray, List.set_cons_zero, List.set_cons_succ]
            refine AnyG_take (i := 13) (oi := _) (v := ?_) rfl (by kernel_rfl) (fun _ _ _ h => h) (Or.inl ⟨by rfl, ?_⟩) b2 ?_
            rotate_left
            · intro W hSw; (try dsimp only at hSw); go_simp; first | done | with_reducible rfl
            simp only [Act.put, List.getElem_toArray, List.getElem_cons_zero, List.getElem_cons_succ, List.setIfInBounds_toArray, List.set_cons_zero, List.set_cons_succ]
            refine AnyG_take (i := 14) (oi := _) (v := ?_) rfl (by kernel_rfl) (fun _ _ _ h => h) (Or.inl ⟨by rfl, ?_⟩) b2 ?_
            rotate_left
            · intro W hSw; (try dsimp only at hSw); go_simp; first | done | with_reducible rfl
            simp only [Act.put, List.getElem_toArray, List.getElem_cons_zero, List.getElem_cons_succ, List.setIfInBounds_toArray, List.set_cons_zero, List.set_cons_succ]
            refine AnyG_take (i := 15) (oi := _) (v := ?_) rfl (by kernel_rfl) (fun _ _ _ h => h) (Or.inl ⟨by rfl, ?_⟩) b2 ?_
            rotate_left
            · intro W hSw; (try dsimp only at hSw); go_simp; first | done | with_reducible rfl
            simp only [Act.put, List.getElem_toArray, List.getElem_cons_zero, List.getElem_cons_succ, List.setIfInBounds_toArray, List.set_cons_zero, List.set_cons_succ]
            refine AnyG_take (i := 16) (oi := _) (v := ?_) rfl (by kernel_rfl) (fun _ _ _ h => h) (Or.inl ⟨by rfl, ?_⟩) b2 ?_
            rotate_left
            · intro W hSw; (try dsimp only at hSw); go_simp; first | done | with_reducible rfl
            simp only [Act.put, List.getElem_toArray, List.getElem_cons_zero, List.getElem_cons_succ, List.setIfInBounds_toArray, List.set_cons_zero, List.set_cons_succ]
            refine AnyG_done (by kernel_rfl) ?_ _
            obtain ⟨hcl, hc0, hck⟩ := HLC.out x hx12
            obtain ⟨ga, pa, rfl⟩ := own_form hva hc0
            have HCV0 : CV wo w2 lv (semN c row j) := (CV.mk HL.out.1 HL.out.2).only (Only.of_below (F := fun _ => False) b2 (Nat.le_refl _))
            have hga := hva.lt ga rfl
            have hlv : ∀ k, lv.ownBlock = some k → k < wi.heap.size := fun k e => (HL.out.1.lt k e).2
            have hz0i := b0.size
            have HFA : Hid (FlatB w2 ga (c x)) := Lib.hid (FlatB.own hva)
            have HGA : Hid (lv.ownBlock ≠ some ga ∧ wo.heap.size ≤ ga ∧ ga < w2.heap.size) := Lib.hid ⟨fun e => by have := hlv ga e; omega, by have := HL.out.2.size; omega, hga.2⟩
            have s0 := p0 w2 b2
            have s1 := p2 w2 b2
            have hLn := HSL.out j
            have hsem : semN c row (j + 1) = addR (semN c row j) (2 * (x - 1)) (c x) := semN_at HX.out
            have HSEM := Lib.hid hsem
            generalize semN c row j = L at *
            have hj6 : j < 6 := by omega
            have hLm : L.length ≤ 1212 := by omega
            have hcm : (c x).length ≤ 200 := hcl
            have m1h : L.length + 1 ≤ maxLen ∧ (L.length + 1) * 40 ≤ 140737488355328 := by unfold maxLen; omega
            have m2h : L.length + 1 + (c x).length ≤ maxLen ∧ (L.length + 1 + (c x).length) * 40 ≤ 140737488355328 := by unfold maxLen; omega
            have m3h : L.length + 1 + (c x).length + 1 ≤ maxLen ∧ (L.length + 1 + (c x).length + 1) * 40 ≤ 140737488355328 := by unfold maxLen; omega
            have m4 : L.length + 1 ≤ 100000 ∧ (c x).length ≤ 3000 := by omega
            have M1 := Lib.hid m1h
            have M2 := Lib.hid m2h
            have M3 := Lib.hid m3h
            have M4 := Lib.hid m4
            have hcast : (((L.length + 1 : Nat) : Int)) = (L.length : Int) + 1 := by omega
            clear m1h m2h m3h m4
            have HCV := Lib.hid HCV0
            have hZ2 : ∀ X, wo.heap.size ≤ (w2.alloc X).heap.size := fun X => by have := HCV0.bel.size; simp; omega
            have HW2 := Lib.hid b2
            clear o0 o1 o2 o3 p0 p2 hva b2 hb2 b0 hga hlv hz0i HCV0 hsem hLn
            rcases hx12 with rfl | rfl
            · skip
              have hk0 : (0 : Int) ≤ 0 := by decide
              go_wp2_with (first
                | (at_builtin; go_must (refine wpList_append_lies _ rfl (.tmp 57) (.tmp 69) 29 rfl wo.heap.size 132 i0 _ 5 40 Tryz.underlying29 hi0 hz0 hz1 hz2 rfl (by decide) lv L.length (flat L) rfl (own_only HCV.out.ho (on_al (F := fun _ => False) _ _) (fun _ _ f => f)) ⟨w2.heap.size, 0, none⟩ 1 1 [.int .i64 27, .int .i64 7, .int .i64 0, .int .i64 0, .int .u32 0] rfl rfl (World.news_of_block (heap_alloc_new _ _)) (by simp [Value.oneCell']) (by decide) M1.out.1 M1.out.2 (hZ2 _) _ rfl ?_; intro g1 p1 w3 ho1 hgr1 hat1 hlt1; obtain ⟨hcv3, hfr3⟩ := HCV.out.app (L' := L ++ [⟨27, 7, 0, 0, 0⟩]) (on_al _ _) (by rw [flat_app]; exact ho1) (by simp) hgr1; have HCV3 := Lib.hid hcv3; have HFA3 : Hid (FlatB w3 ga (c 1)) := Lib.hid ⟨Nat.lt_of_lt_of_le HFA.out.1 (Nat.le_trans (by simp) hgr1.size), fun q u hu => (World.cell?_of_block (w := w2) (a := ⟨ga, q, none⟩) (hfr3 ga HFA.out.1 HGA.out.1)).trans (HFA.out.2 q u hu)⟩; clear ho1 hgr1 hat1 hlt1 hcv3 hfr3 s0 s1 hZ2))
                | fail)
              have hmv := moved_any w3 (HTI.out.below (HR.out.1.bel.trans (HCV3.out.bel.mono HR.out.1.bel.size)) (Nat.le_refl _)) (L.length + 1) M4.out.1 (.slice (some ⟨ga, 0, none⟩) (c 1).length pa) (c 1).length (c 1) HFA3.out.ins M4.out.2 hck
              rw [hcast] at hmv
              refine hmv.mono ?_
              clear hmv
              rintro r w4 ⟨u3, rfl, ho3, hb3⟩
              obtain ⟨g3, p3, rfl⟩ := own_form ho3 hc0
              have HO3 := Lib.hid ho3
              have HCV4 : Hid (CV wo w4 (.slice (some ⟨g1, 0, none⟩) (L.length + 1) p1) (L ++ [⟨27, 7, 0, 0, 0⟩])) := Lib.hid (HCV3.out.only (Only.of_below (F := fun _ => False) hb3 (Nat.le_refl _)))
              have hl1 : (L ++ [(⟨27, 7, 0, 0, 0⟩ : Ins)]).length = L.length + 1 := by simp
              clear ho3 hb3
              have HGN : Hid (j + 1 + g2 = row.length) := Lib.hid (by omega)
              have hbj : 0 ≤ (j : Int) + 1 ∧ (j : Int) + 1 ≤ 1000000 := by omega
              have hwj : wrap64 ((j : Int) + 1) = (j : Int) + 1 := wr_idM hbj.1 hbj.2
              go_wp2_with (first
                | (at_builtin; refine wpList_append_lies _ rfl (.tmp 77) (.tmp 90) 29 rfl wo.heap.size 132 i0 _ 5 40 Tryz.underlying29 hi0 hz0 hz1 hz2 rfl (by decide) (.slice (some ⟨g4, 0, none⟩) (L.length + 1 + (c 1).length) p4) (L.length + 1 + (c 1).length) (flat (L ++ [⟨27, 7, 0, 0, 0⟩] ++ movedI (c 1) (L.length + 1))) rfl (own_only (show w5.ownsRow wo.heap.size 132 5 (.slice (some ⟨g4, 0, none⟩) (L.length + 1 + (c 1).length) p4) (L.length + 1 + (c 1).length) _ from (show (L ++ [(⟨27, 7, 0, 0, 0⟩ : Ins)] ++ movedI (c 1) (L.length + 1)).length = L.length + 1 + (c 1).length by simp [movedI]; omega) ▸ HCV5.out.ho) (on_al (F := fun _ => False) _ _) (fun _ _ f => f)) ⟨w5.heap.size, 0, none⟩ 1 1 [.int .i64 27, .int .i64 7, .int .i64 0, .int .i64 0, .int .u32 1] rfl rfl (World.news_of_block (heap_alloc_new _ _)) (by simp [Value.oneCell']) (by decide) M3.out.1 M3.out.2 (Nat.le_trans HCV5.out.bel.size (by simp)) _ rfl ?_; intro g5 p5 w6 ho5 hgr5 hat5 hlt5; obtain ⟨hcv6, _⟩ := HCV5.out.app (L' := L ++ [⟨27, 7, 0, 0, 0⟩] ++ movedI (c 1) (L.length + 1) ++ [⟨27, 7, 0, 0, 1⟩]) (on_al _ _) (by rw [flat_app]; exact ho5) (by simp [movedI]; omega) hgr5; have HCV6 := Lib.hid hcv6; clear ho5 hgr5 hat5 hlt5 hcv6 t0 t1)
                | (at_builtin; go_must (refine wpList_append_lies _ rfl (.tmp 71) (.tmp 75) 29 rfl wo.heap.size 132 i0 _ 5 40 Tryz.underlying29 hi0 hz0 hz1 hz2 rfl (by decide) (.slice (some ⟨g1, 0, none⟩) (L.length + 1) p1) (L.length + 1) (flat (L ++ [⟨27, 7, 0, 0, 0⟩])) rfl (hl1 ▸ HCV4.out.ho) ⟨g3, 0, none⟩ (c 1).length p3 (flat (movedI (c 1) (L.length + 1))) rfl (by rw [flat_len]; simp [movedI]) (fun q u hu => HO3.out.cells (g := g3) rfl q u hu) (one_flat _) hc0 M2.out.1 M2.out.2 HCV4.out.bel.size _ rfl ?_; intro g4 p4 w5 ho4 hgr4 hat4 hlt4; obtain ⟨hcv5, _⟩ := HCV4.out.app (L' := L ++ [⟨27, 7, 0, 0, 0⟩] ++ movedI (c 1) (L.length + 1)) (Only.refl (fun _ => False) w4) (by rw [flat_app]; exact ho4) (by simp [movedI]; omega) hgr4; have HCV5 := Lib.hid hcv5; have t0 := U0.out w5 hcv5.bel; have t1 := U1.out w5 hcv5.bel j 1 HX.out; clear ho4 hgr4 hat4 hlt4 hcv5))
                | fail)
              go_roundg g2
              case rel => exact ⟨j + 1, _, HGN.out, by simp; exact hwj, rfl, rfl, Lib.hid ⟨by rw [HSEM.out, show addR L (2 * (1 - 1)) (c 1) = L ++ [⟨27, 7, 0, 0, 0⟩] ++ movedI (c 1) (L.length + 1) ++ [⟨27, 7, 0, 0, 1⟩] by rw [movedI_map]; rfl]; exact HCV6.out.ho, HCV6.out.bel⟩⟩
              case measure => exact Nat.lt_succ_self _
            · skip
              have hk0 : (0 : Int) ≤ 2 := by decide
              go_wp2_with (first
                | (at_builtin; go_must (refine wpList_append_lies _ rfl (.tmp 57) (.tmp 69) 29 rfl wo.heap.size 132 i0 _ 5 40 Tryz.underlying29 hi0 hz0 hz1 hz2 rfl (by decide) lv L.length (flat L) rfl (own_only HCV.out.ho (on_al (F := fun _ => False) _ _) (fun _ _ f => f)) ⟨w2.heap.size, 0, none⟩ 1 1 [.int .i64 27, .int .i64 7, .int .i64 0, .int .i64 0, .int .u32 2] rfl rfl (World.news_of_block (heap_alloc_new _ _)) (by simp [Value.oneCell']) (by decide) M1.out.1 M1.out.2 (hZ2 _) _ rfl ?_; intro g1 p1 w3 ho1 hgr1 hat1 hlt1; obtain ⟨hcv3, hfr3⟩ := HCV.out.app (L' := L ++ [⟨27, 7, 0, 0, 2⟩]) (on_al _ _) (by rw [flat_app]; exact ho1) (by simp) hgr1; have HCV3 := Lib.hid hcv3; have HFA3 : Hid (FlatB w3 ga (c 2)) := Lib.hid ⟨Nat.lt_of_lt_of_le HFA.out.1 (Nat.le_trans (by simp) hgr1.size), fun q u hu => (World.cell?_of_block (w := w2) (a := ⟨ga, q, none⟩) (hfr3 ga HFA.out.1 HGA.out.1)).trans (HFA.out.2 q u hu)⟩; clear ho1 hgr1 hat1 hlt1 hcv3 hfr3 s0 s1 hZ2))
                | fail)
              have hmv := moved_any w3 (HTI.out.below (HR.out.1.bel.trans (HCV3.out.bel.mono HR.out.1.bel.size)) (Nat.le_refl _)) (L.length + 1) M4.out.1 (.slice (some ⟨ga, 0, none⟩) (c 2).length pa) (c 2).length (c 2) HFA3.out.ins M4.out.2 hck
              rw [hcast] at hmv
              refine hmv.mono ?_
              clear hmv
              rintro r w4 ⟨u3, rfl, ho3, hb3⟩
              obtain ⟨g3, p3, rfl⟩ := own_form ho3 hc0
              have HO3 := Lib.hid ho3
              have HCV4 : Hid (CV wo w4 (.slice (some ⟨g1, 0, none⟩) (L.length + 1) p1) (L ++ [⟨27, 7, 0, 0, 2⟩])) := Lib.hid (HCV3.out.only (Only.of_below (F := fun _ => False) hb3 (Nat.le_refl _)))
              have hl1 : (L ++ [(⟨27, 7, 0, 0, 2⟩ : Ins)]).length = L.length + 1 := by simp
              clear ho3 hb3
              have HGN : Hid (j + 1 + g2 = row.length) := Lib.hid (by omega)
              have hbj : 0 ≤ (j : Int) + 1 ∧ (j : Int) + 1 ≤ 1000000 := by omega
              have hwj : wrap64 ((j : Int) + 1) = (j : Int) + 1 := wr_idM hbj.1 hbj.2
              go_wp2_with (first
                | (at_builtin; refine wpList_append_lies _ rfl (.tmp 77) (.tmp 90) 29 rfl wo.heap.size 132 i0 _ 5 40 Tryz.underlying29 hi0 hz0 hz1 hz2 rfl (by decide) (.slice (some ⟨g4, 0, none⟩) (L.length + 1 + (c 2).length) p4) (L.length + 1 + (c 2).length) (flat (L ++ [⟨27, 7, 0, 0, 2⟩] ++ movedI (c 2) (L.length + 1))) rfl (own_only (show w5.ownsRow wo.heap.size 132 5 (.slice (some ⟨g4, 0, none⟩) (L.length + 1 + (c 2).length) p4) (L.length + 1 + (c 2).length) _ from (show (L ++ [(⟨27, 7, 0, 0, 2⟩ : Ins)] ++ movedI (c 2) (L.length + 1)).length = L.length + 1 + (c 2).length by simp [movedI]; omega) ▸ HCV5.out.ho) (on_al (F := fun _ => False) _ _) (fun _ _ f => f)) ⟨w5.heap.size, 0, none⟩ 1 1 [.int .i64 27, .int .i64 7, .int .i64 0, .int .i64 0, .int .u32 3] rfl rfl (World.news_of_block (heap_alloc_new _ _)) (by simp [Value.oneCell']) (by decide) M3.out.1 M3.out.2 (Nat.le_trans HCV5.out.bel.size (by simp)) _ rfl ?_; intro g5 p5 w6 ho5 hgr5 hat5 hlt5; obtain ⟨hcv6, _⟩ := HCV5.out.app (L' := L ++ [⟨27, 7, 0, 0, 2⟩] ++ movedI (c 2) (L.length + 1) ++ [⟨27, 7, 0, 0, 3⟩]) (on_al _ _) (by rw [flat_app]; exact ho5) (by simp [movedI]; omega) hgr5; have HCV6 := Lib.hid hcv6; clear ho5 hgr5 hat5 hlt5 hcv6 t0 t1)
                | (at_builtin; go_must (refine wpList_append_lies _ rfl (.tmp 71) (.tmp 75) 29 rfl wo.heap.size 132 i0 _ 5 40 Tryz.underlying29 hi0 hz0 hz1 hz2 rfl (by decide) (.slice (some ⟨g1, 0, none⟩) (L.length + 1) p1) (L.length + 1) (flat (L ++ [⟨27, 7, 0, 0, 2⟩])) rfl (hl1 ▸ HCV4.out.ho) ⟨g3, 0, none⟩ (c 2).length p3 (flat (movedI (c 2) (L.length + 1))) rfl (by rw [flat_len]; simp [movedI]) (fun q u hu => HO3.out.cells (g := g3) rfl q u hu) (one_flat _) hc0 M2.out.1 M2.out.2 HCV4.out.bel.size _ rfl ?_; intro g4 p4 w5 ho4 hgr4 hat4 hlt4; obtain ⟨hcv5, _⟩ := HCV4.out.app (L' := L ++ [⟨27, 7, 0, 0, 2⟩] ++ movedI (c 2) (L.length + 1)) (Only.refl (fun _ => False) w4) (by rw [flat_app]; exact ho4) (by simp [movedI]; omega) hgr4; have HCV5 := Lib.hid hcv5; have t0 := U0.out w5 hcv5.bel; have t1 := U1.out w5 hcv5.bel j 2 HX.out; clear ho4 hgr4 hat4 hlt4 hcv5))
                | fail)
              go_roundg g2
              case rel => exact ⟨j + 1, _, HGN.out, by simp; exact hwj, rfl, rfl, Lib.hid ⟨by rw [HSEM.out, show addR L (2 * (2 - 1)) (c 2) = L ++ [⟨27, 7, 0, 0, 2⟩] ++ movedI (c 2) (L.length + 1) ++ [⟨27, 7, 0, 0, 3⟩] by rw [movedI_map]; rfl]; exact HCV6.out.ho, HCV6.out.bel⟩⟩
              case measure => exact Nat.lt_succ_self _
          · have hjl : ¬ ((j : Int) < (row.length : Int)) := by omega
            have hje : j = row.length := by omega
            subst hje
            obtain ⟨iC, hiC, hc0, hc1, hc2⟩ := info_parts infoC
            have hfi := HFF.out i row HRI.out
            have hL1 : wi.ownsRow wo.heap.size 132 5 lv (f i).length (flat (f i)) := by rw [hfi]; exact HL.out.1
            have hlen0 : 0 < (f i).length := by
              obtain ⟨q, hq⟩ : ∃ q, row.length = q + 1 := ⟨row.length - 1, by omega⟩
              rw [hfi, hq]; exact semN_pos (by omega)
            obtain ⟨gq, pl, rfl⟩ := own_form hL1 hlen0
            have hP := HR.out.1.below HL.out.2
            have hC := HR.out.2.1.below HL.out.2
            obtain ⟨gg, cp, hco, hcf⟩ := hC.ex
            obtain ⟨g5, p5, hrow, hown5, hn5, hn6⟩ := hP.row
            have d0 : wi.cell? ⟨gp, 0, none⟩ = some cv := cell_of_row _ _ 0 _ _ _ hrow
            have hgl := hL1.lt gq rfl
            have hgpo : gp < wo.heap.size := by
              obtain ⟨_, _, hr, _⟩ := HR.out.1.row
              exact (Array.getElem?_eq_some_iff.1 hr).1
            have hcvo : ∀ k, cv.ownBlock = some k → k < wo.heap.size := fun k e => by
              obtain ⟨_, _, h1, _⟩ := HR.out.2.1.ex
              exact (h1.lt k e).2
            have hreso : w.heap.size + 1 < wo.heap.size := (Array.getElem?_eq_some_iff.1 HR.out.1.res).1
            have hobo : w.heap.size < wo.heap.size := (Array.getElem?_eq_some_iff.1 HR.out.2.2).1
            have HGL : Hid (gq ≠ gp ∧ gq ≠ w.heap.size + 1 ∧ cv.ownBlock ≠ some gq ∧ w.heap.size ≤ gq ∧ (f i).length ≤ pl) := Lib.hid ⟨by omega, by omega, fun e => by have := hcvo gq e; omega, by have := HR.out.1.bel.size; omega, own_cap hL1⟩
            have HOBI : Hid (wi.heap[w.heap.size]? = some (.cells #[.int .i64 k, .int .i64 n, .int .i64 a, .int .i64 b] 23 (0, 0)) ∧ w.heap.size ≠ gp ∧ cv.ownBlock ≠ some w.heap.size) := Lib.hid ⟨(HL.out.2.block _ hobo).trans HR.out.2.2, by
              have := HR.out.1.hgp
              intro e
              obtain ⟨_, _, hr, _⟩ := HR.out.1.row
              rw [← e, HR.out.2.2] at hr
              injection hr with hr
              injection hr with _ hr _
              exact absurd hr (by decide), fun e => by
              obtain ⟨_, _, h1, _⟩ := HR.out.2.1.ex
              rcases h1.2 with ⟨e2, _⟩ | ⟨g', cap', cur, e2, _, hh, _⟩
              · rw [e2] at e; simp [Value.ownBlock] at e
              · rw [e2] at e
                have := own_eq e
                subst this
                rw [HR.out.2.2] at hh
                injection hh with hh
                injection hh with _ hh _
                exact absurd hh (by decide)⟩
            have HPP := Lib.hid hP
            have HCC := Lib.hid hC
            have HCO := Lib.hid hco
            have HCF := Lib.hid hcf
            have HLF : Hid (FlatB wi gq (f i)) := Lib.hid (FlatB.own hL1)
            have N1 : Hid (i + 1 ≤ maxLen ∧ (i + 1) * 24 ≤ 140737488355328) := Lib.hid (by unfold maxLen; omega)
            have N3 : ∀ X, w.heap.size ≤ (wi.alloc X).heap.size := fun X => by have := HPP.out.bel.size; simp; omega
            have HGI : Hid (i + 1 + g' = ls.length) := Lib.hid (by omega)
            have hbi : 0 ≤ (i : Int) + 1 ∧ (i : Int) + 1 ≤ 1000000 := by omega
            have hwi2 : wrap64 ((i : Int) + 1) = (i : Int) + 1 := wr_idM hbi.1 hbi.2
            clear hP hC hco hcf hrow hown5 hn5 hn6 hgl hgpo hcvo hreso hlen0 hL1 hbwi hfi hobo
            go_wp2_with (at_builtin; go_must (refine wpList_append_lies _ rfl (.tmp 93) (.tmp 95) 42 rfl w.heap.size 29 iC _ 1 24 Tryz.underlying42 hiC hc0 hc1 hc2 rfl (by decide) cv i ((List.range i).map fun t => .slice (some ⟨gg t, 0, none⟩) (f t).length (cp t)) rfl (own_only HCO.out (on_al (F := fun _ => False) _ _) (fun _ _ f => f)) ⟨wi.heap.size, 0, none⟩ 1 1 [.slice (some ⟨gq, 0, none⟩) (f i).length pl] rfl rfl (World.news_of_block (heap_alloc_new _ _)) (by simp [Value.oneCell']) (by decide) N1.out.1 N1.out.2 (N3 _) _ rfl ?_; intro g7 p7 w7 ho7 hgr7 hat7 hlt7; have HG := Lib.hid (codes_app HPP.out HCC.out HCO.out HCF.out HLF.out HGL.out (on_al _ _) ho7 hgr7 hat7); have HO7 : Hid ((w7.setCell ⟨gp, 0, none⟩ (.slice (some ⟨g7, 0, none⟩) (i + 1) p7)).heap[w.heap.size]? = some (.cells #[.int .i64 k, .int .i64 n, .int .i64 a, .int .i64 b] 23 (0, 0))) := Lib.hid ((heap_setCell_other _ _ _ _ HOBI.out.2.1).trans ((hgr7.block _ (Nat.lt_of_lt_of_le (Array.getElem?_eq_some_iff.1 HOBI.out.1).1 (by simp)) (fun e => HOBI.out.2.2 e.symm)).trans ((Below.heap_alloc _ _ _ (Array.getElem?_eq_some_iff.1 HOBI.out.1).1).trans HOBI.out.1))); obtain ⟨c7, f7⟩ := codes_mid HPP.out HCC.out (on_al _ _) hgr7; clear ho7 hgr7 hat7 hlt7))
            go_roundg g'
            case rel => exact ⟨i + 1, _, HGI.out, by simp, rfl, Lib.hid ⟨HG.out.1, HG.out.2, HO7.out⟩⟩
            case measure => exact Nat.lt_succ_self _
      · have hil : ¬ ((i : Int) < (ls.length : Int)) := by omega
        have hiT : i = ls.length := by omega
        subst hiT
        obtain ⟨ggx, cpx, hcox, _⟩ := HR.out.2.1.ex
        obtain ⟨gv, pv, rfl⟩ := own_form hcox hT0
        clear hcox
        obtain ⟨g5, p5, hrow, hown5, hn5, hn6⟩ := HR.out.1.row
        have hres := HR.out.1.res
        obtain ⟨c0, c1, c2⟩ := cells3 hrow
        obtain ⟨d0, d1, d2⟩ := cells3 hres
        have f0 := frozen_of_row wo (w.heap.size + 1) 0 _ _ hres
        have f1 := frozen_of_row wo (w.heap.size + 1) 1 _ _ hres
        have f2 := frozen_of_row wo (w.heap.size + 1) 2 _ _ hres
        have HRES := Lib.hid hres
        have HOWN := Lib.hid hown5
        have HN6 := Lib.hid hn6
        clear hrow hres hown5 hn5 hn6
        go_wp2_with fail
        obtain ⟨hs1, hs2⟩ := set3 HRES.out (.slice (some ⟨gv, 0, none⟩) ls.length pv) (.slice (some ⟨g5, 0, none⟩) (16 + [n].length) p5) (.int .i64 room)
        refine bodyPost_ret (results_prog rfl _ _ (w.heap.size + 1) _ _ _ hs1 rfl) rfl ?_
        refine ⟨_, _, rfl, own_only HOWN.out hs2 (fun k e f => by have := own_eq e; exact HN6.out (by omega)), ?_, HR.out.1.bel.trans (hs2.below HR.out.1.bel.size (fun k e => by omega))⟩
        obtain ⟨gg, cp, hco, hcf⟩ := HR.out.2.1.ex
        exact ⟨⟨gg, cp, own_only hco hs2 (fun k e f => HR.out.2.1.ne.2 (by rw [e, f])), fun t ht => ⟨(hcf t ht).1.only hs2 (hcf t ht).2.2.2.1, (hcf t ht).2.1, (hcf t ht).2.2.2.1, (hcf t ht).2.2.2.1, (hcf t ht).2.2.2.2⟩⟩, HR.out.2.1.ne.2, HR.out.2.1.ne.2⟩
end Go.Proofs.YtcnmhgblbikfkaaGreatDoor.As.T
