/- The walk of abs.Machine.Do, whatever the call; what a machine's counts are at most. -/
import Derived.Test.YtfemeiopfpblaaaDoorHjM8
set_option linter.unusedVariables false
set_option linter.unusedSimpArgs false
set_option maxRecDepth 20000
namespace Go.Proofs.YtfemeiopfpblaaaDoor.As
open Go.RowKit

/-- What is counted of an object is small. -/
def SmallT (i : Nat) (s : St) : Prop := (∀ t, t < 8 → 0 ≤ s.come.getD t 0 ∧ s.come.getD t 0 ≤ i ∧ 0 ≤ s.left.getD t 0 ∧ s.left.getD t 0 ≤ i) ∧ 0 ≤ s.opened ∧ s.opened ≤ i ∧ -(i : Int) ≤ s.count ∧ s.count ≤ 1000 + i
theorem SmallT.mono {i k : Nat} {s : St} (h : SmallT i s) (hk : i ≤ k) : SmallT k s := by
  obtain ⟨h1, h2, h3, h4, h5⟩ := h
  refine ⟨fun t ht => ?_, h2, by omega, by omega, by omega⟩
  obtain ⟨a, b, c, d⟩ := h1 t ht
  exact ⟨a, by omega, c, by omega⟩
theorem St.new_small {o : Ob} {th : Int} (h : RightP o.k o.n o.a o.b th) : SmallT 0 (St.new o) := by
  have hn : 0 ≤ o.n ∧ o.n ≤ 1000 := by obtain ⟨_, _, h⟩ := h; omega
  refine ⟨fun t ht => ?_, Int.le_refl _, Int.le_refl _, by show -((0 : Nat) : Int) ≤ o.n; omega, by show o.n ≤ 1000 + ((0 : Nat) : Int); omega⟩
  have : (St.new o).come.getD t 0 = 0 ∧ (St.new o).left.getD t 0 = 0 := by
    unfold St.new
    dsimp only
    rw [List.getD_eq_getElem?_getD, List.getElem?_replicate]
    rw [if_pos ht]
    exact ⟨rfl, rfl⟩
  rw [this.1, this.2]
  omega
theorem getD_set2 (l : List Int) (i t : Nat) (v : Int) : (l.set i v).getD t 0 = if t = i ∧ i < l.length then v else l.getD t 0 := by
  rw [List.getD_eq_getElem?_getD, List.getElem?_set, List.getD_eq_getElem?_getD]
  by_cases e : i = t
  · subst e
    rw [if_pos rfl]
    by_cases h : i < l.length
    · rw [if_pos h, if_pos ⟨rfl, h⟩]; rfl
    · rw [if_neg h, if_neg (fun e => h e.2), List.getElem?_eq_none (by omega)]
  · rw [if_neg e, if_neg (fun q => e q.1.symm)]
theorem small_step {i : Nat} {s : St} (th : Int) (x : Ask) (h : SmallT i s) : SmallT (i + 1) (doOb th s x).2 := by
  have hm := h.mono (Nat.le_succ i)
  obtain ⟨h1, h2, h3, h4, h5⟩ := h
  obtain ⟨k1, k2, k3, k4, k5⟩ := hm
  have lock : SmallT (i + 1) (doLock s x).2 := by
    unfold doLock
    repeat' split
    all_goals exact ⟨k1, k2, k3, k4, k5⟩
  unfold doOb
  split
  · unfold doKind
    split
    · unfold doDuo
      split
      · exact ⟨k1, k2, k3, k4, k5⟩
      · exact lock
    split
    · unfold doSeq
      repeat' split
      all_goals first | exact lock | exact ⟨k1, k2, k3, k4, k5⟩
    split
    · unfold doSem
      repeat' split
      all_goals first | exact ⟨k1, k2, k3, k4, k5⟩ | exact ⟨k1, k2, k3, (by dsimp only; omega), (by dsimp only; omega)⟩
    split
    · exact ⟨k1, k2, k3, k4, k5⟩
    split
    · unfold doBar
      repeat' split
      all_goals first
        | exact ⟨k1, k2, k3, k4, k5⟩
        | exact ⟨k1, (by dsimp only; omega), (by dsimp only; omega), k4, k5⟩
        | (refine ⟨fun t ht => ?_, k2, k3, k4, k5⟩
           obtain ⟨a, b, c, d⟩ := h1 t ht
           dsimp only
           rw [getD_set2]
           split
           · next e => obtain ⟨rfl, _⟩ := e; omega
           · omega)
    split
    · unfold doRw
      repeat' split
      all_goals exact ⟨k1, k2, k3, k4, k5⟩
    split
    · unfold doOnce
      repeat' split
      all_goals exact ⟨k1, k2, k3, k4, k5⟩
    · exact lock
  · exact ⟨k1, k2, k3, k4, k5⟩
theorem SmallT.bar {i : Nat} {s : St} (h : SmallT i s) (hi : i ≤ 1000) : BarOk s := by
  obtain ⟨h1, h2, h3, _⟩ := h
  refine ⟨fun t ht => ?_, h2, by omega⟩
  obtain ⟨a, b, c, d⟩ := h1 t ht
  exact ⟨a, by omega, c, by omega⟩
/-- What a machine does with a call of an object. -/
theorem doM_one (w : World) (T : TabO w) (mb g f0 n cap j : Nat) (th : Int) (s : St) (who call part arg val : Int) (hM : w.heap[mb]? = some (.cells #[.int .i64 th, .slice (some ⟨g, f0, none⟩) n cap] 56 (0, 0))) (hS : Seg w g (f0 + j * 38) s) (hj : j < n) (hx0 : 0 ≤ arg) (hx1 : arg ≤ 4294967295) (i : Nat) (hi : i ≤ 1000) (hsm : SmallT i s) :
    Calls Tryd.prog 9 #[.pointer (some ⟨mb, 0, none⟩), .agg #[.int .i64 who, .int .i64 ((j : Nat) : Int), .int .i64 call, .int .i64 part, .int .u32 arg, .int .u32 val]] w (MPF w g (f0 + j * 38) (doOb th s ⟨who, ((j : Nat) : Int), call, part, arg, val⟩).1 (doOb th s ⟨who, ((j : Nat) : Int), call, part, arg, val⟩).2) := by
  by_cases hP : AskP s.o.k s.o.n s.o.a s.o.b call th who
  · have hm2 := hP.2.2.2
    have hR := hP.1
    unfold MayP at hm2
    by_cases hput : call = 4 ∧ s.o.n ≤ arg
    · have e : doOb th s ⟨who, ((j : Nat) : Int), call, part, arg, val⟩ = (none, s) := by unfold doOb; rw [if_neg (fun q => q.2.1 hput)]
      rw [e]
      exact doM_put w T mb g f0 n cap j th s who call part arg val hM hS hj hx0 hx1 hP hput.1 hput.2
    by_cases hp : s.o.k = 13 ∨ part = 0
    · have e : doOb th s ⟨who, ((j : Nat) : Int), call, part, arg, val⟩ = doKind s ⟨who, ((j : Nat) : Int), call, part, arg, val⟩ := by unfold doOb; rw [if_pos (show Asks th s.o ⟨who, ((j : Nat) : Int), call, part, arg, val⟩ from ⟨hP, hput, hp⟩)]
      rw [e]
      unfold doKind
      by_cases k13 : s.o.k = 13
      · rw [if_neg (by omega), if_neg (by omega), if_neg (by omega), if_neg (by omega), if_pos k13]
        exact doM_bar w T mb g f0 n cap j th s who call part arg val hM hS hj hx0 hx1 hP k13 (hsm.bar hi)
      have hp0 : part = 0 := by omega
      by_cases k6 : s.o.k = 6
      · rw [if_pos (.inl k6)]
        exact doM_duo6 w T mb g f0 n cap j th s who call part arg val hM hS hj hx0 hx1 hP hp0 k6
      by_cases k7 : s.o.k = 7
      · rw [if_pos (.inr k7)]
        exact doM_duo7 w T mb g f0 n cap j th s who call part arg val hM hS hj hx0 hx1 hP hp0 k7
      rw [if_neg (by omega)]
      by_cases k9 : s.o.k = 9
      · rw [if_pos k9]
        by_cases c4 : call = 4
        · exact doM_seq4 w T mb g f0 n cap j th s who call part arg val hM hS hj hx0 hx1 hP hp0 k9 c4 (by omega)
        · exact doM_seq w T mb g f0 n cap j th s who call part arg val hM hS hj hx0 hx1 hP hp0 k9 c4
      rw [if_neg k9]
      by_cases k11 : s.o.k = 11
      · rw [if_pos k11]
        exact doM_sem w T mb g f0 n cap j th s who call part arg val hM hS hj hx0 hx1 hP hp0 k11 (by have := hsm.2.2.2.1; omega) (by have := hsm.2.2.2.2; omega)
      rw [if_neg k11]
      by_cases k12 : s.o.k = 12
      · rw [if_pos k12]
        exact doM_cond w T mb g f0 n cap j th s who call part arg val hM hS hj hx0 hx1 hP hp0 k12
      rw [if_neg k12, if_neg k13]
      by_cases k14 : s.o.k = 14
      · rw [if_pos k14]
        exact doM_rw w T mb g f0 n cap j th s who call part arg val hM hS hj hx0 hx1 hP hp0 k14
      rw [if_neg k14]
      by_cases k15 : s.o.k = 15
      · rw [if_pos k15]
        exact doM_once w T mb g f0 n cap j th s who call part arg val hM hS hj hx0 hx1 hP hp0 k15
      rw [if_neg k15]
      exact doM_lock w T mb g f0 n cap j th s who call part arg val hM hS hj hx0 hx1 hP hp0 k6 k7 k9 k11 k12 k13 k14 k15
    · have e : doOb th s ⟨who, ((j : Nat) : Int), call, part, arg, val⟩ = (none, s) := by unfold doOb; rw [if_neg (fun q => hp q.2.2)]
      rw [e]
      by_cases c4 : call = 4
      · exact doM_part4 w T mb g f0 n cap j th s who call part arg val hM hS hj hx0 hx1 hP (fun q => hp (.inr q)) (fun q => hp (.inl q)) c4 (by omega)
      · exact doM_partn w T mb g f0 n cap j th s who call part arg val hM hS hj hx0 hx1 hP (fun q => hp (.inr q)) (fun q => hp (.inl q)) c4
  · have e : doOb th s ⟨who, ((j : Nat) : Int), call, part, arg, val⟩ = (none, s) := by unfold doOb; rw [if_neg (fun q => hP q.1)]
    rw [e]
    exact doM_no w T mb g f0 n cap j th s who call part arg val hM hS hj hx0 hx1 hP
def DPost (w : World) (mb B g : Nat) (th : Int) (p : Ans × List St) (e : Ending) (w' : World) : Prop :=
  ∃ dv, e = .returned (.tuple #[.agg #[.int .u32 (ansR p.1), dv], .bool p.1.isSome]) ∧ Rd w' 1 dv (ansD p.1).length (ints32 (ansD p.1)) ∧ MachI w' mb B g th p.2 ∧ Only (fun k => k = g) w w'
set_option maxHeartbeats 2000000 in
theorem doM_out (w : World) (mb n cap : Nat) (A : Option Addr) (th : Int) (x : Ask) (hM : w.heap[mb]? = some (.cells #[.int .i64 th, .slice A n cap] 56 (0, 0))) (hx : x.obj < 0 ∨ (n : Int) ≤ x.obj) :
    Calls Tryd.prog 9 #[.pointer (some ⟨mb, 0, none⟩), .agg #[.int .i64 x.who, .int .i64 x.obj, .int .i64 x.call, .int .i64 x.part, .int .u32 x.arg, .int .u32 x.val]] w fun e w' => e = .returned (.tuple #[.agg #[.int .u32 0, .slice none 0 0], .bool false]) ∧ Below w.heap.size w w' := by
  have hmlt : mb < w.heap.size := (Array.getElem?_eq_some_iff.1 hM).1
  have m1 : w.cell? ⟨mb, 1, none⟩ = some (.slice A n cap) := cell_of_row w mb 1 _ _ _ hM
  obtain ⟨bX, bZ, bB, bS⟩ := blk2 w (.cells #[.int .i64 x.who, .int .i64 x.obj, .int .i64 x.call, .int .i64 x.part, .int .u32 x.arg, .int .u32 x.val] 32) (.cells #[.int .u32 0, .slice none 0 0] 50)
  have HB := Lib.hid bB
  have HZ := Lib.hid bZ
  clear hM bX bZ bB bS
  by_cases h0 : x.obj < 0
  · have f1 : decide (x.obj < 0) = true := decide_eq_true h0
    clear h0
    go_enter Tryd.func9, Tryd.ntmps9
    go_wp2_with fail
    go_quiet (fail)
    go_wp2_with (go_at_call 13; refine (not_any _).mono ?_; rintro e wF ⟨rfl, hbF⟩; have hk := keepC hbF (Nat.le_refl _); have hf := keepF hbF (Nat.le_refl _))
    have bZF : wF.heap[w.heap.size + 1]? = some (.cells #[.int .u32 0, .slice none 0 0] 50) := (hbF.block _ (by simp)).trans HZ.out
    refine bodyPost_ret (results_ans2 rfl _ _ (w.heap.size + 1) _ _ (set2_row bZF _ _) rfl) rfl ?_
    exact ⟨rfl, set2_below (HB.out.trans ⟨hbF.os, hbF.tape, hbF.output, hbF.size, fun k hk => hbF.block k (Nat.lt_of_lt_of_le hk HB.out.size)⟩) (by omega) _ _⟩
  · have f1 : decide (x.obj < 0) = false := decide_eq_false h0
    have f2 : decide ((n : Int) ≤ x.obj) = true := decide_eq_true (by omega)
    clear h0
    go_enter Tryd.func9, Tryd.ntmps9
    go_wp2_with fail
    go_quiet (fail)
    go_wp2_with (go_at_call 13; refine (not_any _).mono ?_; rintro e wF ⟨rfl, hbF⟩; have hk := keepC hbF (Nat.le_refl _); have hf := keepF hbF (Nat.le_refl _))
    have bZF : wF.heap[w.heap.size + 1]? = some (.cells #[.int .u32 0, .slice none 0 0] 50) := (hbF.block _ (by simp)).trans HZ.out
    refine bodyPost_ret (results_ans2 rfl _ _ (w.heap.size + 1) _ _ (set2_row bZF _ _) rfl) rfl ?_
    exact ⟨rfl, set2_below (HB.out.trans ⟨hbF.os, hbF.tape, hbF.output, hbF.size, fun k hk => hbF.block k (Nat.lt_of_lt_of_le hk HB.out.size)⟩) (by omega) _ _⟩
/-- What a machine does with a call, whatever it is. -/
theorem doM_any (w : World) (T : TabO w) (mb B g : Nat) (th : Int) (S : List St) (hM : MachI w mb B g th S) (x : Ask) (hx0 : 0 ≤ x.arg) (hx1 : x.arg ≤ 4294967295) (i : Nat) (hi : i ≤ 1000) (hS : ∀ s ∈ S, SmallT i s) :
    Calls Tryd.prog 9 #[.pointer (some ⟨mb, 0, none⟩), .agg #[.int .i64 x.who, .int .i64 x.obj, .int .i64 x.call, .int .i64 x.part, .int .u32 x.arg, .int .u32 x.val]] w (DPost w mb B g th (doAt th S x)) := by
  have hM0 := hM
  obtain ⟨hBg, hgl, A, cap, hR, hseg⟩ := hM0
  have out : (x.obj < 0 ∨ (S.length : Int) ≤ x.obj) → doAt th S x = (none, S) → Calls Tryd.prog 9 #[.pointer (some ⟨mb, 0, none⟩), .agg #[.int .i64 x.who, .int .i64 x.obj, .int .i64 x.call, .int .i64 x.part, .int .u32 x.arg, .int .u32 x.val]] w (DPost w mb B g th (doAt th S x)) := fun h e => by
    rw [e]
    refine (doM_out w mb S.length cap A th x hR h).mono ?_
    rintro e w' ⟨rfl, hb⟩
    exact ⟨_, rfl, rd_nil _ _, hM.keep hb (Nat.le_refl _), Only.of_below hb (Nat.le_refl _)⟩
  by_cases h0 : 0 ≤ x.obj
  · cases hs : S[x.obj.toNat]? with
    | none => exact out (.inr (by rw [List.getElem?_eq_none_iff] at hs; omega)) (by unfold doAt; rw [if_pos h0, hs])
    | some s =>
      have e : doAt th S x = ((doOb th s x).1, S.set x.obj.toNat (doOb th s x).2) := by unfold doAt; rw [if_pos h0, hs]
      rw [e]
      obtain ⟨hA, hsg⟩ := hseg _ s hs
      subst hA
      have hj := (List.getElem?_eq_some_iff.1 hs).1
      obtain ⟨who, obj, call, part, arg, val⟩ := x
      dsimp only at *
      obtain ⟨j, rfl⟩ : ∃ j : Nat, obj = j := ⟨obj.toNat, by omega⟩
      simp only [Int.toNat_natCast] at *
      refine (doM_one w T mb g 0 S.length cap j th s who call part arg val hR hsg hj hx0 hx1 i hi (hS s (List.mem_of_getElem? hs))).mono ?_
      rintro e w' ⟨dv, rfl, h1, h2, hU⟩
      exact ⟨dv, rfl, h1, MachI.upd hM hs hU, hU.1⟩
  · exact out (.inl (by omega)) (by unfold doAt; rw [if_neg h0])
theorem small_at {i : Nat} {S : List St} (th : Int) (x : Ask) (h : ∀ s ∈ S, SmallT i s) : ∀ s ∈ (doAt th S x).2, SmallT (i + 1) s := by
  unfold doAt
  split
  · cases hs : S[x.obj.toNat]? with
    | none => exact fun s hs => (h s hs).mono (Nat.le_succ i)
    | some s =>
      intro q hq
      rcases List.mem_or_eq_of_mem_set hq with hq | rfl
      · exact (h q hq).mono (Nat.le_succ i)
      · exact small_step th x (h s (List.mem_of_getElem? hs))
  · exact fun s hs => (h s hs).mono (Nat.le_succ i)

end Go.Proofs.YtfemeiopfpblaaaDoor.As
