/- A new builder, and the code that it answers. -/
import Derived.Test.YtackbadmcgjncaaGreatDoorBatB
import Derived.Test.YtackbadmcgjncaaGreatDoorFill2
import Derived.Test.YtackbadmcgjncaaGreatDoorSpinM
set_option linter.unusedVariables false
namespace Go.Proofs.YtackbadmcgjncaaGreatDoor.As
open Go.RowKit

abbrev zeroB : Obj := .cells #[.slice none 0 0, .map none, .slice none 0 0, .bool false] 70 (0, 0)
theorem bld_zero (w : World) : Bld (w.alloc zeroB) w.heap.size BS.zero (fun k => k = w.heap.size) := by
  refine ⟨⟨Nat.le_refl _, fun p hp => (by cases hp), fun p hp => (by cases hp)⟩, .slice none 0 0, .map none, .slice none 0 0, heap_alloc_new _ _, World.ownsRow_nil _ _ _ _, World.ownsRow_nil _ _ _ _, .inl ⟨rfl, rfl⟩, fun k => ?_⟩
  simp [mapBlock, Value.ownBlock]
theorem Bat.below {w0 w w' : World} {F0 : Nat → Prop} {g N : Nat} {s : BS} (h : Bat w0 F0 g N s w) (hb : Below w.heap.size w w') : Bat w0 F0 g N s w' := by
  obtain ⟨F, h1, hs, h2, h3⟩ := h
  exact ⟨F, ⟨h1.good, mem_below h1.mem hb (Nat.le_refl _)⟩, hs.trans (Step.of_below hb (Nat.le_refl _)), h2, h3⟩
theorem new_keep {w w1 : World} {x : Obj} (hb : Below (w.alloc x).heap.size (w.alloc x) w1) : w1.heap[w.heap.size]? = some x := (hb.block _ (by simp)).trans (heap_alloc_new _ _)
theorem obj_keep {w1 w' : World} {g : Nat} {x : Obj} (h : w1.heap[g]? = some x) (hb : Below w1.heap.size w1 w') : w'.heap[g]? = some x := (hb.block g (Array.getElem?_eq_some_iff.1 h).1).trans h
theorem cells4 {w : World} {n : Nat} {a b c d : Value} {t : TypeId} (h : w.heap[n]? = some (.cells #[a, b, c, d] t (0, 0))) :
    w.cell? ⟨n, 0, none⟩ = some a ∧ w.cell? ⟨n, 1, none⟩ = some b ∧ w.cell? ⟨n, 2, none⟩ = some c ∧ w.cell? ⟨n, 3, none⟩ = some d := by
  have c0 := cell_of_row w n 0 _ _ _ h
  have c1 := cell_of_row w n 1 _ _ _ h
  have c2 := cell_of_row w n 2 _ _ _ h
  have c3 := cell_of_row w n 3 _ _ _ h
  exact ⟨c0, c1, c2, c3⟩
/-- What is kept of the world ahead of a builder. -/
structure Since (w1 w' : World) : Prop where
  tabI : TabI w1 → TabI w'
  tabO : TabO w1 → TabO w'
  below : Below w1.heap.size w1 w'
theorem bat_zero (w1 : World) : Bat (w1.alloc zeroB) (fun k => k = w1.heap.size) w1.heap.size 0 BS.zero (w1.alloc zeroB) :=
  Bat.start (bld_zero w1) (Nat.le_refl _) (Nat.le_refl _)
theorem Bat.since {w1 w' : World} {N : Nat} {s : BS} (h : Bat (w1.alloc zeroB) (fun k => k = w1.heap.size) w1.heap.size N s w') : Since w1 w' := by
  obtain ⟨F, hb, hs, _, _⟩ := h
  have ha : Below w1.heap.size w1 (w1.alloc zeroB) := (Below.refl _ w1).alloc (Nat.le_refl _) _
  have hB : Below w1.heap.size w1 w' := ha.trans (hs.1.below (by simp) (fun k e => by omega))
  exact ⟨fun T => T.below hB (Nat.le_refl _), fun T => T.below hB (Nat.le_refl _), hB⟩
theorem own_base' {w : World} {b0 b1 : Nat} {e : TypeId} {size n : Nat} {v : Value} {xs : List Value} (h : w.ownsRow b1 e size v n xs) (hb : b0 ≤ b1) : w.ownsRow b0 e size v n xs := by
  refine ⟨h.1, ?_⟩
  rcases h.2 with h | ⟨g, cap, cs, e1, e2, e3⟩
  · exact .inl h
  · exact .inr ⟨g, cap, cs, e1, Nat.le_trans hb e2, e3⟩
/-- What the code of lines is answered as. -/
def CodeOk (w : World) (b : List Ln) (e : Ending) (w' : World) : Prop := (∃ v, e = .returned (.tuple #[v, .bool true]) ∧ w'.ownsRow w.heap.size 63 5 v (resL b).length (flat (resL b))) ∧ Below w.heap.size w w'
theorem run_len : ∀ (b : List Ln) (s : BS), (s.run b).code.length ≤ s.code.length + b.length
  | [], s => Nat.le_refl _
  | .lab m :: r, s => by
    have h := run_len r (s.add (.lab m))
    have e : (s.add (.lab m)).code.length = s.code.length := by
      show (s.at_ m).code.length = _
      unfold BS.at_; split <;> rfl
    rw [e] at h
    rw [BS.run, List.length_cons]; omega
  | .ins i [] :: r, s => by
    have h := run_len r (s.add (.ins i []))
    have e : (s.add (.ins i [])).code.length = s.code.length + 1 := by show (s.do_ i).code.length = _; simp [BS.do_]
    rw [e] at h
    rw [BS.run, List.length_cons]; omega
  | .ins i (c :: to) :: r, s => by
    have h := run_len r (s.add (.ins i (c :: to)))
    have e : (s.add (.ins i (c :: to))).code.length = s.code.length + 1 := by show (s.go_ i.op i.a (c :: to)).code.length = _; simp [BS.go_]
    rw [e] at h
    rw [BS.run, List.length_cons]; omega
theorem code_at {w1 w : World} {N : Nat} {b : List Ln} {s : BS} (h : Bat (w1.alloc zeroB) (fun k => k = w1.heap.size) w1.heap.size N s w) (hs : s = BS.zero.run b) (T : TabI w1) (H : OkL b) :
    Calls Tryz.prog 25 #[.pointer (some ⟨w1.heap.size, 0, none⟩)] w (CodeOk w1 b) := by
  have hS := h.since
  obtain ⟨F, hb, _, h1, _⟩ := h
  have hlen := run_len b BS.zero
  have hfew := H.few
  refine (code_any w w1.heap.size s F hb (hS.tabI T) (by rw [hs]; have : BS.zero.code.length = 0 := rfl; omega) (by rw [hs]; intro p hp; have := links_run H p hp; unfold maxLen; omega)).mono ?_
  rintro e w' ⟨hB, h2⟩
  rcases h2 with ⟨h2, _⟩ | ⟨l, v, h2, rfl, hown⟩
  · rw [hs, out_run H] at h2; cases h2
  · rw [hs, out_run H] at h2
    injection h2 with h2
    subst h2
    exact ⟨⟨v, rfl, own_base' hown hS.below.size⟩, hS.below.trans (hB.mono hS.below.size)⟩
theorem owner_any (w : World) (k n a b m : Int) (hm : ownerI k = m) : Calls Tryz.prog 48 #[.agg #[.int .i64 k, .int .i64 n, .int .i64 a, .int .i64 b]] w fun e w' => e = .returned (.int .i64 m) ∧ Below w.heap.size w w' := by
  have HR := Lib.hid hm
  clear hm
  go_enter Tryz.func48, Tryz.ntmps48
  go_wp2_with fail
  all_goals go_ret
  all_goals refine ⟨congrArg (fun x => Ending.returned (.int .i64 x)) ?_, (Below.refl _ w).alloc (Nat.le_refl _) _⟩
  all_goals rw [← HR.out]
  all_goals clear HR
  all_goals simp only [beq_iff_eq, beq_eq_false_iff_ne, ne_eq] at *
  all_goals unfold ownerI
  all_goals repeat' split
  all_goals omega
end Go.Proofs.YtackbadmcgjncaaGreatDoor.As
