/- Memory: what a call leaves alone; readable slices; which objects there may be, and what may be asked of them: the walks of obj, spin.May, deadlatchref14, deadlatchref15.May. -/
import Derived.Test.YtfemeiopfpblaaaDoorRows
import Derived.WalkKit
import Derived.WalkSpells
import Derived.WalkLawsBesides
import Derived.Outline
import Derived.Laws.EntriesVeiled
import Derived.Laws.NewBlocks
import Derived.Laws.Rows
import Derived.Lib.Hide
import Derived.Handy
import Derived.Deep.AppendLies
import Derived.Deep.RegionLaw
import Derived.Deep.DeepFit
import Derived.Maps.Own
import Derived.Maps.OwnOps
import Derived.Maps.OwnSet
import Derived.Maps.Views
import Derived.StringKeys
import Derived.StillTailTactics
import Derived.BigQuiet
import Derived.Deep.QuietTactic
import Derived.Deep.LoopGhost
import Derived.Deep.RegionWith
import Derived.Deep.RegionHeld
import Derived.Laws.IdiomStrings
set_option linter.unusedVariables false
set_option linter.unusedSimpArgs false
set_option maxRecDepth 4000
namespace Go.Proofs.YtfemeiopfpblaaaDoor.As
open Go.RowKit

abbrev B8 := List UInt8

/-! ### What a call leaves alone -/
/-- Only the blocks of F, and new ones, have turned. -/
structure Only (F : Nat → Prop) (w w' : World) : Prop where
  os : w'.os = w.os
  tape : w'.tape = w.tape
  output : w'.output = w.output
  size : w.heap.size ≤ w'.heap.size
  block : ∀ k, k < w.heap.size → ¬ F k → w'.heap[k]? = w.heap[k]?
/-- .. and what is owned behind it is of F, or new. -/
structure Step (F : Nat → Prop) (w : World) (F' : Nat → Prop) (w' : World) : Prop where
  only : Only F w w'
  foot : ∀ k, F' k → F k ∨ w.heap.size ≤ k

theorem Only.refl (F : Nat → Prop) (w : World) : Only F w w := ⟨rfl, rfl, rfl, Nat.le_refl _, fun _ _ _ => rfl⟩
theorem Only.trans {F F' : Nat → Prop} {a b c : World} (h : Only F a b) (k : Only F' b c) (hf : ∀ i, F' i → F i ∨ a.heap.size ≤ i) : Only F a c :=
  ⟨k.os.trans h.os, k.tape.trans h.tape, k.output.trans h.output, Nat.le_trans h.size k.size, fun i hi hn =>
    (k.block i (Nat.lt_of_lt_of_le hi h.size) (fun e => by rcases hf i e with e | e; exact hn e; omega)).trans (h.block i hi hn)⟩
theorem Step.trans {F F' F'' : Nat → Prop} {a b c : World} (h : Step F a F' b) (k : Step F' b F'' c) : Step F a F'' c :=
  ⟨h.only.trans k.only h.foot, fun i hi => by
    rcases k.foot i hi with e | e
    · exact h.foot i e
    · exact .inr (Nat.le_trans h.only.size e)⟩
theorem Only.of_below {B : Nat} {F : Nat → Prop} {w w' : World} (h : Below B w w') (hB : w.heap.size ≤ B) : Only F w w' := ⟨h.os, h.tape, h.output, h.size, fun k hk _ => h.block k (by omega)⟩
theorem Only.below {B : Nat} {F : Nat → Prop} {w w' : World} (h : Only F w w') (hB : B ≤ w.heap.size) (hF : ∀ k, F k → B ≤ k) : Below B w w' :=
  ⟨h.os, h.tape, h.output, h.size, fun k hk => h.block k (by omega) (fun e => by have := hF k e; omega)⟩
theorem Only.mono {F F' : Nat → Prop} {w w' : World} (h : Only F w w') (hF : ∀ k, F k → F' k) : Only F' w w' := ⟨h.os, h.tape, h.output, h.size, fun k hk hn => h.block k hk (fun e => hn (hF k e))⟩
theorem Step.of_below {B : Nat} {F : Nat → Prop} {w w' : World} (h : Below B w w') (hB : w.heap.size ≤ B) : Step F w F w' := ⟨Only.of_below h hB, fun _ e => .inl e⟩
theorem Step.below {B : Nat} {F F' : Nat → Prop} {w w' : World} (h : Step F w F' w') (hB : B ≤ w.heap.size) (hF : ∀ k, F k → B ≤ k) : Below B w w' ∧ ∀ k, F' k → B ≤ k :=
  ⟨h.only.below hB hF, fun k hk => by rcases h.foot k hk with e | e; exact hF k e; omega⟩


theorem own_lt {w : World} {base : Nat} {e : TypeId} {size n : Nat} {v : Value} {xs : List Value} (h : w.ownsRow base e size v n xs) (k : Nat) (hk : v.ownBlock = some k) : k < w.heap.size := (h.lt k hk).2
/-- A row stays what it is while other blocks turn. -/
theorem own_only {w w' : World} {F : Nat → Prop} {base : Nat} {e : TypeId} {size n : Nat} {v : Value} {xs : List Value} (h : w.ownsRow base e size v n xs) (ho : Only F w w') (hn : ∀ k, v.ownBlock = some k → ¬ F k) : w'.ownsRow base e size v n xs := by
  refine ⟨h.1, ?_⟩
  rcases h.2 with h0 | ⟨g, cap, cur, rfl, hb, hgg, rest⟩
  · exact .inl h0
  · exact .inr ⟨g, cap, cur, rfl, hb, (ho.block g (Array.getElem?_eq_some_iff.1 hgg).1 (hn g rfl)).trans hgg, rest⟩


theorem add_at (b off j : Nat) : (⟨b, off, none⟩ : Addr).add j = ⟨b, off + j, none⟩ := by unfold Addr.add; split <;> simp_all
/-- The slice value v of n elements, of so many cells each, reads as the cells xs. -/
def Rd (w : World) (size : Nat) (v : Value) (n : Nat) (xs : List Value) : Prop :=
  ∃ A cap, v = .slice A n cap ∧ n ≤ cap ∧ xs.length = n * size ∧ ((A = none ∧ n = 0) ∨ ∃ b off, A = some ⟨b, off, none⟩ ∧ b < w.heap.size ∧ ∀ j u, xs[j]? = some u → w.cell? ⟨b, off + j, none⟩ = some u)
theorem Rd.of_own {w : World} {base : Nat} {e : TypeId} {size : Nat} {v : Value} {n : Nat} {xs : List Value} (h : w.ownsRow base e size v n xs) : Rd w size v n xs := by
  rcases h.2 with ⟨rfl, rfl⟩ | ⟨g, cap, cur, rfl, _, hh, hc, _⟩
  · exact ⟨none, 0, rfl, Nat.le_refl _, h.1, .inl ⟨rfl, rfl⟩⟩
  · exact ⟨some ⟨g, 0, none⟩, cap, rfl, hc, h.1, .inr ⟨g, 0, rfl, (Array.getElem?_eq_some_iff.1 hh).1, fun j u hu => by rw [← add_at]; exact h.cells (g := g) rfl j u hu⟩⟩
theorem Rd.keep {w w' : World} {size : Nat} {v : Value} {n : Nat} {xs : List Value} (h : Rd w size v n xs) (hz : w.heap.size ≤ w'.heap.size) (hk : ∀ b off cap, v = .slice (some ⟨b, off, none⟩) n cap → w'.heap[b]? = w.heap[b]?) : Rd w' size v n xs := by
  obtain ⟨A, cap, rfl, hc, hl, h⟩ := h
  refine ⟨A, cap, rfl, hc, hl, ?_⟩
  rcases h with h | ⟨b, off, rfl, hb, h⟩
  · exact .inl h
  · exact .inr ⟨b, off, rfl, Nat.lt_of_lt_of_le hb hz, fun j u hu => (World.cell?_of_block (w := w) (a := ⟨b, off + j, none⟩) (hk b off cap rfl)).trans (h j u hu)⟩
theorem Rd.lt {w : World} {size : Nat} {n cap b off : Nat} {xs : List Value} (h : Rd w size (.slice (some ⟨b, off, none⟩) n cap) n xs) : b < w.heap.size := by
  obtain ⟨A, cap', e, _, _, h⟩ := h
  injection e with e1 e2 e3
  subst e1
  rcases h with ⟨h, _⟩ | ⟨b', off', h, hb, _⟩
  · cases h
  · injection h with h; injection h with h1 h2; subst h1; exact hb
theorem Rd.below {w w' : World} {B size : Nat} {v : Value} {n : Nat} {xs : List Value} (h : Rd w size v n xs) (hb : Below B w w') (hB : w.heap.size ≤ B) : Rd w' size v n xs :=
  h.keep hb.size (fun b off cap e => by subst e; exact hb.block b (Nat.lt_of_lt_of_le h.lt hB))
theorem Rd.drew {w : World} {size : Nat} {v : Value} {n : Nat} {xs : List Value} (h : Rd w size v n xs) : Rd w.drew size v n xs := h
theorem Rd.alloc {w : World} {size : Nat} {v : Value} {n : Nat} {xs : List Value} (h : Rd w size v n xs) (o : Obj) : Rd (w.alloc o) size v n xs := h.below ((Below.refl w.heap.size w).alloc (Nat.le_refl _) o) (Nat.le_refl _)
theorem Rd.len {w : World} {size : Nat} {v : Value} {n : Nat} {xs : List Value} (h : Rd w size v n xs) : xs.length = n * size := by
  obtain ⟨A, cap, rfl, hc, hl, h⟩ := h; exact hl
theorem Rd.form {w : World} {size : Nat} {v : Value} {n : Nat} {xs : List Value} (h : Rd w size v n xs) : ∃ A cap, v = .slice A n cap := by
  obtain ⟨A, cap, rfl, _⟩ := h; exact ⟨A, cap, rfl⟩
/-- The cells of what is read. -/
theorem Rd.cells {w : World} {size : Nat} {n cap : Nat} {A : Option Addr} {xs : List Value} (h : Rd w size (.slice A n cap) n xs) (hn : 0 < n) : ∃ b off, A = some ⟨b, off, none⟩ ∧ b < w.heap.size ∧ ∀ j u, xs[j]? = some u → w.cell? ⟨b, off + j, none⟩ = some u := by
  obtain ⟨A', cap', e, hc, hl, h⟩ := h
  injection e with e1 e2 e3
  subst e1
  rcases h with ⟨_, h⟩ | h
  · omega
  · exact h


theorem flatMap_get {α : Type} (f : α → List Value) (n : Nat) (hf : ∀ x, (f x).length = n) : ∀ (l : List α) (i : Nat) (x : α), l[i]? = some x → ∀ j, j < n → (l.flatMap f)[i * n + j]? = (f x)[j]?
  | [], i, x, h, j, hj => by simp at h
  | y :: r, 0, x, h, j, hj => by
    have e : y = x := by simpa using h
    subst e
    rw [List.flatMap_cons, Nat.zero_mul, Nat.zero_add, List.getElem?_append_left (by rw [hf]; exact hj)]
  | y :: r, i + 1, x, h, j, hj => by
    have e : r[i]? = some x := by simpa using h
    rw [List.flatMap_cons, List.getElem?_append_right (by rw [hf, Nat.succ_mul]; omega), hf, show (i + 1) * n + j - n = i * n + j from by rw [Nat.succ_mul]; omega]
    exact flatMap_get f n hf r i x e j hj
theorem flatMap_len {α : Type} (f : α → List Value) (n : Nat) (hf : ∀ x, (f x).length = n) : ∀ (l : List α), (l.flatMap f).length = l.length * n
  | [] => by simp
  | y :: r => by rw [List.flatMap_cons, List.length_append, hf, flatMap_len f n hf r, List.length_cons, Nat.succ_mul]; omega

theorem bl_drewN {B : Nat} {a w : World} (h : Below B a w) (n : Nat) : Below B a (w.drewN n) := ⟨h.os, h.tape, h.output, h.size, h.block⟩

theorem keepB {W w' : World} {B : Nat} (hb : Below B W w') (hB : W.heap.size ≤ B) : ∀ b, b < W.heap.size → w'.cell? ⟨b, 0, none⟩ = W.cell? ⟨b, 0, none⟩ := fun b h => World.cell?_of_block (w := W) (a := ⟨b, 0, none⟩) (hb.block b (by omega))
theorem bl_drew {B : Nat} {a w : World} (h : Below B a w) : Below B a w.drew := ⟨h.os, h.tape, h.output, h.size, h.block⟩



/-- Which word tells who has an object. -/
def ownerI (k : Int) : Int := if k = 1 ∨ k = 2 then 0 else if k = 4 ∨ k = 5 ∨ k = 9 ∨ k = 10 ∨ k = 15 then 1 else if k = 3 ∨ k = 7 then 2 else if k = 6 ∨ k = 8 then 3 else -1
/-- The kinds' names. -/
def kindNames : List B8 := [[], [116, 97, 115], [116, 116, 97, 115], [116, 105, 99, 107, 101, 116], [109, 99, 115], [99, 108, 104], [112, 101, 116, 101, 114, 115, 111, 110], [100, 101, 107, 107, 101, 114], [98, 105, 97, 115], [115, 101, 113], [109, 117, 116, 101, 120], [115, 101, 109], [99, 111, 110, 100], [98, 97, 114, 114, 105, 101, 114], [114, 119], [111, 110, 99, 101]]
def kindName (k : Int) : B8 := if 1 ≤ k ∧ k < 16 then kindNames.getD k.toNat [] else []
structure TabO (w : World) : Prop where
  names : ∀ i : Nat, i < 16 → w.cell? ⟨0, i, none⟩ = some (.string ⟨(kindNames.getD i []).toArray⟩)
theorem TabO.lt {w : World} (h : TabO w) : 0 < w.heap.size := block_lt_of_cell (h.names 0 (by decide))
theorem TabO.only {w w' : World} {F : Nat → Prop} (h : TabO w) (ho : Only F w w') (hF : ∀ k, F k → k ≠ 0) : TabO w' :=
  ⟨fun i hi => (World.cell?_of_block (w := w) (a := ⟨0, i, none⟩) (ho.block _ h.lt (fun e => hF _ e rfl))).trans (h.names i hi)⟩
theorem TabO.below {B : Nat} {w w' : World} (h : TabO w) (hb : Below B w w') (hB : w.heap.size ≤ B) : TabO w' := h.only (Only.of_below (F := fun _ => False) hb hB) (fun _ e => e.elim)
/-- May there be such an object? -/
def RightP (k n a b th : Int) : Prop := 1 ≤ th ∧ th ≤ 8 ∧ (((k = 6 ∨ k = 7) ∧ n = 0 ∧ 0 ≤ a ∧ a < th ∧ 0 ≤ b ∧ b < th ∧ a ≠ b) ∨ (k = 8 ∧ n = 0 ∧ 0 ≤ a ∧ a < th ∧ b = 0) ∨ (k = 9 ∧ 1 ≤ n ∧ n ≤ 3 ∧ a = 0 ∧ b = 0) ∨
  (k = 11 ∧ 1 ≤ a ∧ a ≤ 1000 ∧ 0 ≤ n ∧ n ≤ a ∧ b = 0) ∨ (k = 13 ∧ 1 ≤ n ∧ n ≤ th ∧ a = 0 ∧ b = 0) ∨ (((1 ≤ k ∧ k ≤ 5) ∨ k = 10 ∨ k = 12 ∨ k = 14 ∨ k = 15) ∧ n = 0 ∧ a = 0 ∧ b = 0))
instance (k n a b th : Int) : Decidable (RightP k n a b th) := by unfold RightP; infer_instance

theorem kindName_ne : ∀ k : Nat, k < 16 → 1 ≤ k → kindNames.getD k [] ≠ [] := by decide
theorem kname_any (w : World) (T : TabO w) (k : Int) : Calls Tryd.prog 24 #[.int .i64 k] w fun e w' => (∃ s : ByteArray, e = .returned (.string s) ∧ s.data.toList = kindName k) ∧ w' = w := by
  by_cases h1 : k < 1
  · go_enter Tryd.func24, Tryd.ntmps24
    go_wp2_with fail
    go_ret
    exact ⟨⟨_, rfl, by unfold kindName; rw [if_neg (by omega)]⟩, rfl⟩
  · by_cases h2 : 16 ≤ k
    · go_enter Tryd.func24, Tryd.ntmps24
      go_wp2_with fail
      go_ret
      exact ⟨⟨_, rfl, by unfold kindName; rw [if_neg (by omega)]⟩, rfl⟩
    · obtain ⟨m, rfl⟩ : ∃ m : Nat, k = m := ⟨k.toNat, by omega⟩
      have hc := T.names m (by omega)
      have hm : m < 16 := by omega
      go_enter Tryd.func24, Tryd.ntmps24
      go_wp2_with fail
      go_ret
      exact ⟨⟨_, rfl, by unfold kindName; rw [if_pos (by omega)]; rfl⟩, rfl⟩
theorem kname_yes {k : Int} {s : ByteArray} (h : 1 ≤ k ∧ k < 16) (hs : s.data.toList = kindName k) : s.toList.isEmpty = false := by
  rw [ByteArray.toList_eq, hs]
  unfold kindName
  rw [if_pos h]
  exact List.isEmpty_eq_false_iff.2 (kindName_ne k.toNat (by omega) (by omega))
theorem kname_no {k : Int} {s : ByteArray} (h : ¬ (1 ≤ k ∧ k < 16)) (hs : s.data.toList = kindName k) : s.toList.isEmpty = true := by
  rw [ByteArray.toList_eq, hs]
  unfold kindName
  rw [if_neg h]; rfl
theorem in_any (w : World) (n lo hi : Int) : Calls Tryd.prog 23 #[.int .i64 n, .int .i64 lo, .int .i64 hi] w fun e w' => e = .returned (.bool (decide (lo ≤ n ∧ n ≤ hi))) ∧ w' = w := by
  by_cases h1 : n ≥ lo
  · by_cases h2 : n ≤ hi
    · have e : decide (lo ≤ n ∧ n ≤ hi) = true := decide_eq_true ⟨h1, h2⟩
      rw [e]
      go_enter Tryd.func23, Tryd.ntmps23
      go_wp2_with fail
      go_ret
      exact ⟨rfl, rfl⟩
    · have e : decide (lo ≤ n ∧ n ≤ hi) = false := decide_eq_false (by omega)
      rw [e]
      go_enter Tryd.func23, Tryd.ntmps23
      go_wp2_with fail
      go_ret
      exact ⟨rfl, rfl⟩
  · have e : decide (lo ≤ n ∧ n ≤ hi) = false := decide_eq_false (by omega)
    rw [e]
    go_enter Tryd.func23, Tryd.ntmps23
    go_wp2_with fail
    go_ret
    exact ⟨rfl, rfl⟩

theorem kname_iff {k : Int} {s : ByteArray} (hs : s.data.toList = kindName k) : s.toList.isEmpty = !decide (1 ≤ k ∧ k < 16) := by
  by_cases h : 1 ≤ k ∧ k < 16
  · rw [kname_yes h hs, decide_eq_true h]; rfl
  · rw [kname_no h hs, decide_eq_false h]; rfl



set_option linter.unusedSimpArgs false in
set_option maxHeartbeats 40000000 in
theorem right_any (w : World) (T : TabO w) (k n a b th : Int) : Calls Tryd.prog 11 #[.agg #[.int .i64 k, .int .i64 n, .int .i64 a, .int .i64 b], .int .i64 th] w fun e w' => e = .returned (.bool (decide (RightP k n a b th))) ∧ Below w.heap.size w w' := by
  obtain ⟨r, hr⟩ : ∃ r, r = decide (RightP k n a b th) := ⟨_, rfl⟩
  rw [← hr]
  have HR := Lib.hid hr
  clear hr
  have ha : ∀ o, Below w.heap.size w (w.alloc o) := fun o => (Below.refl _ w).alloc (Nat.le_refl _) o
  have TA : ∀ o, TabO (w.alloc o) := fun o => T.below (ha o) (Nat.le_refl _)
  by_cases hth : 1 ≤ th ∧ th ≤ 8
  · have f1 : IntKind.i64.wrap (th - 1) = th - 1 := by rw [IntKind.wrap_i64]; omega
    go_enter Tryd.func11, Tryd.ntmps11
    go_wp2_with (first
      | (go_at_call 23; refine (in_any _ _ _ _).mono ?_; rintro e w1 ⟨rfl, rfl⟩)
      | (go_at_call 24; refine (kname_any _ (TA _) _).mono ?_; rintro e w1 ⟨⟨s, rfl, hs⟩, rfl⟩; have hs0 := kname_iff hs; clear hs))
    all_goals go_ret
    all_goals refine ⟨congrArg (fun x => Ending.returned (.bool x)) ?_, ha _⟩
    all_goals rw [HR.out]
    all_goals clear HR TA ha f1 T
    all_goals rw [Bool.eq_iff_iff, decide_eq_true_iff (p := RightP _ _ _ _ _)]
    all_goals unfold RightP
    all_goals simp only [beq_iff_eq, beq_eq_false_iff_ne, ne_eq, decide_eq_true_eq, Bool.false_eq_true, true_iff, false_iff, Bool.or_eq_true, Bool.and_eq_true, bne_iff_ne, bne_eq_false_iff_eq, Bool.not_eq_true', decide_eq_false_iff_not] at *
    all_goals omega
  · have hv : r = false := by rw [HR.out]; exact decide_eq_false (by unfold RightP; omega)
    subst hv
    go_enter Tryd.func11, Tryd.ntmps11
    by_cases h1 : th < 1
    · have d1 : decide (th < 1) = true := decide_eq_true h1
      go_wp2_with fail
      go_ret
      exact ⟨rfl, ha _⟩
    · have h2 : 8 < th := by omega
      have d1 : decide (th < 1) = false := decide_eq_false h1
      have d2 : decide (8 < th) = true := decide_eq_true h2
      go_wp2_with fail
      go_ret
      exact ⟨rfl, ha _⟩



/-- May a call be asked of a kind? -/
def MayP (k c : Int) : Prop := (k = 9 ∧ 1 ≤ c ∧ c ≤ 4) ∨ (k = 12 ∧ 5 ≤ c ∧ c ≤ 8) ∨ (k = 13 ∧ c = 9) ∨ (k = 14 ∧ 1 ≤ c ∧ c ≤ 3) ∨ (k = 15 ∧ (c = 9 ∨ c = 10)) ∨ (1 ≤ k ∧ k ≤ 11 ∧ k ≠ 9 ∧ (c = 1 ∨ c = 2))
instance (k c : Int) : Decidable (MayP k c) := by unfold MayP; infer_instance
set_option maxHeartbeats 4000000 in
theorem refMay_any (w : World) (k c : Int) : Calls Tryd.prog 36 #[.int .i64 k, .int .i64 c] w fun e w' => e = .returned (.bool (decide (MayP k c))) ∧ w' = w := by
  obtain ⟨r, hr⟩ : ∃ r, r = decide (MayP k c) := ⟨_, rfl⟩
  rw [← hr]
  have HR := Lib.hid hr
  clear hr
  go_enter Tryd.func36, Tryd.ntmps36
  go_wp2_with fail
  all_goals (try go_wp2_with fail)
  all_goals go_ret
  all_goals refine ⟨congrArg (fun x => Ending.returned (.bool x)) ?_, rfl⟩
  all_goals rw [HR.out]
  all_goals clear HR
  all_goals rw [Bool.eq_iff_iff, decide_eq_true_iff (p := MayP _ _)]
  all_goals unfold MayP
  all_goals simp only [beq_iff_eq, beq_eq_false_iff_ne, ne_eq, decide_eq_true_eq, Bool.false_eq_true, true_iff, false_iff, Bool.or_eq_true] at *
  all_goals omega


set_option linter.unusedSimpArgs false in
set_option maxHeartbeats 40000000 in
theorem refRight_any (w : World) (k n a b th : Int) : Calls Tryd.prog 35 #[.agg #[.int .i64 k, .int .i64 n, .int .i64 a, .int .i64 b], .int .i64 th] w fun e w' => e = .returned (.bool (decide (RightP k n a b th))) ∧ Below w.heap.size w w' := by
  obtain ⟨r, hr⟩ : ∃ r, r = decide (RightP k n a b th) := ⟨_, rfl⟩
  rw [← hr]
  have HR := Lib.hid hr
  clear hr
  go_enter Tryd.func35, Tryd.ntmps35
  go_wp2_with fail
  all_goals (try go_quiet (fail))
  all_goals (try go_wp2_with fail)
  all_goals go_ret
  all_goals refine ⟨congrArg (fun x => Ending.returned (.bool x)) ?_, by first | exact bl_drewN ((Below.refl _ w).alloc (Nat.le_refl _) _) _ | exact (Below.refl _ w).alloc (Nat.le_refl _) _⟩
  all_goals rw [HR.out]
  all_goals clear HR
  all_goals rw [Bool.eq_iff_iff, decide_eq_true_iff (p := RightP _ _ _ _ _)]
  all_goals unfold RightP
  all_goals simp only [beq_iff_eq, beq_eq_false_iff_ne, ne_eq, decide_eq_true_eq, Bool.false_eq_true, true_iff, false_iff, Bool.or_eq_true, Bool.and_eq_true, bne_iff_ne, bne_eq_false_iff_eq] at *
  all_goals omega



theorem rd_new (w : World) (xs : List Value) (t : TypeId) (n : Nat) (hn : n = xs.length) : Rd (w.alloc (.cells xs.toArray t (0, 0))) 1 (.slice (some ⟨w.heap.size, 0, none⟩) n n) n xs := by
  subst hn
  refine ⟨some ⟨w.heap.size, 0, none⟩, xs.length, rfl, Nat.le_refl _, by omega, .inr ⟨w.heap.size, 0, rfl, by simp, fun j u hu => ?_⟩⟩
  rw [Nat.zero_add, World.cell?_alloc_mark]
  simpa using hu
/-- May a call be asked of an object by a thread? -/
def AskP (k n a b c th t : Int) : Prop := RightP k n a b th ∧ 0 ≤ t ∧ t < th ∧ MayP k c
instance (k n a b c th t : Int) : Decidable (AskP k n a b c th t) := by unfold AskP; infer_instance
def callsI (k : Int) : List Int := if k = 9 then [1, 2, 3, 4] else if k = 12 then [5, 6, 7, 8] else if k = 13 then [9] else if k = 14 then [1, 2, 3] else if k = 15 then [9, 10] else if 1 ≤ k ∧ k < 16 then [1, 2] else []
theorem callsI_may (k c : Int) : c ∈ callsI k ↔ MayP k c := by
  unfold callsI MayP
  split
  · simp; omega
  · split
    · simp; omega
    · split
      · simp; omega
      · split
        · simp; omega
        · split
          · simp; omega
          · split
            · simp; omega
            · simp; omega
theorem callsI_len (k : Int) : (callsI k).length ≤ 4 := by
  unfold callsI
  repeat' split
  all_goals simp
def CallsPost (w : World) (l : List Int) (e : Ending) (w' : World) : Prop := ∃ v, e = .returned v ∧ Rd w' 1 v l.length (l.map (.int .i64)) ∧ Below w.heap.size w w'
set_option maxHeartbeats 4000000 in
theorem calls_any (w : World) (T : TabO w) (k : Int) : Calls Tryd.prog 32 #[.int .i64 k] w (CallsPost w (callsI k)) := by
  obtain ⟨l, hl⟩ : ∃ l, l = callsI k := ⟨_, rfl⟩
  rw [← hl]
  have HL := Lib.hid hl
  clear hl
  have ha : ∀ o, Below w.heap.size w (w.alloc o) := fun o => (Below.refl _ w).alloc (Nat.le_refl _) o
  go_enter Tryd.func32, Tryd.ntmps32
  go_wp2_with (go_at_call 24; refine (kname_any _ T _).mono ?_; rintro e w1 ⟨⟨s, rfl, hs⟩, rfl⟩; have hs0 := kname_iff hs; clear hs)
  · go_ret
    rw [show l = [1, 2, 3, 4] from by rw [HL.out]; clear HL; simp only [beq_iff_eq, beq_eq_false_iff_ne, ne_eq, Bool.not_eq_false', decide_eq_true_eq] at *; unfold callsI; rw [if_pos (by omega)]]
    exact ⟨_, rfl, rd_new _ [.int .i64 1, .int .i64 2, .int .i64 3, .int .i64 4] _ 4 rfl, ha _⟩
  · go_ret
    rw [show l = [5, 6, 7, 8] from by rw [HL.out]; clear HL; simp only [beq_iff_eq, beq_eq_false_iff_ne, ne_eq, Bool.not_eq_false', decide_eq_true_eq] at *; unfold callsI; rw [if_neg (by omega), if_pos (by omega)]]
    exact ⟨_, rfl, rd_new _ [.int .i64 5, .int .i64 6, .int .i64 7, .int .i64 8] _ 4 rfl, ha _⟩
  · go_ret
    rw [show l = [9] from by rw [HL.out]; clear HL; simp only [beq_iff_eq, beq_eq_false_iff_ne, ne_eq, Bool.not_eq_false', decide_eq_true_eq] at *; unfold callsI; rw [if_neg (by omega), if_neg (by omega), if_pos (by omega)]]
    exact ⟨_, rfl, rd_new _ [.int .i64 9] _ 1 rfl, ha _⟩
  · go_ret
    rw [show l = [1, 2, 3] from by rw [HL.out]; clear HL; simp only [beq_iff_eq, beq_eq_false_iff_ne, ne_eq, Bool.not_eq_false', decide_eq_true_eq] at *; unfold callsI; rw [if_neg (by omega), if_neg (by omega), if_neg (by omega), if_pos (by omega)]]
    exact ⟨_, rfl, rd_new _ [.int .i64 1, .int .i64 2, .int .i64 3] _ 3 rfl, ha _⟩
  · go_ret
    rw [show l = [9, 10] from by rw [HL.out]; clear HL; simp only [beq_iff_eq, beq_eq_false_iff_ne, ne_eq, Bool.not_eq_false', decide_eq_true_eq] at *; unfold callsI; rw [if_neg (by omega), if_neg (by omega), if_neg (by omega), if_neg (by omega), if_pos (by omega)]]
    exact ⟨_, rfl, rd_new _ [.int .i64 9, .int .i64 10] _ 2 rfl, ha _⟩
  · go_ret
    rw [show l = [] from by rw [HL.out]; clear HL; simp only [beq_iff_eq, beq_eq_false_iff_ne, ne_eq, Bool.not_eq_true', decide_eq_false_iff_not] at *; unfold callsI; rw [if_neg (by omega), if_neg (by omega), if_neg (by omega), if_neg (by omega), if_neg (by omega), if_neg (by omega)]]
    exact ⟨_, rfl, ⟨none, 0, rfl, Nat.le_refl _, rfl, .inl ⟨rfl, rfl⟩⟩, Below.refl _ _⟩
  · go_ret
    rw [show l = [1, 2] from by rw [HL.out]; clear HL; simp only [beq_iff_eq, beq_eq_false_iff_ne, ne_eq, Bool.not_eq_false', decide_eq_true_eq] at *; unfold callsI; rw [if_neg (by omega), if_neg (by omega), if_neg (by omega), if_neg (by omega), if_neg (by omega), if_pos (by omega)]]
    exact ⟨_, rfl, rd_new _ [.int .i64 1, .int .i64 2] _ 2 rfl, ha _⟩
set_option maxRecDepth 4000 in
theorem spinMay_any (w : World) (T : TabO w) (k n a b c th t : Int) : Calls Tryd.prog 14 #[.agg #[.int .i64 k, .int .i64 n, .int .i64 a, .int .i64 b], .int .i64 c, .int .i64 th, .int .i64 t] w fun e w' => e = .returned (.bool (decide (AskP k n a b c th t))) ∧ Below w.heap.size w w' := by
  obtain ⟨r, hr⟩ : ∃ r, r = decide (AskP k n a b c th t) := ⟨_, rfl⟩
  rw [← hr]
  have HR := Lib.hid hr
  clear hr
  have ha : ∀ o, Below w.heap.size w (w.alloc o) := fun o => (Below.refl _ w).alloc (Nat.le_refl _) o
  have TA : ∀ o, TabO (w.alloc o) := fun o => T.below (ha o) (Nat.le_refl _)
  by_cases h0 : 0 ≤ t ∧ t < th
  · have d1 : decide (t < 0) = false := decide_eq_false (by omega)
    have d2 : decide (th ≤ t) = false := decide_eq_false (by omega)
    by_cases hR : RightP k n a b th
    · have dR : decide (RightP k n a b th) = true := decide_eq_true hR
      have HR2 : Hid (r = decide (c ∈ callsI k)) := by
        show _ = _
        rw [HR.out, decide_eq_decide, callsI_may]
        unfold AskP
        exact ⟨fun e => e.2.2.2, fun e => ⟨hR, h0.1, h0.2, e⟩⟩
      clear HR hR
      go_enter Tryd.func14, Tryd.ntmps14
      go_wp2_with (first
        | (go_at_call 11; refine (right_any _ (TA _) _ _ _ _ _).mono ?_; rintro e w1 ⟨rfl, hb1⟩; have hk := keepB hb1 (Nat.le_refl _))
        | (go_at_call 32; refine (calls_any _ ((TA _).below hb1 (Nat.le_refl _)) _).mono ?_; rintro e w2 ⟨v, rfl, hrd, hb2⟩; obtain ⟨A, cap, rfl⟩ := hrd.form))
      obtain ⟨l, hl⟩ : ∃ l, l = callsI k := ⟨_, rfl⟩
      have hl4 : l.length ≤ 4 := by rw [hl]; exact callsI_len k
      rw [← hl] at hrd HR2
      rw [← hl]
      clear hl hk ha TA T dR d1 d2
      have HRD := Lib.hid hrd
      have HB1 := Lib.hid hb1
      have HB2 := Lib.hid hb2
      clear hrd hb1 hb2
      go_loopw [28] (fun iv wr => ∃ i : Nat, i ≤ l.length ∧ iv = .int .i64 i ∧ Hid (wr = w2) ∧ Hid (∀ x ∈ l.take i, x ≠ c)) (fun i _ => l.length - (intOf i).toNat)
      case atStart => exact ⟨0, by omega, rfl, rfl, by intro x hx; simp at hx⟩
      case round =>
        obtain ⟨i, hil, rfl, HW, HN⟩ := hrel
        have hw := HW.out
        subst hw
        by_cases hlt : i < l.length
        · obtain ⟨b0, off, rfl, hb, hcell⟩ := HRD.out.cells (by omega)
          obtain ⟨x, hx⟩ : ∃ x, l[i]? = some x := ⟨_, List.getElem?_eq_getElem hlt⟩
          have hc := hcell i (.int .i64 x) (by rw [List.getElem?_map, hx]; rfl)
          have hxm : x ∈ l := List.mem_of_getElem? hx
          have hts : l.take (i + 1) = l.take i ++ [x] := by rw [List.take_add_one, hx]; rfl
          clear hcell hx
          by_cases hxc : x = c
          · have dx : (x == c) = true := by simp [hxc]
            have HR3 : r = true := by rw [HR2.out]; exact decide_eq_true (hxc ▸ hxm)
            subst HR3
            clear hxc hts hxm
            go_wp2_with fail
            go_ret
            exact ⟨rfl, ((Below.refl _ w).alloc (Nat.le_refl _) _).trans ((HB1.out.trans (HB2.out.mono HB1.out.size)).mono (by simp))⟩
          · have dx : (x == c) = false := by simp [hxc]
            have HN2 : Hid (∀ y ∈ l.take (i + 1), y ≠ c) := by
              show ∀ y ∈ l.take (i + 1), y ≠ c
              rw [hts]
              intro y hy
              rcases List.mem_append.1 hy with hy | hy
              · exact HN.out y hy
              · rw [List.mem_singleton] at hy; rw [hy]; exact hxc
            clear hxc hts hxm
            go_wp2_with fail
            exact ⟨⟨i + 1, by omega, by simp, Lib.hid trivial, HN2⟩, by simp [intOf]; omega⟩
        · have HR3 : r = false := by
            rw [HR2.out]
            refine decide_eq_false (fun e => HN.out c ?_ rfl)
            rw [List.take_of_length_le (by omega)]; exact e
          subst HR3
          go_wp2_with fail
          go_ret
          exact ⟨rfl, ((Below.refl _ w).alloc (Nat.le_refl _) _).trans ((HB1.out.trans (HB2.out.mono HB1.out.size)).mono (by simp))⟩
    · have hv : r = false := by rw [HR.out]; exact decide_eq_false (fun e => hR e.1)
      have dR : decide (RightP k n a b th) = false := decide_eq_false hR
      subst hv
      clear HR hR
      go_enter Tryd.func14, Tryd.ntmps14
      go_wp2_with (go_at_call 11; refine (right_any _ (TA _) _ _ _ _ _).mono ?_; rintro e w1 ⟨rfl, hb1⟩)
      go_ret
      exact ⟨rfl, (ha _).trans (hb1.mono (ha _).size)⟩
  · have hv : r = false := by rw [HR.out]; exact decide_eq_false (fun e => h0 ⟨e.2.1, e.2.2.1⟩)
    subst hv
    clear HR
    go_enter Tryd.func14, Tryd.ntmps14
    by_cases h1 : t < 0
    · have d1 : decide (t < 0) = true := decide_eq_true h1
      go_wp2_with fail
      go_ret
      exact ⟨rfl, ha _⟩
    · have d1 : decide (t < 0) = false := decide_eq_false h1
      have d2 : decide (th ≤ t) = true := decide_eq_true (by omega)
      go_wp2_with fail
      go_ret
      exact ⟨rfl, ha _⟩

set_option linter.unusedSimpArgs false in
set_option maxHeartbeats 4000000 in
theorem may15_any (w : World) (k n a b c th t : Int) : Calls Tryd.prog 25 #[.agg #[.int .i64 k, .int .i64 n, .int .i64 a, .int .i64 b], .int .i64 c, .int .i64 th, .int .i64 t] w fun e w' => e = .returned (.bool (decide (AskP k n a b c th t))) ∧ Below w.heap.size w w' := by
  obtain ⟨r, hr⟩ : ∃ r, r = decide (AskP k n a b c th t) := ⟨_, rfl⟩
  rw [← hr]
  have HR := Lib.hid hr
  clear hr
  have ha : ∀ o, Below w.heap.size w (w.alloc o) := fun o => (Below.refl _ w).alloc (Nat.le_refl _) o
  go_enter Tryd.func25, Tryd.ntmps25
  go_wp2_with (first
    | (go_at_call 35; refine (refRight_any _ _ _ _ _ _).mono ?_; rintro e w1 ⟨rfl, hb1⟩; have hk := keepB hb1 (Nat.le_refl _))
    | (go_at_call 36; refine (refMay_any _ _ _).mono ?_; rintro e w2 ⟨rfl, rfl⟩))
  all_goals go_ret
  all_goals refine ⟨congrArg (fun x => Ending.returned (.bool x)) ?_, (ha _).trans (Below.mono (by assumption) (by simp))⟩
  all_goals rw [HR.out]
  all_goals rw [Bool.eq_iff_iff, decide_eq_true_iff (p := AskP _ _ _ _ _ _ _)]
  all_goals unfold AskP
  all_goals simp only [Bool.false_eq_true, false_iff, decide_eq_true_eq] at *
  all_goals first
    | (intro e; have h2 := e.2.1; have h3 := e.2.2.1; omega)
    | (intro e; have h2 := e.1; contradiction)
    | exact ⟨fun e => ⟨by assumption, by assumption, by assumption, e⟩, fun e => e.2.2.2⟩
theorem new_keep {w w1 : World} {x : Obj} (hb : Below (w.alloc x).heap.size (w.alloc x) w1) : w1.heap[w.heap.size]? = some x := (hb.block _ (by simp)).trans (heap_alloc_new _ _)
theorem obj_keep {w1 w' : World} {g : Nat} {x : Obj} (h : w1.heap[g]? = some x) (hb : Below w1.heap.size w1 w') : w'.heap[g]? = some x := (hb.block g (Array.getElem?_eq_some_iff.1 h).1).trans h
theorem cells4 {w : World} {n : Nat} {a b c d : Value} {t : TypeId} (h : w.heap[n]? = some (.cells #[a, b, c, d] t (0, 0))) :
    w.cell? ⟨n, 0, none⟩ = some a ∧ w.cell? ⟨n, 1, none⟩ = some b ∧ w.cell? ⟨n, 2, none⟩ = some c ∧ w.cell? ⟨n, 3, none⟩ = some d := by
  have c0 := cell_of_row w n 0 _ _ _ h
  have c1 := cell_of_row w n 1 _ _ _ h
  have c2 := cell_of_row w n 2 _ _ _ h
  have c3 := cell_of_row w n 3 _ _ _ h
  exact ⟨c0, c1, c2, c3⟩

end Go.Proofs.YtfemeiopfpblaaaDoor.As
