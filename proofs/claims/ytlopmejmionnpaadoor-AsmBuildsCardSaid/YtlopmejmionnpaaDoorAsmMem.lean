/- Memory: what a call owns and what it leaves alone; a builder in memory; the tables of names and uses. -/
import Derived.Test.YtlopmejmionnpaaDoorRows
import Derived.Test.YtlopmejmionnpaaDoorAsmSpec
import Derived.WalkKit
import Derived.WalkSpells
import Derived.WalkLawsBesides
import Derived.Outline
import Derived.Laws.EntriesVeiled
import Derived.Laws.NewBlocks
import Derived.Laws.Rows
import Derived.Lib.Hide
import Derived.Handy
import Derived.Deep.AppendLies
import Derived.Deep.RegionLaw
import Derived.Deep.DeepFit
import Derived.Maps.Own
import Derived.Maps.OwnOps
import Derived.Maps.OwnSet
import Derived.Maps.Views
import Derived.StringKeys
import Derived.StillTailTactics
import Derived.BigQuiet
import Derived.Deep.QuietTactic
import Derived.Deep.LoopGhost
set_option linter.unusedVariables false
namespace Go.Proofs.YtlopmejmionnpaaDoor.As
open Go.RowKit

/-! ### What a call leaves alone -/
/-- Only the blocks of F, and new ones, have turned. -/
structure Only (F : Nat → Prop) (w w' : World) : Prop where
  os : w'.os = w.os
  tape : w'.tape = w.tape
  output : w'.output = w.output
  size : w.heap.size ≤ w'.heap.size
  block : ∀ k, k < w.heap.size → ¬ F k → w'.heap[k]? = w.heap[k]?
/-- .. and what is owned behind it is of F, or new. -/
structure Step (F : Nat → Prop) (w : World) (F' : Nat → Prop) (w' : World) : Prop where
  only : Only F w w'
  foot : ∀ k, F' k → F k ∨ w.heap.size ≤ k

theorem Only.refl (F : Nat → Prop) (w : World) : Only F w w := ⟨rfl, rfl, rfl, Nat.le_refl _, fun _ _ _ => rfl⟩
theorem Only.trans {F F' : Nat → Prop} {a b c : World} (h : Only F a b) (k : Only F' b c) (hf : ∀ i, F' i → F i ∨ a.heap.size ≤ i) : Only F a c :=
  ⟨k.os.trans h.os, k.tape.trans h.tape, k.output.trans h.output, Nat.le_trans h.size k.size, fun i hi hn =>
    (k.block i (Nat.lt_of_lt_of_le hi h.size) (fun e => by rcases hf i e with e | e; exact hn e; omega)).trans (h.block i hi hn)⟩
theorem Step.trans {F F' F'' : Nat → Prop} {a b c : World} (h : Step F a F' b) (k : Step F' b F'' c) : Step F a F'' c :=
  ⟨h.only.trans k.only h.foot, fun i hi => by
    rcases k.foot i hi with e | e
    · exact h.foot i e
    · exact .inr (Nat.le_trans h.only.size e)⟩
theorem Only.of_below {B : Nat} {F : Nat → Prop} {w w' : World} (h : Below B w w') (hB : w.heap.size ≤ B) : Only F w w' := ⟨h.os, h.tape, h.output, h.size, fun k hk _ => h.block k (by omega)⟩
theorem Only.below {B : Nat} {F : Nat → Prop} {w w' : World} (h : Only F w w') (hB : B ≤ w.heap.size) (hF : ∀ k, F k → B ≤ k) : Below B w w' :=
  ⟨h.os, h.tape, h.output, h.size, fun k hk => h.block k (by omega) (fun e => by have := hF k e; omega)⟩
theorem Only.mono {F F' : Nat → Prop} {w w' : World} (h : Only F w w') (hF : ∀ k, F k → F' k) : Only F' w w' := ⟨h.os, h.tape, h.output, h.size, fun k hk hn => h.block k hk (fun e => hn (hF k e))⟩
theorem Step.of_below {B : Nat} {F : Nat → Prop} {w w' : World} (h : Below B w w') (hB : w.heap.size ≤ B) : Step F w F w' := ⟨Only.of_below h hB, fun _ e => .inl e⟩
theorem Step.below {B : Nat} {F F' : Nat → Prop} {w w' : World} (h : Step F w F' w') (hB : B ≤ w.heap.size) (hF : ∀ k, F k → B ≤ k) : Below B w w' ∧ ∀ k, F' k → B ≤ k :=
  ⟨h.only.below hB hF, fun k hk => by rcases h.foot k hk with e | e; exact hF k e; omega⟩

/-! ### Words on rows -/
theorem own_ne {w : World} {base g : Nat} {e t : TypeId} {size n : Nat} {v : Value} {xs : List Value} {cs : Array Value} (h : w.ownsRow base e size v n xs) (hg : w.heap[g]? = some (.cells cs t (0, 0))) (hne : e ≠ t) : v.ownBlock ≠ some g := by
  rcases h.2 with ⟨rfl, _⟩ | ⟨g', cap, cur, rfl, _, hh, _⟩
  · simp [Value.ownBlock]
  · intro he
    have : g' = g := by simpa [Value.ownBlock] using he
    subst this
    rw [hg] at hh
    injection hh with hh
    injection hh with _ ht
    exact hne ht.symm
theorem own_ne2 {w : World} {b1 b2 : Nat} {e t : TypeId} {s1 s2 n m : Nat} {v u : Value} {xs ys : List Value} (h : w.ownsRow b1 e s1 v n xs) (h' : w.ownsRow b2 t s2 u m ys) (hne : e ≠ t) (k : Nat) (h1 : v.ownBlock = some k) (h2 : u.ownBlock = some k) : False := by
  rcases h'.2 with ⟨rfl, _⟩ | ⟨g', cap, cur, rfl, _, hh, _⟩
  · simp [Value.ownBlock] at h2
  · have : g' = k := by simpa [Value.ownBlock] using h2
    subst this
    exact own_ne h hh hne h1
theorem own_neMap {w : World} {b1 : Nat} {e : TypeId} {s1 n : Nat} {v : Value} {xs : List Value} {es : Array MapEntry} {cl k : Nat} (h : w.ownsRow b1 e s1 v n xs) (h' : w.heap[k]? = some (.map es cl)) (h1 : v.ownBlock = some k) : False := by
  rcases h.2 with ⟨rfl, _⟩ | ⟨g', cap, cur, rfl, _, hh, _⟩
  · simp [Value.ownBlock] at h1
  · have : g' = k := by simpa [Value.ownBlock] using h1
    subst this
    rw [h'] at hh
    cases hh
theorem own_lt {w : World} {base : Nat} {e : TypeId} {size n : Nat} {v : Value} {xs : List Value} (h : w.ownsRow base e size v n xs) (k : Nat) (hk : v.ownBlock = some k) : k < w.heap.size := (h.lt k hk).2
/-- A row stays what it is while other blocks turn. -/
theorem own_only {w w' : World} {F : Nat → Prop} {base : Nat} {e : TypeId} {size n : Nat} {v : Value} {xs : List Value} (h : w.ownsRow base e size v n xs) (ho : Only F w w') (hn : ∀ k, v.ownBlock = some k → ¬ F k) : w'.ownsRow base e size v n xs := by
  refine ⟨h.1, ?_⟩
  rcases h.2 with h0 | ⟨g, cap, cur, rfl, hb, hgg, rest⟩
  · exact .inl h0
  · exact .inr ⟨g, cap, cur, rfl, hb, (ho.block g (Array.getElem?_eq_some_iff.1 hgg).1 (hn g rfl)).trans hgg, rest⟩

/-! ### Instructions in memory -/
def Ins.cells (i : Ins) : List Value := [.int .i64 i.op, .int .i64 i.a, .int .i64 i.b, .int .i64 i.c, .int .u32 i.k]
def flat (l : List Ins) : List Value := l.flatMap Ins.cells
def linkCells (p : Nat × B8) : List Value := [.int .i64 p.1, .string ⟨p.2.toArray⟩]
def flatL (l : List (Nat × B8)) : List Value := l.flatMap linkCells
theorem flat_snoc (l : List Ins) (i : Ins) : flat (l ++ [i]) = flat l ++ i.cells := by simp [flat]
theorem flatL_snoc (l : List (Nat × B8)) (i : Nat × B8) : flatL (l ++ [i]) = flatL l ++ linkCells i := by simp [flatL]

/-- The datum of the places' map reads as the function f. -/
def DReads (D : DataW Unit) (f : B8 → Option Nat) : Prop :=
  Maps.IsMap D ∧ ∀ x, Maps.has D (.string x) = (f x).isSome ∧ ∀ n, f x = some n → ∀ z, D.atKey (.string x) z = .lit (.int .i64 n)
/-- The places' map in memory. -/
def Places (w : World) (pv : Value) (s : BS) : Prop :=
  (pv = .map none ∧ s.places = []) ∨
  ∃ mb n D, pv = .map (some mb) ∧ w.ownsMap Tryd.prog 9 (plainElem Tryd.prog 3) mb n D ∧ n ≤ s.places.length ∧ DReads D s.find
def mapBlock : Value → Option Nat
  | .map (some b) => some b
  | _ => none

/-- What a builder's lists are. -/
structure BS.Good (s : BS) : Prop where
  links : s.links.length ≤ s.code.length
  at_ : ∀ p ∈ s.links, p.1 < s.code.length
  pl : ∀ p ∈ s.places, p.2 ≤ s.code.length

/-- A builder's lists in memory, at block g; F: its blocks. -/
def Mem (w : World) (g : Nat) (s : BS) (F : Nat → Prop) : Prop :=
  ∃ cv pv lv, w.heap[g]? = some (.cells #[cv, pv, lv, .bool s.bad] 43 (0, 0)) ∧ w.ownsRow 0 34 5 cv s.code.length (flat s.code) ∧ w.ownsRow 0 77 2 lv s.links.length (flatL s.links) ∧
    Places w pv s ∧ ∀ k, F k ↔ (k = g ∨ cv.ownBlock = some k ∨ lv.ownBlock = some k ∨ mapBlock pv = some k)
/-- A builder in memory. -/
structure Bld (w : World) (g : Nat) (s : BS) (F : Nat → Prop) : Prop where
  good : s.Good
  mem : Mem w g s F

/-! ### What an append to one of its lists, and a store of it, leave -/
/-- A row that is another one than v's, behind an append to v and a store into block g. -/
theorem row_kept {w w1 : World} {g o : Nat} {v nv : Value} {e : TypeId} {size m : Nat} {u : Value} {ys : List Value} (h : w.ownsRow 0 e size u m ys) (hgr : w.grownBy w1 v.ownBlock) (h1 : ∀ k, u.ownBlock = some k → v.ownBlock ≠ some k) (h2 : u.ownBlock ≠ some g) :
    (w1.setCell ⟨g, o, none⟩ nv).ownsRow 0 e size u m ys := by
  have a := h.kept hgr (by
    cases hu : u.ownBlock with
    | none => exact .inl rfl
    | some k => exact .inr (fun e => h1 k hu e.symm))
  exact ownsRow_setCell_other a h2 nv
/-- What only reads the blocks that a Step keeps. -/
theorem places_kept {w w' : World} {pv : Value} {s : BS} (h : Places w pv s) (hk : ∀ mb, pv = .map (some mb) → w'.heap[mb]? = w.heap[mb]?) : Places w' pv s := by
  rcases h with h | ⟨mb, n, D, e, hm, hn, hd⟩
  · exact .inl h
  · refine .inr ⟨mb, n, D, e, ?_, hn, hd⟩
    obtain ⟨es, cl, hb, r⟩ := hm
    exact ⟨es, cl, (hk mb e).trans hb, r⟩
theorem places_cong {w : World} {pv : Value} {s t : BS} (h : Places w pv s) (e : s.places = t.places) : Places w pv t := by
  have ef : s.find = t.find := by funext x; unfold BS.find; rw [e]
  unfold Places at *
  rw [e, ef] at h
  exact h
/-- The map's block is none of the rows'. -/
theorem map_ne {w : World} {pv : Value} {s : BS} {mb : Nat} (h : Places w pv s) (e : pv = .map (some mb)) : ∃ es cl, w.heap[mb]? = some (.map es cl) := by
  rcases h with ⟨h, _⟩ | ⟨mb', n, D, e', hm, _⟩
  · rw [h] at e; cases e
  · rw [e'] at e
    injection e with e
    injection e with e
    subst e
    obtain ⟨es, cl, hb, _⟩ := hm
    exact ⟨es, cl, hb⟩
/-- Of the world behind an append that may have laid blocks first, told of the world ahead of them. -/
theorem grown_from {w w0 w1 : World} {row : Option Nat} (hgr : w0.grownBy w1 row) (ho : w0.os = w.os) (ht : w0.tape = w.tape) (hu : w0.output = w.output) (hz : w.heap.size ≤ w0.heap.size) (hb : ∀ i, i < w.heap.size → w0.heap[i]? = w.heap[i]?) : w.grownBy w1 row :=
  ⟨hgr.os.trans ho, hgr.tape.trans ht, hgr.output.trans hu, Nat.le_trans hz hgr.size, fun i hi hn => (hgr.block i (by omega) hn).trans (hb i hi)⟩

/-- The code has one more. -/
theorem mem_code {w w1 : World} {g : Nat} {s : BS} {F : Nat → Prop} {cv pv lv : Value} {i : Ins} (hg : w.heap[g]? = some (.cells #[cv, pv, lv, .bool s.bad] 43 (0, 0))) (HO : w.ownsRow 0 34 5 cv s.code.length (flat s.code))
    (HL : w.ownsRow 0 77 2 lv s.links.length (flatL s.links)) (HP : Places w pv s) (HF : ∀ k, F k ↔ (k = g ∨ cv.ownBlock = some k ∨ lv.ownBlock = some k ∨ mapBlock pv = some k))
    {g1 cap : Nat} (ho : w1.ownsRow 0 34 5 (.slice (some ⟨g1, 0, none⟩) (s.code.length + 1) cap) (s.code.length + 1) (flat s.code ++ i.cells)) (hgr : w.grownBy w1 cv.ownBlock) (hat : cv.ownBlock = some g1 ∨ w.heap.size ≤ g1) :
    ∃ F', Mem (w1.setCell ⟨g, 0, none⟩ (.slice (some ⟨g1, 0, none⟩) (s.code.length + 1) cap)) g (s.do_ i) F' ∧ Step F w F' (w1.setCell ⟨g, 0, none⟩ (.slice (some ⟨g1, 0, none⟩) (s.code.length + 1) cap)) := by
  have hne := own_ne HO hg (by decide)
  have hlt : g < w.heap.size := (Array.getElem?_eq_some_iff.1 hg).1
  have k0 : w1.heap[g]? = some (.cells #[cv, pv, lv, .bool s.bad] 43 (0, 0)) := (hgr.block g hlt (fun e => hne e.symm)).trans hg
  have hg1 : g1 ≠ g := by
    rcases hat with hat | hat
    · intro e; subst e; exact hne hat
    · omega
  refine ⟨fun i => i = g ∨ i = g1 ∨ lv.ownBlock = some i ∨ mapBlock pv = some i, ⟨.slice (some ⟨g1, 0, none⟩) (s.code.length + 1) cap, pv, lv, ?_, ?_, ?_, ?_, ?_⟩, ⟨⟨hgr.os, hgr.tape, hgr.output, by simpa [World.setCell] using hgr.size, ?_⟩, ?_⟩⟩
  · rw [heap_setCell_same _ _ _ _ _ _ k0]; rfl
  · have e1 : (s.do_ i).code.length = s.code.length + 1 := by simp [BS.do_]
    have e2 : flat (s.do_ i).code = flat s.code ++ i.cells := by show flat (s.code ++ [_]) = _; rw [flat_snoc]
    rw [e1, e2]
    exact ownsRow_setCell_other ho (by simp [Value.ownBlock]; exact hg1) _
  · exact row_kept HL hgr (fun i h1 h2 => own_ne2 HL HO (by decide) i h1 h2) (own_ne HL hg (by decide))
  · refine places_cong (places_kept HP fun mb e => ?_) rfl
    obtain ⟨es, cl, hm⟩ := map_ne HP e
    have hmg : mb ≠ g := by rintro rfl; rw [hg] at hm; cases hm
    rw [heap_setCell_other _ _ _ _ hmg]
    exact hgr.block mb (Array.getElem?_eq_some_iff.1 hm).1 (fun e' => own_neMap HO hm e'.symm)
  · intro i
    constructor
    · rintro (e | e | e | e)
      · exact .inl e
      · exact .inr (.inl (by simp [Value.ownBlock, e]))
      · exact .inr (.inr (.inl e))
      · exact .inr (.inr (.inr e))
    · rintro (e | e | e | e)
      · exact .inl e
      · simp [Value.ownBlock] at e; exact .inr (.inl e.symm)
      · exact .inr (.inr (.inl e))
      · exact .inr (.inr (.inr e))
  · intro i hi' hnF
    have n1 : i ≠ g := fun e => hnF ((HF i).2 (.inl e))
    rw [heap_setCell_other _ _ _ _ n1]
    exact hgr.block i hi' (fun e => hnF ((HF i).2 (.inr (.inl e.symm))))
  · rintro i (e | e | e | e)
    · exact .inl ((HF i).2 (.inl e))
    · rcases hat with h' | h'
      · exact .inl ((HF i).2 (.inr (.inl (by rw [h', e]))))
      · exact .inr (by omega)
    · exact .inl ((HF i).2 (.inr (.inr (.inl e))))
    · exact .inl ((HF i).2 (.inr (.inr (.inr e))))
/-- The links have one more. -/
theorem mem_links {w w1 : World} {g : Nat} {s : BS} {F : Nat → Prop} {cv pv lv : Value} {i : Nat × B8} (hg : w.heap[g]? = some (.cells #[cv, pv, lv, .bool s.bad] 43 (0, 0))) (HO : w.ownsRow 0 34 5 cv s.code.length (flat s.code))
    (HL : w.ownsRow 0 77 2 lv s.links.length (flatL s.links)) (HP : Places w pv s) (HF : ∀ k, F k ↔ (k = g ∨ cv.ownBlock = some k ∨ lv.ownBlock = some k ∨ mapBlock pv = some k))
    {g1 cap : Nat} (ho : w1.ownsRow 0 77 2 (.slice (some ⟨g1, 0, none⟩) (s.links.length + 1) cap) (s.links.length + 1) (flatL s.links ++ linkCells i)) (hgr : w.grownBy w1 lv.ownBlock) (hat : lv.ownBlock = some g1 ∨ w.heap.size ≤ g1) :
    ∃ F', Mem (w1.setCell ⟨g, 2, none⟩ (.slice (some ⟨g1, 0, none⟩) (s.links.length + 1) cap)) g { s with links := s.links ++ [i] } F' ∧ Step F w F' (w1.setCell ⟨g, 2, none⟩ (.slice (some ⟨g1, 0, none⟩) (s.links.length + 1) cap)) := by
  have hne := own_ne HL hg (by decide)
  have hlt : g < w.heap.size := (Array.getElem?_eq_some_iff.1 hg).1
  have k0 : w1.heap[g]? = some (.cells #[cv, pv, lv, .bool s.bad] 43 (0, 0)) := (hgr.block g hlt (fun e => hne e.symm)).trans hg
  have hg1 : g1 ≠ g := by
    rcases hat with hat | hat
    · intro e; subst e; exact hne hat
    · omega
  refine ⟨fun i => i = g ∨ cv.ownBlock = some i ∨ i = g1 ∨ mapBlock pv = some i, ⟨cv, pv, .slice (some ⟨g1, 0, none⟩) (s.links.length + 1) cap, ?_, ?_, ?_, ?_, ?_⟩, ⟨⟨hgr.os, hgr.tape, hgr.output, by simpa [World.setCell] using hgr.size, ?_⟩, ?_⟩⟩
  · rw [heap_setCell_same _ _ _ _ _ _ k0]; rfl
  · exact row_kept HO hgr (fun i h1 h2 => own_ne2 HO HL (by decide) i h1 h2) (own_ne HO hg (by decide))
  · have e1 : (s.links ++ [i]).length = s.links.length + 1 := by simp
    have e2 : flatL (s.links ++ [i]) = flatL s.links ++ linkCells i := flatL_snoc _ _
    show World.ownsRow _ 0 _ 2 _ (s.links ++ [i]).length (flatL (s.links ++ [i]))
    rw [e1, e2]
    exact ownsRow_setCell_other ho (by simp [Value.ownBlock]; exact hg1) _
  · refine places_cong (places_kept HP fun mb e => ?_) rfl
    obtain ⟨es, cl, hm⟩ := map_ne HP e
    have hmg : mb ≠ g := by rintro rfl; rw [hg] at hm; cases hm
    rw [heap_setCell_other _ _ _ _ hmg]
    exact hgr.block mb (Array.getElem?_eq_some_iff.1 hm).1 (fun e' => own_neMap HL hm e'.symm)
  · intro i
    constructor
    · rintro (e | e | e | e)
      · exact .inl e
      · exact .inr (.inl e)
      · exact .inr (.inr (.inl (by simp [Value.ownBlock, e])))
      · exact .inr (.inr (.inr e))
    · rintro (e | e | e | e)
      · exact .inl e
      · exact .inr (.inl e)
      · simp [Value.ownBlock] at e; exact .inr (.inr (.inl e.symm))
      · exact .inr (.inr (.inr e))
  · intro i hi' hnF
    have n1 : i ≠ g := fun e => hnF ((HF i).2 (.inl e))
    rw [heap_setCell_other _ _ _ _ n1]
    exact hgr.block i hi' (fun e => hnF ((HF i).2 (.inr (.inr (.inl e.symm)))))
  · rintro i (e | e | e | e)
    · exact .inl ((HF i).2 (.inl e))
    · exact .inl ((HF i).2 (.inr (.inl e)))
    · rcases hat with h' | h'
      · exact .inl ((HF i).2 (.inr (.inr (.inl (by rw [h', e])))))
      · exact .inr (by omega)
    · exact .inl ((HF i).2 (.inr (.inr (.inr e))))
end Go.Proofs.YtlopmejmionnpaaDoor.As
