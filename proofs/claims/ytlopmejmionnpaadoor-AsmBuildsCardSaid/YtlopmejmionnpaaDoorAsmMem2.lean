/- Memory: a builder's places. -/
import Derived.Test.YtlopmejmionnpaaDoorAsmMem
set_option linter.unusedVariables false
namespace Go.Proofs.YtlopmejmionnpaaDoor.As
open Go.RowKit

theorem mem_lt {w : World} {g : Nat} {s : BS} {F : Nat → Prop} (h : Mem w g s F) (k : Nat) (hk : F k) : k < w.heap.size := by
  obtain ⟨cv, pv, lv, hg, HO, HL, HP, HF⟩ := h
  rcases (HF k).1 hk with e | e | e | e
  · subst e; exact (Array.getElem?_eq_some_iff.1 hg).1
  · exact own_lt HO k e
  · exact own_lt HL k e
  · cases pv <;> simp [mapBlock] at e
    rename_i b
    cases b <;> simp at e
    subst e
    obtain ⟨es, cl, hm⟩ := map_ne HP rfl
    exact (Array.getElem?_eq_some_iff.1 hm).1
/-- A builder stays what it is while other blocks turn. -/
theorem mem_only {w w' : World} {g : Nat} {s : BS} {F G : Nat → Prop} (h : Mem w g s F) (ho : Only G w w') (hd : ∀ k, F k → ¬ G k) : Mem w' g s F := by
  obtain ⟨cv, pv, lv, hg, HO, HL, HP, HF⟩ := h
  refine ⟨cv, pv, lv, (ho.block g (Array.getElem?_eq_some_iff.1 hg).1 (hd g ((HF g).2 (.inl rfl)))).trans hg, own_only HO ho (fun k hk => hd k ((HF k).2 (.inr (.inl hk)))), own_only HL ho (fun k hk => hd k ((HF k).2 (.inr (.inr (.inl hk))))), places_kept HP (fun mb e => ?_), HF⟩
  obtain ⟨es, cl, hm⟩ := map_ne HP e
  exact ho.block mb (Array.getElem?_eq_some_iff.1 hm).1 (hd mb ((HF mb).2 (.inr (.inr (.inr (by rw [e]; rfl))))))
theorem mem_below {w w' : World} {B g : Nat} {s : BS} {F : Nat → Prop} (h : Mem w g s F) (hb : Below B w w') (hB : w.heap.size ≤ B) : Mem w' g s F :=
  mem_only h (Only.of_below (F := fun _ => False) hb hB) (fun _ _ => id)

/-- 'bad' is said. -/
theorem mem_bad {w : World} {g : Nat} {s : BS} {F : Nat → Prop} (h : Mem w g s F) : Mem (w.setCell ⟨g, 3, none⟩ (.bool true)) g { s with bad := true } F ∧ Step F w F (w.setCell ⟨g, 3, none⟩ (.bool true)) := by
  obtain ⟨cv, pv, lv, hg, HO, HL, HP, HF⟩ := h
  refine ⟨⟨cv, pv, lv, ?_, ownsRow_setCell_other HO (own_ne HO hg (by decide)) _, ownsRow_setCell_other HL (own_ne HL hg (by decide)) _, places_cong (places_kept HP fun mb e => ?_) rfl, HF⟩, ⟨⟨rfl, rfl, rfl, by simp [World.setCell], fun k hk hn => ?_⟩, fun k hk => .inl hk⟩⟩
  · rw [heap_setCell_same _ _ _ _ _ _ hg]; rfl
  · obtain ⟨es, cl, hm⟩ := map_ne HP e
    exact heap_setCell_other _ _ _ _ (by rintro rfl; rw [hg] at hm; cases hm)
  · exact heap_setCell_other _ _ _ _ (fun e => hn ((HF k).2 (.inl e)))

/-- The empty map reads as no places. -/
theorem dreads_nil (s : BS) (h : s.places = []) : DReads (.map []) s.find := by
  refine ⟨Maps.isMap_empty, fun x => ?_⟩
  have e : s.find x = none := by unfold BS.find; rw [h]; rfl
  rw [e]
  exact ⟨rfl, fun n hn => by cases hn⟩
theorem find_snoc (s : BS) (name x : B8) (n : Nat) (h : s.find name = none) : BS.find { s with places := s.places ++ [(name, n)] } x = if x = name then some n else s.find x := by
  unfold BS.find at *
  simp only [List.find?_append, List.find?_cons, List.find?_nil]
  by_cases e : x = name
  · subst e
    rw [if_pos rfl]
    cases hf : s.places.find? (fun p => p.1 == x) with
    | none => simp
    | some p => rw [hf] at h; cases h
  · rw [if_neg e]
    have : (name == x) = false := by rw [beq_eq_false_iff_ne]; exact fun e' => e e'.symm
    rw [this]
    cases s.places.find? (fun p => p.1 == x) <;> rfl
theorem dreads_put {D : DataW Unit} {s : BS} (h : DReads D s.find) (name : B8) (n : Nat) (hf : s.find name = none) : DReads (D.put (.string name) (.lit (.int .i64 n))) (BS.find { s with places := s.places ++ [(name, n)] }) := by
  refine ⟨h.1.put _ _, fun x => ?_⟩
  rw [find_snoc s name x n hf]
  by_cases e : x = name
  · subst e
    rw [if_pos rfl]
    exact ⟨Maps.has_put_same h.1 (by simp [WideAt.IsKeyLit]) _, fun m hm z => by
      injection hm with hm
      subst hm
      exact Maps.atKey_put_same h.1 (by simp [WideAt.IsKeyLit]) _ _⟩
  · rw [if_neg e]
    have hne : (Lit.string x) ≠ Lit.string name := by intro e'; injection e' with e'; exact e e'
    exact ⟨by rw [Maps.has_put_other hne]; exact (h.2 x).1, fun m hm z => by rw [Maps.atKey_put_other hne]; exact (h.2 x).2 m hm z⟩
/-- A place is put in. -/
theorem mem_put {w w1 : World} {g mb n : Nat} {s : BS} {F : Nat → Prop} {cv lv : Value} {D : DataW Unit} {name : B8} (hg : w.heap[g]? = some (.cells #[cv, .map (some mb), lv, .bool s.bad] 43 (0, 0))) (HO : w.ownsRow 0 34 5 cv s.code.length (flat s.code))
    (HL : w.ownsRow 0 77 2 lv s.links.length (flatL s.links)) (hm : w.ownsMap Tryd.prog 9 (plainElem Tryd.prog 3) mb n D) (hn : n ≤ s.places.length) (hd : DReads D s.find) (hf : s.find name = none)
    (HF : ∀ k, F k ↔ (k = g ∨ cv.ownBlock = some k ∨ lv.ownBlock = some k ∨ mapBlock (.map (some mb)) = some k))
    (ho : w1.ownsMap Tryd.prog 9 (plainElem Tryd.prog 3) mb (n + 1) (D.put (.string name) (.lit (.int .i64 s.code.length)))) (hgr : w.grownBy w1 (some mb)) :
    Mem w1 g { s with places := s.places ++ [(name, s.code.length)] } F ∧ Step F w F w1 := by
  obtain ⟨es, cl, hb, _⟩ := hm
  have hgm : g ≠ mb := by rintro rfl; rw [hg] at hb; cases hb
  refine ⟨⟨cv, .map (some mb), lv, (hgr.block g (Array.getElem?_eq_some_iff.1 hg).1 (fun e => hgm (by injection e))).trans hg, HO.kept hgr (.inr fun e => own_neMap HO hb e), HL.kept hgr (.inr fun e => own_neMap HL hb e), .inr ⟨mb, n + 1, _, rfl, ho, by simp; omega, dreads_put hd name _ hf⟩, HF⟩, ⟨⟨hgr.os, hgr.tape, hgr.output, hgr.size, fun k hk hnF => hgr.block k hk (fun e => hnF ((HF k).2 (.inr (.inr (.inr e.symm)))))⟩, fun k hk => .inl hk⟩⟩
/-- A map is made. -/
theorem mem_make {w : World} {g : Nat} {s : BS} {F : Nat → Prop} {cv lv : Value} (hg : w.heap[g]? = some (.cells #[cv, .map none, lv, .bool s.bad] 43 (0, 0))) (HO : w.ownsRow 0 34 5 cv s.code.length (flat s.code))
    (HL : w.ownsRow 0 77 2 lv s.links.length (flatL s.links)) (HP : s.places = []) (HF : ∀ k, F k ↔ (k = g ∨ cv.ownBlock = some k ∨ lv.ownBlock = some k ∨ mapBlock (.map none) = some k)) :
    ∃ F1, Step F w F1 ((w.alloc (.map #[] 0)).setCell ⟨g, 1, none⟩ (.map (some w.heap.size))) ∧
      ((w.alloc (.map #[] 0)).setCell ⟨g, 1, none⟩ (.map (some w.heap.size))).heap[g]? = some (.cells #[cv, .map (some w.heap.size), lv, .bool s.bad] 43 (0, 0)) ∧
      ((w.alloc (.map #[] 0)).setCell ⟨g, 1, none⟩ (.map (some w.heap.size))).ownsRow 0 34 5 cv s.code.length (flat s.code) ∧
      ((w.alloc (.map #[] 0)).setCell ⟨g, 1, none⟩ (.map (some w.heap.size))).ownsRow 0 77 2 lv s.links.length (flatL s.links) ∧
      ((w.alloc (.map #[] 0)).setCell ⟨g, 1, none⟩ (.map (some w.heap.size))).ownsMap Tryd.prog 9 (plainElem (H := Unit) Tryd.prog 3) w.heap.size 0 (.map []) ∧
      ∀ k, F1 k ↔ (k = g ∨ cv.ownBlock = some k ∨ lv.ownBlock = some k ∨ mapBlock (.map (some w.heap.size)) = some k) := by
  have hlt : g < w.heap.size := (Array.getElem?_eq_some_iff.1 hg).1
  have ha : (w.alloc (.map #[] 0)).heap[g]? = some (.cells #[cv, .map none, lv, .bool s.bad] 43 (0, 0)) := (Below.heap_alloc _ _ _ hlt).trans hg
  refine ⟨fun k => k = g ∨ cv.ownBlock = some k ∨ lv.ownBlock = some k ∨ mapBlock (.map (some w.heap.size)) = some k, ⟨⟨rfl, rfl, rfl, by simp [World.setCell], fun k hk hn => ?_⟩, fun k hk => ?_⟩, ?_, ?_, ?_, ?_, fun k => Iff.rfl⟩
  · rw [heap_setCell_other _ _ _ _ (fun e => hn ((HF k).2 (.inl e)))]
    exact Below.heap_alloc _ _ _ hk
  · rcases hk with e | e | e | e
    · exact .inl ((HF k).2 (.inl e))
    · exact .inl ((HF k).2 (.inr (.inl e)))
    · exact .inl ((HF k).2 (.inr (.inr (.inl e))))
    · simp [mapBlock] at e; exact .inr (by omega)
  · rw [heap_setCell_same _ _ _ _ _ _ ha]; rfl
  · exact ownsRow_setCell_other (HO.alloc _) (own_ne HO hg (by decide)) _
  · exact ownsRow_setCell_other (HL.alloc _) (own_ne HL hg (by decide)) _
  · obtain ⟨es, cl, hb, r⟩ := World.ownsMap_made (H := Unit) w Tryd.prog 9 (plainElem Tryd.prog 3)
    exact ⟨es, cl, (heap_setCell_other _ _ _ _ (by simp; omega)).trans hb, r⟩

theorem find_le {s : BS} (h : s.Good) {x : B8} {n : Nat} (hx : s.find x = some n) : n ≤ s.code.length := by
  unfold BS.find at hx
  obtain ⟨p, hp, rfl⟩ := Option.map_eq_some_iff.1 hx
  exact h.pl p (List.mem_of_find?_eq_some hp)
theorem good_bad (s : BS) (h : s.Good) : BS.Good { s with bad := true } := ⟨h.links, h.at_, h.pl⟩
theorem good_put (s : BS) (nm : B8) (h : s.Good) : BS.Good { s with places := s.places ++ [(nm, s.code.length)] } := by
  refine ⟨h.links, h.at_, fun p hp => ?_⟩
  rcases List.mem_append.1 hp with hp | hp
  · exact h.pl p hp
  · rw [List.mem_singleton] at hp; subst hp; exact Nat.le_refl _
end Go.Proofs.YtlopmejmionnpaaDoor.As
