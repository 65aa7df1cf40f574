/- The walks of the package asm: what a builder's calls add. -/
import Derived.Test.YtlopmejmionnpaaDoorAsmName
set_option linter.unusedVariables false
namespace Go.Proofs.YtlopmejmionnpaaDoor.As
open Go.RowKit

theorem infoI : (Tryd.prog.info? 34).map (fun i => (i.zero, i.size, i.bytes)) = some (some (.agg #[.int .i64 0, .int .i64 0, .int .i64 0, .int .i64 0, .int .u32 0]), 5, 40) := by kernel_rfl
theorem infoL : (Tryd.prog.info? 77).map (fun i => (i.zero, i.size, i.bytes)) = some (some (.agg #[.int .i64 0, .string ByteArray.empty]), 2, 24) := by kernel_rfl

/-- What a builder's call leaves. -/
def BPost (w : World) (g : Nat) (F : Nat → Prop) (s' : BS) (e : Ending) (w' : World) : Prop :=
  e = .returned (.tuple #[]) ∧ ∃ F', Bld w' g s' F' ∧ Step F w F' w'

theorem good_do (s : BS) (i : Ins) (h : s.Good) : (s.do_ i).Good := by
  refine ⟨?_, fun p hp => ?_, fun p hp => ?_⟩
  · have := h.links; simp only [BS.do_, List.length_append, List.length_singleton]; omega
  · have := h.at_ p hp; simp only [BS.do_, List.length_append, List.length_singleton]; omega
  · have := h.pl p hp; simp only [BS.do_, List.length_append, List.length_singleton]; omega
theorem good_link (s : BS) (i : Ins) (nm : B8) (h : s.Good) : BS.Good { s with code := s.code ++ [i], links := s.links ++ [(s.code.length, nm)] } := by
  refine ⟨?_, fun p hp => ?_, fun p hp => ?_⟩
  · have := h.links; simp only [List.length_append, List.length_singleton]; omega
  · simp only [List.mem_append, List.mem_singleton] at hp
    simp only [List.length_append, List.length_singleton]
    rcases hp with hp | rfl
    · have := h.at_ p hp; omega
    · simp
  · have := h.pl p hp; simp only [List.length_append, List.length_singleton]; omega

set_option maxHeartbeats 1000000 in
theorem do_mem (w : World) (g : Nat) (s : BS) (F : Nat → Prop) (h : Mem w g s F) (hn : s.code.length < 1000000) (o a b c k : Int) :
    Calls Tryd.prog 22 #[.pointer (some ⟨g, 0, none⟩), .agg #[.int .i64 o, .int .i64 a, .int .i64 b, .int .i64 c, .int .u32 k]] w fun e w' => e = .returned (.tuple #[]) ∧ ∃ F', Mem w' g (s.do_ ⟨o, a, b, c, k⟩) F' ∧ Step F w F' w' := by
  obtain ⟨cv, pv, lv, hg, hown, hlinks, hpl, hF⟩ := h
  obtain ⟨i0, hi, hz0, hz1, hz2⟩ := info_parts infoI
  have c0 := cell_of_row w g 0 _ _ _ hg
  have f0 := frozen_of_row w g 0 _ _ hg
  simp at c0
  have hne := own_ne hown hg (by decide)
  have hlt : g < w.heap.size := (Array.getElem?_eq_some_iff.1 hg).1
  have HL := Lib.hid hlinks
  have HPL := Lib.hid hpl
  have HF := Lib.hid hF
  have HGG := Lib.hid hg
  have HO := Lib.hid hown
  clear hlinks hpl hF
  go_enter Tryd.func22, Tryd.ntmps22
  go_wp2
  go_region_law (refine step_append_lies _ rfl (.tmp 8) (.tmp 10) 23 rfl 0 34 i0 _ 5 40 Tryd.underlying23 hi hz0 hz1 hz2 rfl (by decide) cv _ _ rfl ((hown.alloc _).alloc _) ⟨w.heap.size + 1, 0, none⟩ 1 1 [.int .i64 o, .int .i64 a, .int .i64 b, .int .i64 c, .int .u32 k] rfl rfl (World.news_of_block (heap_alloc2_new _ _ _)) (by simp [Value.oneCell']) (by decide) (by unfold maxLen; omega) (by omega) (Nat.zero_le _) _ rfl ?_; intro g1 cap w1 ho hgr hat hlt1; have k0 : w1.heap[g]? = some (.cells #[cv, pv, lv, .bool s.bad] 43 (0, 0)) := (hgr.block g (by simp; omega) (fun e => hne e.symm)).trans ((Below.heap_alloc _ _ _ (by simp; omega)).trans ((Below.heap_alloc _ _ _ hlt).trans hg)); have k1 : w1.cell? ⟨g, 0, none⟩ = some cv := cell_of_row w1 g 0 _ _ _ k0; have k2 := frozen_of_row w1 g 0 _ _ k0)
  all_goals
    go_end0
    have hgr2 : w.grownBy w1 cv.ownBlock := grown_from hgr rfl rfl rfl (by simp <;> omega) (fun i hi' => (Below.heap_alloc _ _ _ (by simp; omega)).trans (Below.heap_alloc _ _ _ hi'))
    exact ⟨rfl, mem_code HGG.out HO.out HL.out HPL.out HF.out ho hgr2 (by
      rcases hat with hat | hat
      · exact .inl hat
      · right; simp at hat; omega)⟩
theorem do_any (w : World) (g : Nat) (s : BS) (F : Nat → Prop) (h : Bld w g s F) (hn : s.code.length < 1000000) (o a b c k : Int) :
    Calls Tryd.prog 22 #[.pointer (some ⟨g, 0, none⟩), .agg #[.int .i64 o, .int .i64 a, .int .i64 b, .int .i64 c, .int .u32 k]] w (BPost w g F (s.do_ ⟨o, a, b, c, k⟩)) :=
  (do_mem w g s F h.mem hn o a b c k).mono fun _ _ ⟨he, F', hm, hs⟩ => ⟨he, F', ⟨good_do _ _ h.good, hm⟩, hs⟩

def retT : Ending := .returned (.tuple #[])
/-! ### The calls that add one instruction -/
theorem set_any (w : World) (g : Nat) (s : BS) (F : Nat → Prop) (h : Bld w g s F) (hn : s.code.length < 1000000) (a k : Int) :
    Calls Tryd.prog 24 #[.pointer (some ⟨g, 0, none⟩), .int .i64 a, .int .u32 k] w (BPost w g F (s.set_ a k)) := by
  go_enter Tryd.func24, Tryd.ntmps24
  go_wp2_with fail
  refine (do_any _ g s F h hn _ _ _ _ _).mono ?_; rintro e w' ⟨rfl, hb⟩
  go_wp2_with fail
  go_end0
  exact ⟨rfl, hb⟩
theorem alu_any (w : World) (g : Nat) (s : BS) (F : Nat → Prop) (h : Bld w g s F) (hn : s.code.length < 1000000) (o a x y : Int) :
    Calls Tryd.prog 25 #[.pointer (some ⟨g, 0, none⟩), .int .i64 o, .int .i64 a, .int .i64 x, .int .i64 y] w (BPost w g F (s.alu_ o a x y)) := by
  go_enter Tryd.func25, Tryd.ntmps25
  go_wp2_with fail
  refine (do_any _ g s F h hn _ _ _ _ _).mono ?_; rintro e w' ⟨rfl, hb⟩
  go_wp2_with fail
  go_end0
  exact ⟨rfl, hb⟩
theorem ask_any (w : World) (g : Nat) (s : BS) (F : Nat → Prop) (h : Bld w g s F) (hn : s.code.length < 1000000) (o a k : Int) :
    Calls Tryd.prog 26 #[.pointer (some ⟨g, 0, none⟩), .int .i64 o, .int .i64 a, .int .u32 k] w (BPost w g F (s.ask_ o a k)) := by
  go_enter Tryd.func26, Tryd.ntmps26
  go_wp2_with fail
  refine (do_any _ g s F h hn _ _ _ _ _).mono ?_; rintro e w' ⟨rfl, hb⟩
  go_wp2_with fail
  go_end0
  exact ⟨rfl, hb⟩
theorem cas_any (w : World) (g : Nat) (s : BS) (F : Nat → Prop) (h : Bld w g s F) (hn : s.code.length < 1000000) (a c k : Int) :
    Calls Tryd.prog 27 #[.pointer (some ⟨g, 0, none⟩), .int .i64 a, .int .i64 c, .int .u32 k] w (BPost w g F (s.cas_ a c k)) := by
  go_enter Tryd.func27, Tryd.ntmps27
  go_wp2_with fail
  refine (do_any _ g s F h hn _ _ _ _ _).mono ?_; rintro e w' ⟨rfl, hb⟩
  go_wp2_with fail
  go_end0
  exact ⟨rfl, hb⟩
end Go.Proofs.YtlopmejmionnpaaDoor.As
