/- The walks of the package asm: jumps, places, the code. -/
import Derived.Test.YtlopmejmionnpaaDoorAsmB
set_option linter.unusedVariables false
namespace Go.Proofs.YtlopmejmionnpaaDoor.As
open Go.RowKit

set_option maxHeartbeats 1000000 in
theorem go_any (w : World) (g : Nat) (s : BS) (F : Nat → Prop) (h : Bld w g s F) (hn : s.code.length < 1000000) (o a : Int) (nm : ByteArray) :
    Calls Tryd.prog 21 #[.pointer (some ⟨g, 0, none⟩), .int .i64 o, .int .i64 a, .string nm] w (BPost w g F (s.go_ o a nm.data.toList)) := by
  obtain ⟨hgood, cv, pv, lv, hg, hown, hlinks, hpl, hF⟩ := h
  obtain ⟨i0, hi, hz0, hz1, hz2⟩ := info_parts infoL
  have c0 := cell_of_row w g 0 _ _ _ hg
  have c2 := cell_of_row w g 2 _ _ _ hg
  have f2 := frozen_of_row w g 2 _ _ hg
  simp at c0 c2
  have hne := own_ne hlinks hg (by decide)
  have hlt : g < w.heap.size := (Array.getElem?_eq_some_iff.1 hg).1
  have hll := hgood.links
  have HL := Lib.hid hlinks
  have HPL := Lib.hid hpl
  have HF := Lib.hid hF
  have HG := Lib.hid hgood
  have HGG := Lib.hid hg
  have HO := Lib.hid hown
  clear hpl hF hgood
  obtain ⟨n, hnn⟩ : ∃ n, n = s.links.length := ⟨_, rfl⟩
  obtain ⟨m, hmm⟩ : ∃ m, m = s.code.length := ⟨_, rfl⟩
  obtain ⟨xs, hxs⟩ : ∃ xs, xs = flatL s.links := ⟨_, rfl⟩
  have hown2 := hown
  rw [← hnn] at hll hlinks
  rw [← hmm] at hn hll hown2
  rw [← hxs] at hlinks
  have HN := Lib.hid hnn
  have HM := Lib.hid hmm
  have HX := Lib.hid hxs
  clear hnn hmm hxs hown
  -- the length of the code, as the walk reads it
  obtain ⟨ca, cc, rfl⟩ : ∃ ca cc, cv = .slice ca m cc := by
    rcases hown2.2 with ⟨rfl, hm0⟩ | ⟨g', cap, cur, rfl, _⟩
    · exact ⟨none, 0, by rw [hm0]⟩
    · exact ⟨_, _, rfl⟩
  go_enter Tryd.func21, Tryd.ntmps21
  go_wp2_with fail
  go_region_law (refine step_append_lies _ rfl (.tmp 12) (.tmp 20) 41 rfl 0 77 i0 _ 2 24 Tryd.underlying41 hi hz0 hz1 hz2 rfl (by decide) lv n xs rfl (hlinks.alloc _) ⟨w.heap.size, 0, none⟩ 1 1 [.int .i64 m, .string nm] rfl rfl (World.news_of_block (heap_alloc_new _ _)) (by simp [Value.oneCell']) (by decide) (by unfold maxLen; omega) (by omega) (Nat.zero_le _) _ rfl ?_; intro g1 cap w1 ho hgr hat hlt1; have k0 : w1.heap[g]? = some (.cells #[.slice ca m cc, pv, lv, .bool s.bad] 43 (0, 0)) := (hgr.block g (by simp; omega) (fun e => hne e.symm)).trans ((Below.heap_alloc _ _ _ hlt).trans hg); have k1 : w1.cell? ⟨g, 2, none⟩ = some lv := cell_of_row w1 g 2 _ _ _ k0; have k2 := frozen_of_row w1 g 2 _ _ k0)
  all_goals
    have hgr2 : w.grownBy w1 lv.ownBlock := grown_from hgr rfl rfl rfl (by simp <;> omega) (fun i hi' => Below.heap_alloc _ _ _ hi')
    rw [HN.out, HX.out] at ho
    obtain ⟨F1, hm1, hs1⟩ := mem_links (i := (s.code.length, nm.data.toList)) HGG.out HO.out HL.out HPL.out HF.out (by rw [HM.out] at ho; exact ho) hgr2 (by
      rcases hat with hat | hat
      · exact .inl hat
      · right; simp at hat; omega)
    rw [← HN.out] at hm1 hs1
    have HM1 := Lib.hid hm1
    have HS1 := Lib.hid hs1
    have hn2 : s.code.length < 1000000 := by rw [← HM.out]; exact hn
    have HN2 := Lib.hid hn2
    clear hm1 hs1 hn2 ho hgr hat k0 k1 k2 hgr2 hown2 c0 c2 f2 hg hlinks
    generalize w1.setCell ⟨g, 2, none⟩ (.slice (some ⟨g1, 0, none⟩) (n + 1) cap) = w2 at *
    go_wp2_with fail
    refine (do_mem _ g _ F1 HM1.out HN2.out _ _ _ _ _).mono ?_; rintro e w' ⟨rfl, F2, hm2, hs2⟩
    go_wp2_with fail
    go_end0
    exact ⟨rfl, F2, ⟨good_link s _ _ HG.out, hm2⟩, HS1.out.trans hs2⟩
end Go.Proofs.YtlopmejmionnpaaDoor.As
