/- The law AsmAdds: its walk. -/
import Derived.Test.YtlopmejmionnpaaDoorPaR
set_option linter.unusedVariables false
namespace Go.Proofs.YtlopmejmionnpaaDoor.As
open Go.RowKit

def addS (op a x y k : Int) : BS := (((BS.zero.set_ a k).alu_ op a x y).ask_ op a k).cas_ a x k
def addL (op a x y k : Int) : List Ins := [⟨1, a, 0, 0, k⟩, ⟨op, a, x, y, 0⟩, ⟨op, a, 8, 0, k⟩, ⟨21, a, 8, x, k⟩]
theorem add_out (op a x y k : Int) : (addS op a x y k).out = some (addL op a x y k) := rfl
theorem add_bad (op a x y k : Int) : (((addS op a x y k).go_ 0 0 [97]).at_ [97]).out = none := rfl
set_option maxHeartbeats 2000000 in
theorem asmAdds_any (w : World) (op : Int) (wop : (Lit.int .i64 op).wf = true) (a : Int) (wa : (Lit.int .i64 a).wf = true) (x : Int) (wx : (Lit.int .i64 x).wf = true) (y : Int) (wy : (Lit.int .i64 y).wf = true) (k : Int) (wk : (Lit.int .u32 k).wf = true) (T : TabA w) (N : NamesA w) :
    Calls Tryd.prog 6 #[.int .i64 op, .int .i64 a, .int .i64 x, .int .i64 y, .int .u32 k] w fun e w' => e = .returned (.bool true) ∧ Below w.heap.size w w' := by
  have HT := Lib.hid T
  have HN := Lib.hid N
  clear T N wop wa wx wy wk
  go_enter Tryd.func6, Tryd.ntmps6
  go_wp2_with fail
  refine (awake_any _ HT.out HN.out).mono ?_
  rintro e w1 ⟨rfl, hb1⟩
  have HB1 := Lib.hid hb1
  have HT1 := Lib.hid (HT.out.below hb1 (Nat.le_refl _))
  clear hb1
  go_wp2_with fail
  have hbb := BB.new w1 (fun _ => False) (fun _ e => e.elim)
  obtain ⟨g, hg⟩ : ∃ g, w1.heap.size = g := ⟨_, rfl⟩
  rw [hg] at hbb ⊢
  clear hg
  generalize w1.alloc (.cells #[.slice none 0 0, .map none, .slice none 0 0, .bool false] 43) = W at hbb ⊢
  have HBB := Lib.hid hbb
  clear hbb
  refine (HBB.out.code (HT1.out.below HBB.out.bel (Nat.le_refl _)).isa (by decide) (fun p hp => by cases hp)).mono ?_
  rintro e w2 ⟨hbb, hb2, hc⟩
  obtain ⟨A0, c0, rfl⟩ : ∃ A0 c0, e = .returned (.tuple #[.slice A0 0 c0, .bool true]) := by
    rcases hc with ⟨h, _⟩ | ⟨l, v, h, he, ho⟩
    · cases h
    · obtain rfl : [] = l := by injection h
      obtain ⟨A, cap, rfl⟩ := (Rd.of_own ho).form
      exact ⟨A, cap, he⟩
  have HBB2 := Lib.hid hbb
  clear hbb hb2 hc HBB
  go_wp2_with fail
  refine (HBB2.out.step (fun F hF => set_any _ g _ F hF (by decide) a k)).mono ?_
  rintro e w3 ⟨rfl, hbb, _, _⟩
  have HBB3 := Lib.hid hbb
  clear hbb HBB2
  go_wp2_with fail
  refine (HBB3.out.step (fun F hF => alu_any _ g _ F hF (show 1 < 1000000 by decide) op a x y)).mono ?_
  rintro e w4 ⟨rfl, hbb, _, _⟩
  have HBB4 := Lib.hid hbb
  clear hbb HBB3
  go_wp2_with fail
  refine (HBB4.out.step (fun F hF => ask_any _ g _ F hF (show 2 < 1000000 by decide) op a k)).mono ?_
  rintro e w5 ⟨rfl, hbb, _, _⟩
  have HBB5 := Lib.hid hbb
  clear hbb HBB4
  go_wp2_with fail
  refine (HBB5.out.step (fun F hF => cas_any _ g _ F hF (show 3 < 1000000 by decide) a x k)).mono ?_
  rintro e w6 ⟨rfl, hbb, _, _⟩
  have HBB6 : Hid (BB w1 w6 g (addS op a x y k) (fun _ => False)) := Lib.hid hbb
  clear hbb HBB5
  go_wp2_with fail
  refine (HBB6.out.code (HT1.out.below HBB6.out.bel (Nat.le_refl _)).isa (show 4 < 1000000 by decide) (fun p hp => by cases hp)).mono ?_
  rintro e w7 ⟨_, hb7, hc⟩
  obtain ⟨v, rfl, ho⟩ : ∃ v, e = .returned (.tuple #[v, .bool true]) ∧ w7.ownsRow w6.heap.size 34 5 v 4 (flat (addL op a x y k)) := by
    rcases hc with ⟨h, _⟩ | ⟨l, v, h, he, ho⟩
    · rw [add_out] at h; cases h
    · rw [add_out] at h
      obtain rfl : addL op a x y k = l := by injection h
      exact ⟨v, he, ho⟩
  have HBB7 := Lib.hid (HBB6.out.keep hb7 (fun k => v.ownBlock = some k) (fun k hk => .inr (ho.lt k hk)))
  have HRD7 := Lib.hid (Rd.of_own ho)
  have HOW7 := Lib.hid ho
  clear hc ho hb7 HBB6
  go_wp2_with fail
  obtain ⟨Y, hY⟩ : ∃ Y : Obj, Y = .cells #[.int .i64 1, .int .i64 a, .int .i64 0, .int .i64 0, .int .u32 k, .int .i64 op, .int .i64 a, .int .i64 x, .int .i64 y, .int .u32 0, .int .i64 op, .int .i64 a, .int .i64 8, .int .i64 0, .int .u32 k, .int .i64 21, .int .i64 a, .int .i64 8, .int .i64 x, .int .u32 k] 34 := ⟨_, rfl⟩
  rw [← hY]
  have hbY : Below w7.heap.size w7 (w7.alloc Y) := (Below.refl _ _).alloc (Nat.le_refl _) _
  have hrdY : Rd (w7.alloc Y) 5 (.slice (some ⟨w7.heap.size, 0, none⟩) 4 4) 4 (flat (addL op a x y k)) := by
    refine ⟨_, _, rfl, Nat.le_refl _, rfl, .inr ⟨w7.heap.size, 0, rfl, by simp, fun j u hu => ?_⟩⟩
    rw [Nat.zero_add, hY, World.cell?_alloc_new]
    simpa [flat, addL, Ins.cells] using hu
  have HBB8 := Lib.hid (HBB7.out.keep hbY (fun k => v.ownBlock = some k ∨ k = w7.heap.size) (fun k hk => by
    rcases hk with hk | hk
    · exact .inl hk
    · exact .inr ⟨by omega, by simp; omega⟩))
  have HR1 := Lib.hid (HRD7.out.below hbY (Nat.le_refl _))
  have HR2 := Lib.hid hrdY
  obtain ⟨yb, hyb⟩ : ∃ yb, w7.heap.size = yb := ⟨_, rfl⟩
  rw [hyb] at HR2 HBB8 ⊢
  generalize w7.alloc Y = w8 at HBB8 HR1 HR2 ⊢
  clear hbY hrdY hY HBB7 HRD7 hyb
  refine (HBB8.out.step (fun F hF => go_any _ g _ F hF (show 4 < 1000000 by decide) 0 0 ⟨#[97]⟩)).mono ?_
  rintro e w9 ⟨rfl, hbb, hz9, hk⟩
  have HBB9 := Lib.hid hbb
  have HK9 := Lib.hid hk
  clear hbb hk
  go_wp2_with fail
  refine (HBB9.out.step (fun F hF => at_any _ g _ F hF (show 5 < 1000000 by decide) (show 0 < 1000000 by decide) ⟨#[97]⟩ (by decide))).mono ?_
  rintro e w10 ⟨rfl, hbb, hz10, hk⟩
  have HBB10 : Hid (BB w1 w10 g (((addS op a x y k).go_ 0 0 [97]).at_ [97]) (fun k => v.ownBlock = some k ∨ k = yb)) := Lib.hid hbb
  have HK10 := Lib.hid hk
  clear hbb hk HBB9
  go_wp2_with fail
  refine (HBB10.out.code (HT1.out.below HBB10.out.bel (Nat.le_refl _)).isa (show 5 < 1000000 by decide) (fun p hp => by
    have : p = (4, [97]) := List.mem_singleton.1 hp
    rw [this]; decide)).mono ?_
  rintro e w11 ⟨hbb, hb11, hc⟩
  obtain rfl : e = .returned (.tuple #[.slice none 0 0, .bool false]) := by
    rcases hc with ⟨_, he⟩ | ⟨l, v, h, he, ho⟩
    · exact he
    · rw [add_bad] at h; cases h
  have hk : ∀ k, (v.ownBlock = some k ∨ k = yb) → w11.heap[k]? = w8.heap[k]? := fun k hk =>
    (hb11.block k (by obtain ⟨F, _, _, _, h⟩ := HBB10.out; exact (h k hk).2)).trans ((HK10.out k hk).trans (HK9.out k hk))
  have hz : w8.heap.size ≤ w11.heap.size := by have := hb11.size; omega
  have HQ1 := Lib.hid (HR1.out.keep hz (fun b off cap e => hk b (.inl (by rw [e]; rfl))))
  have HQ2 := Lib.hid (HR2.out.keep hz (fun b off cap e => hk b (.inr (by injection e with e; injection e with e; injection e with e; exact e.symm))))
  have HBE := Lib.hid hbb.bel
  clear hbb hb11 hc hk hz
  obtain ⟨vA, vc, rfl⟩ := HQ1.out.form
  go_wp2_with fail
  refine (same04_any _ _ _ (addL op a x y k) 4 rfl HQ1.out HQ2.out (by decide)).mono ?_
  rintro e w12 ⟨rfl, m, rfl⟩
  go_wp2_with fail
  go_ret
  exact ⟨rfl, below_dn (HB1.out.trans (HBE.out.mono HB1.out.size)) m⟩
end Go.Proofs.YtlopmejmionnpaaDoor.As
