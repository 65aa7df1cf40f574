/- The walk of (*pick.dues).Push. -/
import Derived.Test.YtckmkaeopnnbbaaGreatDoorNL
import Derived.Test.YtckmkaeopnnbbaaGreatDoorEvB
import Derived.Deep.AppendLies
import Derived.Deep.RegionHeldLaw
set_option linter.unusedVariables false
set_option linter.unusedSimpArgs false
set_option maxRecDepth 20000
namespace Go.Proofs.YtckmkaeopnnbbaaGreatDoor.As.T
open Go.RowKit

def flatI : List It → List Value
 | [] => []
 | x :: l => .int .i64 (x.k : Nat) :: .int .i64 (x.t : Nat) :: .int .i64 x.due :: flatI l
theorem flatI_len : ∀ l, (flatI l).length = l.length * 3
 | [] => rfl
 | x :: l => by show (flatI l).length + 1 + 1 + 1 = _; rw [flatI_len l, List.length_cons]; omega
theorem flatI_snoc : ∀ (l : List It) (x : It), flatI (l ++ [x]) = flatI l ++ [.int .i64 (x.k : Nat), .int .i64 (x.t : Nat), .int .i64 x.due]
 | [], x => rfl
 | y :: l, x => by show _ :: _ :: _ :: flatI (l ++ [x]) = _; rw [flatI_snoc l x]; rfl
theorem flatI_get : ∀ (l : List It) (j : Nat) (x : It), l[j]? = some x → (flatI l)[j * 3]? = some (.int .i64 (x.k : Nat)) ∧ (flatI l)[j * 3 + 1]? = some (.int .i64 (x.t : Nat)) ∧ (flatI l)[j * 3 + 2]? = some (.int .i64 x.due)
 | [], j, x, h => by cases h
 | y :: l, 0, x, h => by obtain rfl := Option.some.inj h; exact ⟨rfl, rfl, rfl⟩
 | y :: l, j + 1, x, h => by
  have ih := flatI_get l j x h
  rw [show (j + 1) * 3 = j * 3 + 1 + 1 + 1 by omega]
  exact ih
theorem du_of_own {W : World} {base : Nat} {v : Value} {l : List It} (h : W.ownsRow base 159 3 v l.length (flatI l)) (hn : 0 < l.length) : ∃ gs cap, v = duV gs l.length cap ∧ base ≤ gs ∧ gs < W.heap.size ∧ cap ≤ maxLen ∧ DuIs W gs cap l := by
 rcases h.2 with ⟨_, h0⟩ | ⟨g, cap, cur, hv, hb, hg, hc, hm, hs, ht⟩
 ·omega
 ·refine ⟨g, cap, hv, hb, (Array.getElem?_eq_some_iff.1 hg).1, hm, cur, hg, hs, hc, fun j x hx => ?_⟩
  have hj : j < l.length := (List.getElem?_eq_some_iff.1 hx).1
  obtain ⟨e1, e2, e3⟩ := flatI_get l j x hx
  have key : ∀ u, u < l.length * 3 → cur[u]? = (flatI l)[u]? := fun u hu => by
   rw [← ht, List.getElem?_take, if_pos hu, Array.getElem?_toList]
  rw [key _ (by omega), key _ (by omega), key _ (by omega)]
  exact ⟨e1, e2, e3⟩
theorem own_of_du {W : World} {base gs cap : Nat} {l : List It} (h : DuIs W gs cap l) (hb : base ≤ gs) (hm : cap ≤ maxLen) : W.ownsRow base 159 3 (duV gs l.length cap) l.length (flatI l) := by
 obtain ⟨arr, h1, h2, h3, h4⟩ := h
 refine ⟨flatI_len l, .inr ⟨gs, cap, arr, rfl, hb, h1, h3, hm, h2, ?_⟩⟩
 refine List.ext_getElem? (fun u => ?_)
 rw [List.getElem?_take]
 by_cases hu : u < l.length * 3
 ·rw [if_pos hu, Array.getElem?_toList]
  obtain ⟨x, hx⟩ : ∃ x, l[u / 3]? = some x := ⟨_, List.getElem?_eq_getElem (by omega)⟩
  obtain ⟨e1, e2, e3⟩ := flatI_get l _ x hx
  obtain ⟨f1, f2, f3⟩ := h4 _ x hx
  have : u = u / 3 * 3 ∨ u = u / 3 * 3 + 1 ∨ u = u / 3 * 3 + 2 := by omega
  rcases this with e | e | e
  ·rw [e, e1, f1]
  ·rw [e, e2, f2]
  ·rw [e, e3, f3]
 ·rw [if_neg hu, List.getElem?_eq_none (by rw [flatI_len]; omega)]
theorem infoI : (Tryz.prog.info? 159).map (fun i => (i.zero, i.size, i.bytes)) = some (some (.agg #[.int .i64 0, .int .i64 0, .int .i64 0]), 3, 24) := by kernel_rfl
theorem assert_item (v : Value) (w : World) : (Instr.typeAssert (.iface 159 v) 20 159 false).run Tryz.prog w = .ok v w := by
 simp [Instr.typeAssert, run_underlying Tryz.underlying159, go_sem, Result.andThen]
theorem push_any (w : World) (gd base : Nat) (v : Value) (l : List It) (x : It) (hgd : w.heap[gd]? = some (.cells #[v] 156 (0, 0))) (ho : w.ownsRow base 159 3 v l.length (flatI l)) (hne : v.ownBlock ≠ some gd) (hb : base ≤ w.heap.size) (hn : l.length ≤ 100) :
  Calls Tryz.prog 191 #[.pointer (some ⟨gd, 0, none⟩), .iface 159 (.agg #[.int .i64 (x.k : Nat), .int .i64 (x.t : Nat), .int .i64 x.due])] w fun e w' => e = .returned (.tuple #[]) ∧ ∃ g cap, w'.heap[gd]? = some (.cells #[duV g (l.length + 1) cap] 156 (0, 0)) ∧ w'.ownsRow base 159 3 (duV g (l.length + 1) cap) (l.length + 1) (flatI (l ++ [x])) ∧ (v.ownBlock = some g ∨ w.heap.size ≤ g) ∧ g < w'.heap.size ∧ Only (fun b => b = gd ∨ v.ownBlock = some b) w w' := by
 obtain ⟨i0, hi, hz0, hz1, hz2⟩ := info_parts infoI
 have hc := cell_of_row w gd 0 _ _ _ hgd
 have hfz := frozen_of_row w gd 0 _ _ hgd
 have hlt : gd < w.heap.size := (Array.getElem?_eq_some_iff.1 hgd).1
 simp only [List.getElem?_toArray, List.getElem?_cons_zero] at hc
 have has := assert_item
 have hown : ∀ W, Only (fun _ => False) w W → W.ownsRow base 159 3 v l.length (flatI l) := fun W h => own_only ho h (fun _ _ f => f)
 have hal : ∀ o, Only (fun _ => False) w (w.alloc o).drew := fun o => ⟨rfl, rfl, rfl, by simp, fun k hk _ => Below.heap_alloc _ _ _ hk⟩
 have kS : ∀ W : World, W.heap[gd]? = w.heap[gd]? → W.cell? ⟨gd, 0, none⟩ = some v := fun W hW => by
  have := cell_of_row W gd 0 _ _ _ (hW.trans hgd)
  exact this
 have kF : ∀ W : World, W.heap[gd]? = w.heap[gd]? → W.frozen? ⟨gd, 0, none⟩ = false := fun W hW => frozen_of_row W gd 0 _ _ (hW.trans hgd)
 have KA := Lib.hid (show ∀ o, (w.alloc o).drew.heap[gd]? = w.heap[gd]? from fun o => Below.heap_alloc _ _ _ hlt)
 have HL := Lib.hid hlt
 have HG := Lib.hid hgd
 have HO := Lib.hid hown
 have HN := Lib.hid hn
 clear hgd ho hown hc hfz hlt
 go_enter Tryz.func191, Tryz.ntmps191
 go_upto_region 0 with fail
 refine wp_region_g (fun W => W.heap[gd]? = w.heap[gd]?) 9 (by kernel_rfl) ?_
 refine AnyG_take (i := 0) (oi := _) (v := ?_) rfl (by kernel_rfl) (fun _ _ _ h => h) (Or.inl ⟨by rfl, ?_⟩) rfl ?_
 rotate_left
 ·intro W hSw; (try dsimp only at hSw); go_simp; first | done | with_reducible rfl
 simp only [Act.put, Zq1, Zq2, Zq3, Zq4, Zq5, Zq6]
 refine AnyG_take (i := 1) (oi := _) (v := ?_) rfl (by kernel_rfl) (fun _ _ _ h => h) (Or.inl ⟨by rfl, ?_⟩) rfl ?_
 rotate_left
 ·intro W hSw; (try dsimp only at hSw); go_simp; first | done | with_reducible rfl
 simp only [Act.put, Zq1, Zq2, Zq3, Zq4, Zq5, Zq6]
 refine AnyG_take (i := 2) (oi := _) (v := ?_) rfl (by kernel_rfl) (fun _ _ _ h => h) (Or.inl ⟨by rfl, ?_⟩) rfl ?_
 rotate_left
 ·intro W hSw; (try dsimp only at hSw); go_simp; first | done | with_reducible rfl
 simp only [Act.put, Zq1, Zq2, Zq3, Zq4, Zq5, Zq6]
 refine AnyG_take (i := 3) (oi := _) (v := ?_) rfl (by kernel_rfl) (fun _ _ _ h => h) (Or.inl ⟨by rfl, ?_⟩) rfl ?_
 rotate_left
 ·intro W hSw; (try dsimp only at hSw); go_simp; first | done | with_reducible rfl
 simp only [Act.put, Zq1, Zq2, Zq3, Zq4, Zq5, Zq6]
 refine AnyG_take (i := 4) (oi := _) (v := ?_) rfl (by kernel_rfl) (fun _ _ _ h => h) (Or.inl ⟨by rfl, ?_⟩) rfl ?_
 rotate_left
 ·intro W hSw; (try dsimp only at hSw); go_simp; first | done | with_reducible rfl
 simp only [Act.put, Zq1, Zq2, Zq3, Zq4, Zq5, Zq6]
 refine AnyG_take (i := 5) (oi := _) (v := ?_) rfl (by kernel_rfl) (fun _ _ _ h => h) (Or.inl ⟨by rfl, ?_⟩) rfl ?_
 rotate_left
 ·intro W hSw; (try dsimp only at hSw); go_simp; first | done | with_reducible rfl
 simp only [Act.put, Zq1, Zq2, Zq3, Zq4, Zq5, Zq6]
 refine AnyG_one (i := 6) rfl (by kernel_rfl) ?_
 refine wpOp_of rfl rfl ?_
 try simp only [Act.put, Zq1, Zq2, Zq3, Zq4, Zq5, Zq6]
 go_simp
 refine ⟨KA.out _, ?_⟩
 try simp only [Act.put, Zq1, Zq2, Zq3, Zq4, Zq5, Zq6]
 refine AnyG_one (i := 7) rfl (by kernel_rfl) ?_
 refine wpOp_of rfl rfl ?_
 try simp only [Act.put, Zq1, Zq2, Zq3, Zq4, Zq5, Zq6]
 refine wp_append_lies _ (.tmp 7) (.tmp 10) 156 (by rfl) base 159 i0 _ 3 24 Tryz.underlying156 hi hz0 hz1 hz2 (by rfl) (by decide) v l.length (flatI l) (by rfl) (HO.out _ (hal _)) ⟨w.heap.size, 0, none⟩ 1 1 [.int .i64 (x.k : Nat), .int .i64 (x.t : Nat), .int .i64 x.due] (by rfl) rfl (World.news_of_block (heap_alloc_new _ _)) (by simp [Value.oneCell']) (by decide) (by have := HN.out; unfold maxLen; omega) (by have := HN.out; omega) (by simp; omega) _ rfl ?_
 intro g cap w1 ho1 hgr hat hlt1
 have hk0 : w1.heap[gd]? = w.heap[gd]? := (hgr.block gd (by have := HL.out; simp; omega) (Ne.symm hne)).trans (KA.out _)
 have HR := Lib.hid (And.intro ho1 (And.intro hgr (And.intro hat hlt1)))
 clear ho1 hgr hat hlt1
 refine ⟨fun _ _ => hk0, ?_⟩
 try simp only [Act.put, Zq1, Zq2, Zq3, Zq4, Zq5, Zq6]
 refine AnyG_take (i := 8) (oi := _) (v := ?_) rfl (by kernel_rfl) (fun _ _ _ h => h) (Or.inl ⟨by rfl, ?_⟩) hk0 ?_
 rotate_left
 ·intro W hSw; (try dsimp only at hSw); go_simp; first | done | with_reducible rfl
 simp only [Act.put, Zq1, Zq2, Zq3, Zq4, Zq5, Zq6]
 refine AnyG_one (i := 9) rfl (by kernel_rfl) ?_
 refine wpOp_of rfl rfl ?_
 try simp only [Act.put, Zq1, Zq2, Zq3, Zq4, Zq5, Zq6]
 go_simp
 refine ⟨by kernel_rfl, ?_⟩
 obtain ⟨ho1, hgr, hat, hlt1⟩ := HR.out
 have hbl := heap_setCell_same w1 gd 0 _ _ (.slice (some ⟨g, 0, none⟩) (l.length + 1) cap) (hk0.trans HG.out)
 have ho2 : Only (fun b => b = gd) w1 (w1.setCell ⟨gd, 0, none⟩ (.slice (some ⟨g, 0, none⟩) (l.length + 1) cap)) := (Only.refl (fun b => b = gd) w1).set1 (p := ⟨gd, 0, none⟩) rfl _
 have hgne : g ≠ gd := by
  rcases hat with e | e
  ·intro e2; rw [e2] at e; exact hne e
  ·have := HL.out; simp at e; omega
 go_end0
 refine ⟨rfl, g, cap, hbl, ?_, ?_, ?_, ?_⟩
 ·rw [flatI_snoc]
  exact own_only (F := fun b => b = gd) ho1 ho2 (fun k hk (e : k = gd) => hgne (by rw [← e]; exact Option.some.inj hk))
 ·rcases hat with e | e
  ·exact .inl e
  ·simp at e; right; omega
 ·have := ho2.size; omega
 ·refine (Only.trans (F := fun b => b = gd ∨ v.ownBlock = some b) (F' := fun b => v.ownBlock = some b) ((hal _).mono (fun _ f => f.elim)) ⟨hgr.os, hgr.tape, hgr.output, hgr.size, fun k hk hn => hgr.block k hk (fun e => hn e.symm)⟩ (fun k hk => .inl (.inr hk))).trans ho2 (fun k hk => .inl (.inl hk))
end Go.Proofs.YtckmkaeopnnbbaaGreatDoor.As.T
