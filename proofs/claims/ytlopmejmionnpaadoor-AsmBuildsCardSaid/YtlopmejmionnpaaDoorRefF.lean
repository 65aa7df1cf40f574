/- The walks of the package deadlatchref04: places among lines. -/
import Derived.Test.YtlopmejmionnpaaDoorRefE
import Derived.Test.YtlopmejmionnpaaDoorRd
import Derived.BigQuiet
import Derived.Deep.QuietTactic
set_option linter.unusedVariables false
namespace Go.Proofs.YtlopmejmionnpaaDoor.As
open Go.RowKit

theorem place_any (w : World) (v : Value) (ls : List B8) (nm : ByteArray) (q : Nat) (hq : ls.length = q) (h : Rd w 1 v q (ls.map str)) (hn : ls.length < 1000000) (hm : nm.size ≤ 1000000) (hls : ∀ l ∈ ls, l.length ≤ 1000000) :
    Calls Tryd.prog 34 #[v, .string nm] w fun e w' => e = .returned (.int .i64 (placeB ls nm.data.toList)) ∧ ∃ m, w' = w.drewN m := by
  subst hq
  obtain ⟨A, cap, rfl⟩ := h.form
  have HR := Lib.hid h
  clear h
  obtain ⟨r, hr⟩ : ∃ r, r = placeB ls nm.data.toList := ⟨_, rfl⟩
  rw [← hr]
  have HR0 := Lib.hid hr
  clear hr
  go_enter Tryd.func34, Tryd.ntmps34
  go_wp2_with fail
  go_loopw [5, 6] (fun nv iv wr => ∃ (i n : Nat), Hid (∃ m, wr = w.drewN m) ∧ Hid (Rd wr 1 (.slice A ls.length cap) ls.length (ls.map str)) ∧ i ≤ ls.length ∧ n ≤ i ∧ iv = .int .i64 i ∧ nv = .int .i64 n ∧ Hid (r = placeGo nm.data.toList n (ls.drop i))) (fun _ i _ => ls.length - (intOf i).toNat)
  case atStart => exact ⟨0, 0, ⟨0, rfl⟩, HR, by omega, by omega, rfl, rfl, HR0⟩
  case round =>
    obtain ⟨i, n, HB, HRW, hil, hni, rfl, rfl, HE⟩ := hrel
    by_cases hlt : i < ls.length
    · obtain ⟨b, off, rfl, hb, hcell⟩ := HRW.out.cells (by omega)
      obtain ⟨l, hl⟩ : ∃ l, ls[i]? = some l := ⟨_, List.getElem?_eq_getElem hlt⟩
      obtain ⟨t, ht⟩ : ∃ t : ByteArray, t.data.toList = l := ⟨⟨l.toArray⟩, rfl⟩
      have hc : wr.cell? ⟨b, off + i, none⟩ = some (.string t) := by
        rw [hcell i (str l) (by rw [List.getElem?_map, hl]; rfl), ← ht]; rfl
      have htn := toList_len t
      have htm : t.size ≤ 1000000 := by rw [← htn, ht]; exact hls l (List.mem_of_getElem? hl)
      have hdr : ls.drop i = l :: ls.drop (i + 1) := by
        rw [List.drop_eq_getElem_cons hlt, (List.getElem?_eq_some_iff.1 hl).2]
      have hE := HE.out
      rw [hdr, placeGo] at hE
      clear hcell hl hdr HE
      by_cases h0 : l = []
      · rw [if_pos h0] at hE
        have HE := Lib.hid hE
        have hemp : t.toList.isEmpty = true := by rw [ByteArray.toList_eq, ht, h0]; rfl
        clear hE h0 ht
        go_wp2_with fail
        exact ⟨⟨i + 1, n, HB, HRW, by omega, by omega, by simp, rfl, HE⟩, by simp [intOf]; omega⟩
      · rw [if_neg h0] at hE
        have hemp : t.toList.isEmpty = false := by rw [ByteArray.toList_eq, ht]; exact List.isEmpty_eq_false_iff.2 h0
        have h1 : 0 < t.size := by rw [← htn, ht]; exact List.length_pos_iff.2 h0
        by_cases heq : l = nm.data.toList ++ [58]
        · rw [if_pos heq] at hE
          have hb2 : (t.toList == (nm ++ ⟨#[58]⟩).toList) = true := by
            rw [ByteArray.toList_eq, ByteArray.toList_eq, ht, heq, ByteArray.data_append, Array.toList_append]
            exact beq_self_eq_true _
          have HE := Lib.hid hE
          clear hE h0 heq ht
          go_wp2_with fail
          go_ret
          exact ⟨by rw [HE.out] <;> rfl, HB.out⟩
        · rw [if_neg heq] at hE
          have hb2 : (t.toList == (nm ++ ⟨#[58]⟩).toList) = false := by
            rw [ByteArray.toList_eq, ByteArray.toList_eq, ht, ByteArray.data_append, Array.toList_append]
            exact beq_eq_false_iff_ne.2 heq
          obtain ⟨c, hcl⟩ : ∃ c, t.data.toList[t.size - 1]? = some c := ⟨_, List.getElem?_eq_getElem (by omega)⟩
          have hla : l.getLast? = some c := by rw [List.getLast?_eq_getElem?, ← ht, htn]; exact hcl
          obtain ⟨hi', hcc⟩ := at_byte hcl
          rw [hla] at hE
          clear hcl hla h0 heq ht
          have f1 : IntKind.i64.wrap ((t.size : Int) - 1) = (t.size : Int) - 1 := by rw [IntKind.wrap_i64]; omega
          have f2 : (0 : Int) ≤ (t.size : Int) - 1 := by omega
          have f3 : (t.size : Int) - 1 < (t.size : Int) := by omega
          have f4 : ((t.size : Int) - 1).toNat = t.size - 1 := by omega
          by_cases hd : c = 58
          · have d2 : ((c.toNat : Int) != 58) = false := by rw [hd]; rfl
            rw [if_pos (by rw [hd])] at hE
            have HE := Lib.hid hE
            clear hE hd
            go_wp2_with fail
            go_quiet (fail)
            go_wp2_with fail
            exact ⟨⟨i + 1, n, (by obtain ⟨m, e⟩ := HB.out; exact ⟨m + nq, by rw [e, World.drewN_drewN]⟩), HRW.out.below (below_drewN nq (Below.refl _ _)) (Nat.le_refl _), by omega, by omega, by simp, rfl, HE⟩, by simp [intOf]; omega⟩
          · have d2 : ((c.toNat : Int) != 58) = true := by have := byte_ne hd; exact (congrArg not this : _)
            rw [if_neg (by intro e; injection e with e; exact hd e)] at hE
            have HE := Lib.hid hE
            clear hE hd
            go_wp2_with fail
            go_quiet (fail)
            go_wp2_with fail
            exact ⟨⟨i + 1, n + 1, (by obtain ⟨m, e⟩ := HB.out; exact ⟨m + nq, by rw [e, World.drewN_drewN]⟩), HRW.out.below (below_drewN nq (Below.refl _ _)) (Nat.le_refl _), by omega, by omega, by simp, by simp, by show _ = _; rw [HE.out]; simp⟩, by simp [intOf]; omega⟩
    · have hE := HE.out
      rw [List.drop_eq_nil_of_le (by omega), placeGo] at hE
      have HE := Lib.hid hE
      clear hE
      go_wp2_with fail
      go_ret
      exact ⟨by rw [HE.out] <;> rfl, HB.out⟩
end Go.Proofs.YtlopmejmionnpaaDoor.As
