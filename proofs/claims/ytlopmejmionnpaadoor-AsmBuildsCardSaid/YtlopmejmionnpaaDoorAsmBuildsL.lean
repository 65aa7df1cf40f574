/- The law AsmBuilds: its walk. -/
import Derived.Test.YtlopmejmionnpaaDoorPaAC
import Derived.Test.YtlopmejmionnpaaDoorAsmAt
import Derived.StillTailTactics
import Derived.Deep.DeepMust
set_option linter.unusedVariables false
set_option linter.unusedSimpArgs false
namespace Go.Proofs.YtlopmejmionnpaaDoor.As
open Go.RowKit

theorem has84b_any (w : World) (op : Int) : Calls Tryd.prog 19 #[.int .i64 op, .int .u8 84] w fun e w' => e = .returned (.bool (hasB op 84)) ∧ Below w.heap.size w w' := has_any w op 84
theorem two_awake2 {w w1 : World} (T : TabA w) (N : NamesA w) (hb : Below w.heap.size w w1) : TabA w1 ∧ NamesA w1 := ⟨T.below hb (Nat.le_refl _), N.of_blk (hb.block _ N.lt)⟩
def lkS (names : List B8) (x : Ins) : B8 := (Bu.lk names x).getD []
/-- The builder and the lists behind so many instructions. -/
abbrev St (names : List B8) (l : List Ins) (i : Nat) : BS := Bu.stB names (l.take i)
theorem st_code (names : List B8) (l : List Ins) (i : Nat) (h : l.length ≤ 200) : (St names l i).code.length ≤ 200 ∧ (St names l i).places.length ≤ 200 := by
  have h1 := (Bu.stB_code names (l.take i)).1
  have h2 := Bu.stB_places names (l.take i)
  rw [h1, List.length_map]
  have h3 : (l.take i).length ≤ 200 := by rw [List.length_take]; omega
  exact ⟨h3, Nat.le_trans h2 h3⟩
theorem st_succ {names : List B8} {l : List Ins} {i : Nat} {x : Ins} (hx : l[i]? = some x) : St names l (i + 1) = Bu.insS names (Bu.nameS names (St names l i) i) x := by
  have hi := (List.getElem?_eq_some_iff.1 hx).1
  unfold St
  rw [take_snoc hx, Bu.stB_snoc, List.length_take, Nat.min_eq_left (by omega)]
  rfl
theorem map_succ {α : Type} {l : List Ins} {i : Nat} {x : Ins} (hx : l[i]? = some x) (q : Ins → α) : (l.take (i + 1)).map q = (l.take i).map q ++ [q x] := by
  rw [take_snoc hx, List.map_append]; rfl
theorem nameS_code2 (names : List B8) (s : BS) (i : Nat) : (Bu.nameS names s i).code.length = s.code.length := by rw [(Bu.nameS_code names s i).1]
theorem nameS_places2 (names : List B8) (s : BS) (i : Nat) : (Bu.nameS names s i).places.length ≤ s.places.length + 1 := by
  unfold Bu.nameS BS.at_
  split
  · omega
  · split
    · show s.places.length ≤ _; omega
    · simp
theorem find_insS (names : List B8) (s : BS) (x : Ins) : (Bu.insS names s x).find = s.find := by
  unfold BS.find
  rw [(Bu.insS_code names s x).2.1]
theorem bad_insS (names : List B8) (s : BS) (x : Ins) : (Bu.insS names s x).bad = s.bad := (Bu.insS_code names s x).2.2.1
theorem links_len (names : List B8) (l : List Ins) (h : ∀ x ∈ names, x.length ≤ maxLen) : ∀ p ∈ (Bu.stB names l).links, p.2.length ≤ maxLen := by
  rw [(Bu.stB_code names l).2]
  have : ∀ (l : List Ins) (i : Nat), ∀ p ∈ Bu.lkFrom names i l, p.2.length ≤ maxLen := by
    intro l
    induction l with
    | nil => intro i p hp; cases hp
    | cons x r ih =>
      intro i p hp
      unfold Bu.lkFrom at hp
      split at hp
      · next nm e =>
        rcases List.mem_cons.1 hp with rfl | hp
        · unfold Bu.lk at e
          split at e
          · next hc =>
            injection e with e
            show nm.length ≤ maxLen
            rw [← e]
            by_cases hlt : x.k.toNat % names.length < names.length
            · rw [List.getD_eq_getElem?_getD, List.getElem?_eq_getElem hlt]
              exact h _ (List.getElem_mem hlt)
            · rw [List.getD_eq_getElem?_getD, List.getElem?_eq_none (by omega)]
              exact Nat.zero_le _
          · cases e
        · exact ih _ p hp
      · exact ih _ p hp
  exact this l 0
theorem lk_cases (names : List B8) (x : Ins) : (hasB x.op 84 = false ∧ Bu.lk names x = none) ∨ (hasB x.op 84 = true ∧ names = [] ∧ Bu.lk names x = none) ∨ (hasB x.op 84 = true ∧ 0 < names.length ∧ ∃ nm, Bu.lk names x = some nm ∧ names[x.k.toNat % names.length]? = some nm) := by
  unfold Bu.lk
  cases h : hasB x.op 84 with
  | false => left; simp
  | true =>
    right
    cases names with
    | nil => left; simp
    | cons y r =>
      right
      refine ⟨rfl, by simp, _, by rw [if_pos ⟨rfl, by simp⟩], ?_⟩
      have hlt : x.k.toNat % (y :: r).length < (y :: r).length := Nat.mod_lt _ (by simp)
      rw [List.getD_eq_getElem?_getD, List.getElem?_eq_getElem hlt]
      rfl
theorem dreads_none2 : DReads (.map []) (fun _ => none) := dreads_none
theorem br_new (w : World) : BR w ((w.alloc (.cells #[.slice none 0 0, .map none, .slice none 0 0, .bool false] 43)).alloc (.map #[] 0)) w.heap.size (w.heap.size + 1) BS.zero BS.zero.find 0 (.slice none 0 0) (.slice none 0 0) [] [] := by
  have hb := BB.new w (fun _ => False) (fun _ e => e.elim)
  have hsz : (w.alloc (.cells #[.slice none 0 0, .map none, .slice none 0 0, .bool false] 43)).heap.size = w.heap.size + 1 := by simp
  refine ⟨hb.keep ((Below.refl _ _).alloc (Nat.le_refl _) _) _ (fun k hk => ?_), ⟨0, _, Nat.le_refl _, ?_, dreads_none⟩, by omega, World.ownsRow_nil _ _ _ _, World.ownsRow_nil _ _ _ _⟩
  · rcases hk with rfl | hk | hk
    · exact .inr ⟨by omega, by simp⟩
    · simp [Value.ownBlock] at hk
    · simp [Value.ownBlock] at hk
  · have := World.ownsMap_made (H := Unit) (w.alloc (.cells #[.slice none 0 0, .map none, .slice none 0 0, .bool false] 43)) Tryd.prog 9 (plainElem Tryd.prog 3)
    rwa [hsz] at this
theorem RdN.cell {w : World} {B : Option Addr} {m cap i : Nat} {names : List B8} {nm : B8} (h : RdN w (.slice B m cap) m names) (hx : names[i]? = some nm) : ∃ b off, B = some ⟨b, off, none⟩ ∧ b < w.heap.size ∧ w.cell? ⟨b, off + i, none⟩ = some (.string (strB nm)) := by
  obtain ⟨A, c, e, hl, h⟩ := h
  have hi := (List.getElem?_eq_some_iff.1 hx).1
  obtain ⟨b, off, e2, hlt, hc⟩ := h (by omega)
  injection e with e _ _
  exact ⟨b, off, e.trans e2, hlt, hc i nm hx⟩
theorem name_no {names : List B8} {i m : Nat} (hm : names.length = m) (h : ¬ (i < m ∧ names.getD i [] ≠ [])) (S : BS) : Bu.nameS names S i = S := by
  unfold Bu.nameS
  rw [if_pos]
  by_cases e : i < m
  · exact Classical.not_not.1 (fun h2 => h ⟨e, h2⟩)
  · rw [List.getD_eq_getElem?_getD, List.getElem?_eq_none (by omega)]; rfl
theorem name_yes {names : List B8} {i : Nat} {nm : B8} (h : names[i]? = some nm) (hne : nm ≠ []) (S : BS) : Bu.nameS names S i = S.at_ nm := by
  unfold Bu.nameS
  rw [List.getD_eq_getElem?_getD, h]
  exact if_neg hne
theorem at_found2 {S : BS} {nm : B8} {k : Nat} (h : S.find nm = some k) : S.at_ nm = { S with bad := true } := by unfold BS.at_; rw [h]; rfl
theorem at_bad2 {S : BS} {nm : B8} (h : nameOk nm = false) : S.at_ nm = { S with bad := true } := by unfold BS.at_; rw [h]; simp
theorem at_new2 {S : BS} {nm : B8} (h : S.find nm = none) (h2 : nameOk nm = true) : S.at_ nm = { S with places := S.places ++ [(nm, S.code.length)] } := by unfold BS.at_; rw [h, h2]; rfl
theorem at_find_found {S : BS} {nm : B8} {k : Nat} (h : S.find nm = some k) : (S.at_ nm).find = S.find := by rw [at_found2 h]; rfl
theorem at_find_bad {S : BS} {nm : B8} (h : nameOk nm = false) : (S.at_ nm).find = S.find := by rw [at_bad2 h]; rfl
theorem BR.to {w W : World} {g mb c c' : Nat} {s s' : BS} {f f' : B8 → Option Nat} {wv lv : Value} {want want' : List Ins} {lks lks' : List B8} (h : BR w W g mb s f c wv lv want lks) (hs : s = s') (hf : f = f') (hc : c ≤ c') (hw : want = want') (hl : lks = lks') : BR w W g mb s' f' c' wv lv want' lks' := by
  subst hs hf hw hl
  obtain ⟨b, ⟨cnt, D, hcn, hm, hd⟩, ml, ow, ol⟩ := h
  exact ⟨b, ⟨cnt, D, by omega, hm, hd⟩, ml, ow, ol⟩
theorem BR.wapp {w W w5 : World} {g mb c : Nat} {s : BS} {f : B8 → Option Nat} {wv lv v5 : Value} {want : List Ins} {lks : List B8} (h : BR w W g mb s f c wv lv want lks) {X : Obj} (x : Ins) (ho : w5.ownsRow w.heap.size 34 5 v5 (want.length + 1) (flat want ++ x.cells)) (hg : (W.alloc X).grownBy w5 wv.ownBlock) (hat : v5.ownBlock = wv.ownBlock ∨ v5.ownBlock = some (W.alloc X).heap.size) : BR w w5 g mb s f c v5 lv (want ++ [x]) lks :=
  h.wadd x ho (grown_from hg rfl rfl rfl (by simp) (fun i hi' => Below.heap_alloc _ _ _ hi')) (fun k hk => by
    rcases hat with e | e
    · rw [← e]; exact .inl hk
    · rw [e] at hk
      injection hk with hk
      right
      rw [← hk]; simp)
theorem BR.lapp {w W w5 : World} {g mb c : Nat} {s : BS} {f : B8 → Option Nat} {wv lv v5 : Value} {want : List Ins} {lks : List B8} (h : BR w W g mb s f c wv lv want lks) {X : Obj} (x : B8) (ho : w5.ownsRow w.heap.size 9 1 v5 (lks.length + 1) (strV lks ++ [.string (strB x)])) (hg : (W.alloc X).grownBy w5 lv.ownBlock) (hat : v5.ownBlock = lv.ownBlock ∨ v5.ownBlock = some (W.alloc X).heap.size) : BR w w5 g mb s f c wv v5 want (lks ++ [x]) :=
  h.ladd x ho (grown_from hg rfl rfl rfl (by simp) (fun i hi' => Below.heap_alloc _ _ _ hi')) (fun k hk => by
    rcases hat with e | e
    · rw [← e]; exact .inl hk
    · rw [e] at hk
      injection hk with hk
      right
      rw [← hk]; simp)
theorem BR.drew {w W : World} {g mb c : Nat} {s : BS} {f : B8 → Option Nat} {wv lv : Value} {want : List Ins} {lks : List B8} (h : BR w W g mb s f c wv lv want lks) : BR w W.drew g mb s f c wv lv want lks := h.below (below_drew0 (Below.refl _ _))
theorem lkS_none {names : List B8} {x : Ins} (h : Bu.lk names x = none) : lkS names x = [] := by unfold lkS; rw [h]; rfl
theorem lkS_some {names : List B8} {x : Ins} {nm : B8} (h : Bu.lk names x = some nm) : lkS names x = nm := by unfold lkS; rw [h]; rfl
theorem cd_none {names : List B8} {x : Ins} (h : Bu.lk names x = none) : Bu.cd names x = x := by unfold Bu.cd; rw [h]
theorem cd_some {names : List B8} {x : Ins} {nm : B8} (h : Bu.lk names x = some nm) : Bu.cd names x = ⟨x.op, x.a, 0, 0, 0⟩ := by unfold Bu.cd; rw [h]
theorem insS_none {names : List B8} {x : Ins} (h : Bu.lk names x = none) (S : BS) : Bu.insS names S x = S.do_ x := by unfold Bu.insS; rw [h]
theorem insS_some {names : List B8} {x : Ins} {nm : B8} (h : Bu.lk names x = some nm) (S : BS) : Bu.insS names S x = S.go_ x.op x.a nm := by unfold Bu.insS; rw [h]
def wnB (S : BS) (names : List B8) (l : List Ins) (j : Nat) : List Ins := (l.take j).map (Bu.fx S names) ++ (l.drop j).map (Bu.cd names)
theorem wnB_len (S : BS) (names : List B8) (l : List Ins) (j : Nat) : (wnB S names l j).length = l.length := by
  unfold wnB
  rw [List.length_append, List.length_map, List.length_map, ← List.length_append, List.take_append_drop]
theorem wnB_zero (S : BS) (names : List B8) (l : List Ins) : wnB S names l 0 = l.map (Bu.cd names) := rfl
theorem wnB_end (S : BS) (names : List B8) (l : List Ins) : wnB S names l l.length = l.map (Bu.fx S names) := by unfold wnB; simp
theorem wnB_get {S : BS} {names : List B8} {l : List Ins} {j : Nat} {x : Ins} (hx : l[j]? = some x) : (wnB S names l j)[j]? = some (Bu.cd names x) := by
  have hj := (List.getElem?_eq_some_iff.1 hx).1
  have hl : ((l.take j).map (Bu.fx S names)).length = j := by rw [List.length_map, List.length_take]; omega
  unfold wnB
  rw [List.getElem?_append_right (by omega), hl, Nat.sub_self, List.getElem?_map, List.getElem?_drop, Nat.add_zero, hx]; rfl
theorem wnB_succ {S : BS} {names : List B8} {l : List Ins} {j : Nat} {x : Ins} (hx : l[j]? = some x) : wnB S names l (j + 1) = (wnB S names l j).set j (Bu.fx S names x) := by
  have hj := (List.getElem?_eq_some_iff.1 hx).1
  have hl : ((l.take j).map (Bu.fx S names)).length = j := by rw [List.length_map, List.length_take]; omega
  have hd : l.drop j = x :: l.drop (j + 1) := by
    rw [List.drop_eq_getElem_cons hj]
    rw [List.getElem?_eq_getElem hj] at hx
    injection hx with hx
    rw [hx]
  unfold wnB
  rw [take_snoc hx, hd, List.map_append, List.map_cons, List.set_append_right _ _ (by omega), hl, Nat.sub_self]
  simp
theorem wnB_none {S : BS} {names : List B8} {l : List Ins} {j : Nat} {x : Ins} (hx : l[j]? = some x) (h : Bu.lk names x = none) : wnB S names l (j + 1) = wnB S names l j := by
  rw [wnB_succ hx]
  have e : Bu.fx S names x = Bu.cd names x := by unfold Bu.fx Bu.cd; rw [h]
  rw [e]
  have h1 := wnB_get (S := S) (names := names) hx
  apply List.ext_getElem?
  intro i
  rw [List.getElem?_set]
  split
  · next e =>
    subst e
    split
    · exact h1.symm
    · next hn => rw [List.getElem?_eq_none (by omega)]
  · rfl
theorem fx_some {S : BS} {names : List B8} {x : Ins} {nm : B8} (h : Bu.lk names x = some nm) : Bu.fx S names x = { Bu.cd names x with k := ((S.find nm).getD 0 : Nat) } := by unfold Bu.fx Bu.cd; rw [h]
theorem fd_some {S : BS} {names : List B8} {x : Ins} {nm : B8} (h : Bu.lk names x = some nm) : Bu.fd S names x = (S.find nm).isSome := by unfold Bu.fd; rw [h]
theorem fd_none {S : BS} {names : List B8} {x : Ins} (h : Bu.lk names x = none) : Bu.fd S names x = true := by unfold Bu.fd; rw [h]
def gdB (S : BS) (names : List B8) (l : List Ins) (j : Nat) : Bool := !S.bad && (l.take j).all (Bu.fd S names)
theorem gdB_succ {S : BS} {names : List B8} {l : List Ins} {j : Nat} {x : Ins} (hx : l[j]? = some x) : gdB S names l (j + 1) = (gdB S names l j && Bu.fd S names x) := by
  unfold gdB
  rw [take_snoc hx, List.all_append]
  simp [Bool.and_assoc]
theorem str_cell {W : World} {base n : Nat} {lv : Value} {A : Option Addr} {cap j : Nat} {ls : List B8} {nm : B8} (h : W.ownsRow base 9 1 lv n (strV ls)) (e : lv = .slice A n cap) (hx : ls[j]? = some nm) (hn : 0 < n) : ∃ b off, A = some ⟨b, off, none⟩ ∧ W.cell? ⟨b, off + j, none⟩ = some (.string (strB nm)) := by
  have h2 := Rd.of_own h
  rw [e] at h2
  obtain ⟨b, off, e2, _, hc⟩ := h2.cells hn
  refine ⟨b, off, e2, hc j _ ?_⟩
  unfold strV
  rw [List.getElem?_map, hx]; rfl
theorem find_mem {S : BS} {nm : B8} {q : Nat} (h : S.find nm = some q) : ∃ p ∈ S.places, p.2 = q := by
  unfold BS.find at h
  cases hf : S.places.find? (fun p => p.1 == nm) with
  | none => rw [hf] at h; cases h
  | some p =>
    rw [hf] at h
    injection h with h
    exact ⟨p, List.mem_of_find?_eq_some hf, h⟩
theorem BR.find_le {w W : World} {g mb c : Nat} {s : BS} {f : B8 → Option Nat} {wv lv : Value} {want : List Ins} {lks : List B8} (h : BR w W g mb s f c wv lv want lks) {nm : B8} {q : Nat} (hq : s.find nm = some q) : q ≤ s.code.length := by
  obtain ⟨F, hB, _⟩ := h.bb
  obtain ⟨p, hp, rfl⟩ := find_mem hq
  exact hB.good.pl p hp

set_option maxHeartbeats 16000000 in
set_option maxRecDepth 100000 in
theorem asmBuilds_any (w : World) (v : Value) (h : InX w v) (u : Value) (hu : InN w u) (T : TabA w) (N : NamesA w) :
    Calls Tryd.prog 5 #[v, u] w fun e w' => e = .returned (.bool true) ∧ Below w.heap.size w w' := by
  obtain ⟨n, l, ⟨A, cap, rfl, hn, hv⟩, hnm, hk⟩ := h
  obtain ⟨m, names, hrn, hmm, hnl⟩ := hu
  have HRN := Lib.hid hrn
  obtain ⟨B, capB, rfl, hm, _⟩ := hrn
  have HV := Lib.hid hv
  have HK := Lib.hid hk
  have HNL := Lib.hid hnl
  have HT := Lib.hid T
  have HN := Lib.hid N
  clear hv hk T N hnl
  by_cases hbig : 200 < n ∨ 200 < m
  · have hbb : (((200 : Int) < (n : Int)) ∧ True) ∨ (decide ((200 : Int) < (n : Int)) = false ∧ (200 : Int) < (m : Int)) := by
      by_cases h1 : 200 < n
      · exact .inl ⟨by omega, trivial⟩
      · exact .inr ⟨decide_eq_false (by omega), by omega⟩
    clear hbig
    rcases hbb with ⟨hb1, hb2⟩ | ⟨hb1, hb2⟩
    all_goals
      go_enter Tryd.func5, Tryd.ntmps5
      go_wp2_with fail
      refine (awake_any _ HT.out HN.out).mono ?_
      rintro e w1 ⟨rfl, hb1⟩
      have HB1 := Lib.hid hb1
      have HT1 := Lib.hid (two_awake2 HT.out HN.out hb1)
      clear hb1
      go_wp2_with fail
      refine (awake_any _ HT1.out.1 HT1.out.2).mono ?_
      rintro e w2 ⟨rfl, hb2⟩
      have HB2 := Lib.hid (HB1.out.trans (hb2.mono HB1.out.size))
      clear hb2
      go_wp2_with fail
      go_ret
      exact ⟨rfl, HB2.out⟩
  · have hd1 : decide ((200 : Int) < (n : Int)) = false := decide_eq_false (by omega)
    have hd2 : decide ((200 : Int) < (m : Int)) = false := decide_eq_false (by omega)
    have hn2 : n ≤ 200 := by omega
    have hm2 : m ≤ 200 := by omega
    have hmk := @run_makeMap Tryd.prog
    clear hbig hnm hmm
    obtain ⟨i0, hi, hz0, hz1, hz2⟩ := info_parts infoI
    obtain ⟨j0, hj, hy0, hy1, hy2⟩ := info_parts infoS
    have HI := Lib.hid (And.intro hi (And.intro hz0 (And.intro hz1 hz2)))
    have HJ := Lib.hid (And.intro hj (And.intro hy0 (And.intro hy1 hy2)))
    clear hi hz0 hz1 hz2 hj hy0 hy1 hy2
    go_enter Tryd.func5, Tryd.ntmps5
    go_wp2_with fail
    refine (awake_any _ HT.out HN.out).mono ?_
    rintro e w1 ⟨rfl, hb1⟩
    have HB1 := Lib.hid hb1
    have HV1 := Lib.hid (fun hn => (HV.out hn).below hb1 (Nat.le_refl _))
    have HRN1 := Lib.hid (HRN.out.below hb1)
    have HT1 := Lib.hid (HT.out.below hb1 (Nat.le_refl _))
    have HBR0 := Lib.hid (br_new w1)
    clear hb1 HV HRN HT HN
    go_wp2_with fail
    clear hmk
    obtain ⟨g, hg⟩ : ∃ g, w1.heap.size = g := ⟨_, rfl⟩
    have hbr0 := HBR0.out
    rw [hg] at hbr0 ⊢
    have HG := Lib.hid hg
    have HBR := Lib.hid hbr0
    clear hg hbr0 HBR0
    go_loopw [6, 8, 9, 10] (fun gv wv lv iv wr => ∃ i : Nat, i ≤ n ∧ iv = .int .i64 i ∧ gv = .bool (!(St names l i).bad) ∧ Hid (BR w1 wr g (g + 1) (St names l i) (St names l i).find i wv lv ((l.take i).map (Bu.cd names)) ((l.take i).map (lkS names)))) (fun _ _ _ i _ => n - (intOf i).toNat)
    case atStart => exact ⟨0, by omega, rfl, rfl, HBR⟩
    case round =>
      obtain ⟨i, hin, rfl, rfl, HBR⟩ := hrel
      by_cases hlt : i < n
      · obtain ⟨x, hx⟩ : ∃ x, l[i]? = some x := ⟨_, List.getElem?_eq_getElem (by omega)⟩
        have hxk := HK.out x (List.mem_of_getElem? hx)
        have HST := Lib.hid (st_succ (names := names) hx)
        have HMC := Lib.hid (map_succ hx (Bu.cd names))
        have HML := Lib.hid (map_succ hx (lkS names))
        have HLC := Lib.hid (lk_cases names x)
        have hcl := st_code names l i (by omega)
        have hbr := HBR.out
        have hcode : (St names l i).code.length = i := by
          rw [(Bu.stB_code names (l.take i)).1, List.length_map, List.length_take]; omega
        have hwl : ((l.take i).map (Bu.cd names)).length = i := by rw [List.length_map, List.length_take]; omega
        have hll : ((l.take i).map (lkS names)).length = i := by rw [List.length_map, List.length_take]; omega
        obtain ⟨S, hS⟩ : ∃ S, St names l i = S := ⟨_, rfl⟩
        obtain ⟨wn, hwn⟩ : ∃ wn, (l.take i).map (Bu.cd names) = wn := ⟨_, rfl⟩
        obtain ⟨ln, hln⟩ : ∃ ln, (l.take i).map (lkS names) = ln := ⟨_, rfl⟩
        rw [hS, hwn, hln] at hbr
        rw [hS] at hcl hcode ⊢
        rw [hS] at HST
        rw [hwn] at HMC hwl
        rw [hln] at HML hll
        obtain ⟨gb, hgb⟩ : ∃ gb, (!S.bad) = gb := ⟨_, rfl⟩
        rw [hgb]
        obtain ⟨hcl1, hcl2⟩ := hcl
        obtain ⟨o, a, b, c, k⟩ := x
        obtain ⟨b1, o1, rfl, hb1, q0, q1, q2, q3, q4⟩ := ins_cells (HV1.out (by omega)) hx (by omega)
        simp only [] at q0 q1 q2 q3 q4 hxk
        have hc : ∀ W, Below w1.heap.size w1 W → W.cell? ⟨b1, o1 + i * 5, none⟩ = some (.int .i64 o) ∧ W.cell? ⟨b1, o1 + i * 5 + 1, none⟩ = some (.int .i64 a) ∧ W.cell? ⟨b1, o1 + i * 5 + 2, none⟩ = some (.int .i64 b) ∧ W.cell? ⟨b1, o1 + i * 5 + 3, none⟩ = some (.int .i64 c) ∧ W.cell? ⟨b1, o1 + i * 5 + 4, none⟩ = some (.int .u32 k) :=
          fun W hb => ⟨bcell hb q0, bcell hb q1, bcell hb q2, bcell hb q3, bcell hb q4⟩
        have HC := Lib.hid hc
        have HGB := Lib.hid hgb
        have HCODE := Lib.hid hcode
        have HXK := Lib.hid hxk
        have HBR1 := Lib.hid hbr
        have HWL := Lib.hid hwl
        have HLL := Lib.hid hll
        have hnc := nameS_code2 names S i
        have HNC := Lib.hid (show (Bu.nameS names S i).code.length ≤ 200 by omega)
        have f1 : (0 : Int) ≤ (i : Int) := by omega
        have f2 : (i : Int) < (n : Int) := by omega
        clear hS hgb hx hxk hbr HBR hcode hwl hll hwn hln hc q0 q1 q2 q3 q4 hnc
        have hpart : (∃ nm, names[i]? = some nm ∧ nm ≠ [] ∧ i < m) ∨ ((decide ((i : Int) < (m : Int)) = false ∨ (i < m ∧ names[i]? = some [])) ∧ Bu.nameS names S i = S) := by
          by_cases hnm : i < m ∧ names.getD i [] ≠ []
          · left
            refine ⟨names.getD i [], ?_, hnm.2, hnm.1⟩
            rw [List.getD_eq_getElem?_getD, List.getElem?_eq_getElem (by omega)]; rfl
          · right
            refine ⟨?_, name_no hm hnm S⟩
            by_cases him : i < m
            · right
              refine ⟨him, ?_⟩
              have e : names.getD i [] = [] := Classical.not_not.1 (fun h2 => hnm ⟨him, h2⟩)
              rw [List.getD_eq_getElem?_getD, List.getElem?_eq_getElem (by omega)] at e
              rw [List.getElem?_eq_getElem (by omega)]
              exact congrArg some e
            · exact .inl (decide_eq_false (by omega))
        rcases hpart with ⟨nm, hnx, hne, him⟩ | ⟨him | ⟨him, hnx⟩, hsame⟩
        · obtain ⟨b2, o2, rfl, hb2, dd⟩ := HRN1.out.cell hnx
          have d0 := bcell HBR1.out.bb.bel dd
          have HDD := Lib.hid dd
          clear dd
          have HNML := Lib.hid (HNL.out nm (List.mem_of_getElem? hnx))
          have f3 : (i : Int) < (m : Int) := by omega
          have e1 : (strB nm).toList.isEmpty = false := by
            rw [ByteArray.toList_eq]; show nm.isEmpty = false
            cases nm with
            | nil => exact absurd rfl hne
            | cons _ _ => rfl
          obtain ⟨cnt, D, hcnt, hmap, hdr⟩ := HBR1.out.at_
          have hlk := map_look hmap hdr (strB nm) HNML.out
          have HMAP := Lib.hid hmap
          have HDR := Lib.hid hdr
          have HNX := Lib.hid hnx
          have HNE := Lib.hid hne
          clear hmap hdr hnx hne
          rw [show (strB nm).data.toList = nm from rfl] at hlk
          cases hf : S.find nm with
          | some kf =>
            rw [hf] at hlk
            simp only [Option.isSome, Option.getD] at hlk
            have HF := Lib.hid hf
            clear hf
            go_wp2_with fail
            refine (HBR1.out.call (fun F hF => at_any _ g S F hF (by omega) (by omega) (strB nm) HNML.out)).mono ?_
            rintro e wz ⟨rfl, hz⟩
            have HZ : Hid (BR w1 wz g (g + 1) (Bu.nameS names S i) (Bu.nameS names S i).find (i + 1) u8 u9 wn ln) := Lib.hid (hz.to (name_yes HNX.out HNE.out S).symm (by rw [name_yes HNX.out HNE.out S, at_find_found HF.out]) (by omega) rfl rfl)
            have HGB2 : Hid (false = !(Bu.nameS names S i).bad) := Lib.hid (by rw [name_yes HNX.out HNE.out S, at_found2 HF.out]; rfl)
            clear hz hlk d0 e1
            obtain ⟨c0, c1, c2, c3, c4⟩ := HC.out _ HZ.out.bb.bel
            go_wp2_with fail
            refine (has84b_any _ o).mono ?_
            rintro e w3 ⟨rfl, hb3⟩
            have HZ3 := Lib.hid (HZ.out.below hb3)
            clear c0 c1 c2 c3 c4 hb3
            obtain ⟨c0, c1, c2, c3, c4⟩ := HC.out _ HZ3.out.bb.bel
            rcases HLC.out with ⟨h84, hlk2⟩ | ⟨h84, hne0, hlk2⟩ | ⟨h84, hpos, nm2, hlk2, hn2x⟩
            · have h84 : hasB o 84 = false := h84
              have HLK2 := Lib.hid hlk2
              clear hlk2
              go_wp2_with fail
              refine (HZ3.out.call (fun F hF => do_any _ g _ F hF (by have := HNC.out; omega) o a b c k)).mono ?_
              rintro e w4 ⟨rfl, hz4⟩
              have HZ4 := Lib.hid hz4
              clear c0 c1 c2 c3 c4 hz4
              obtain ⟨c0, c1, c2, c3, c4⟩ := HC.out _ HZ4.out.bb.bel
              go_wp2_with (first
                | (at_builtin; refine wpList_append_own_at _ rfl (.tmp 133) (.tmp 138) 23 rfl w1.heap.size 34 i0 _ 5 40 Tryd.underlying23 HI.out.1 HI.out.2.1 HI.out.2.2.1 HI.out.2.2.2 rfl (by decide) _ _ _ rfl (HZ4.out.ow.alloc _) ⟨w4.heap.size, 0, none⟩ 1 1 [.int .i64 o, .int .i64 a, .int .i64 b, .int .i64 c, .int .u32 k] rfl rfl (World.news_of_block (heap_alloc_new _ _)) (by simp [Value.oneCell']) (by have := HWL.out; unfold maxLen; omega) (by have := HWL.out; omega) (by have := HZ4.out.bb.bel.size; simp; omega) ?_; intro v5 w5 ho5 hgr5 _ hat5; have HZ5 := Lib.hid (HZ4.out.wapp ⟨o, a, b, c, k⟩ ho5 hgr5 hat5); clear ho5 hgr5 hat5 c0 c1 c2 c3 c4)
                | (at_builtin; refine wpList_append_own_at _ rfl (.tmp 140) (.tmp 142) 39 rfl w1.heap.size 9 j0 _ 1 16 Tryd.underlying39 HJ.out.1 HJ.out.2.1 HJ.out.2.2.1 HJ.out.2.2.2 rfl (by decide) _ _ _ rfl (HZ5.out.ol.alloc _) ⟨w5.heap.size, 0, none⟩ 1 1 [.string (strB [])] rfl rfl (World.news_of_block (heap_alloc_new _ _)) (by simp [Value.oneCell']) (by have := HLL.out; unfold maxLen; omega) (by have := HLL.out; omega) (by have := HZ5.out.bb.bel.size; simp; omega) ?_; intro v6 w6 ho6 hgr6 _ hat6; have HZ6 := Lib.hid (HZ5.out.lapp [] ho6 hgr6 hat6); clear ho6 hgr6 hat6))
              have HFIN : Hid (BR w1 w6 g (g + 1) (St names l (i + 1)) (St names l (i + 1)).find (i + 1) v5 v6 ((l.take (i + 1)).map (Bu.cd names)) ((l.take (i + 1)).map (lkS names))) := Lib.hid (HZ6.out.to (by rw [HST.out, insS_none HLK2.out]) (by rw [HST.out, find_insS]) (Nat.le_refl _) (by rw [HMC.out, cd_none HLK2.out]) (by rw [HML.out, lkS_none HLK2.out]))
              refine ⟨⟨i + 1, by omega, by simp, congrArg Value.bool ?_, HFIN⟩, by simp [intOf]; omega⟩
              rw [HST.out, bad_insS]; exact HGB2.out
            · exfalso
              have hm0 : m = 0 := by rw [← hm, hne0]; rfl
              omega
            · have h84 : hasB o 84 = true := h84
              have hpos2 : 0 < m := by rw [← hm]; exact hpos
              have hk0 := HXK.out.1
              have hk1 := HXK.out.2
              obtain ⟨kk, rfl⟩ : ∃ kk : Nat, k = kk := ⟨k.toNat, by omega⟩
              obtain ⟨r, hr⟩ : ∃ r : Nat, kk % m = r := ⟨_, rfl⟩
              have hrm : r < m := by rw [← hr]; exact Nat.mod_lt _ hpos2
              have hn2y : names[r]? = some nm2 := by
                rw [← hr, ← hm]; exact hn2x
              have r1 : (kk : Int) % (m : Int) = (r : Int) := by rw [← hr]; rfl
              have r2 : (0 : Int) < (m : Int) := by omega
              have r3 : ((m : Int) == 0) = false := by rw [beq_eq_false_iff_ne]; omega
              have r4 : (r : Int) < (m : Int) := by omega
              have r5 : (0 : Int) ≤ (r : Int) := by omega
              obtain ⟨b3, o3, hB, hb3, dd3⟩ := HRN1.out.cell hn2y
              cases hB
              have d3 := bcell HZ3.out.bb.bel dd3
              have HLK2 := Lib.hid hlk2
              have HDD3 := Lib.hid dd3
              clear hlk2 hn2x hn2y hr dd3 hpos hrm
              go_wp2_with fail
              clear r1 r3
              go_still_tail 11, (by kernel_rfl)
              change wpList _ _ _ _ _ w3.drew
              go_wp2_with fail
              refine (HZ3.out.drew.call (fun F hF => go_any _ g _ F hF (by have := HNC.out; omega) o a (strB nm2))).mono ?_
              rintro e w4 ⟨rfl, hz4⟩
              have HZ4 := Lib.hid hz4
              clear c0 c1 c2 c3 c4 d3 hz4
              obtain ⟨c0, c1, c2, c3, c4⟩ := HC.out _ HZ4.out.bb.bel
              go_wp2_with fail
              go_region_law (refine step_append_lies _ rfl (.tmp 114) (.tmp 126) 23 rfl w1.heap.size 34 i0 _ 5 40 Tryd.underlying23 HI.out.1 HI.out.2.1 HI.out.2.2.1 HI.out.2.2.2 rfl (by decide) u8 _ _ rfl (HZ4.out.drew.ow.alloc _) ⟨w4.heap.size, 0, none⟩ 1 1 [.int .i64 o, .int .i64 a, .int .i64 0, .int .i64 0, .int .u32 0] rfl rfl (World.news_of_block (heap_alloc_new _ _)) (by simp [Value.oneCell']) (by decide) (by have := HWL.out; unfold maxLen; omega) (by have := HWL.out; omega) (by have := HZ4.out.bb.bel.size; simp; omega) _ rfl ?_; intro g1 capw w5 ho5 hgr5 hat5 hlt5; have HZ5 := Lib.hid (HZ4.out.drew.wapp ⟨o, a, 0, 0, 0⟩ ho5 hgr5 (hat5.imp (fun e => e.symm) (fun e => congrArg some e))); clear ho5 hgr5 hat5 hlt5)
              all_goals go_wp2_with (at_builtin; refine wpList_append_own_at _ rfl (.tmp 140) (.tmp 142) 39 rfl w1.heap.size 9 j0 _ 1 16 Tryd.underlying39 HJ.out.1 HJ.out.2.1 HJ.out.2.2.1 HJ.out.2.2.2 rfl (by decide) _ _ _ rfl (HZ5.out.ol.alloc _) ⟨w5.heap.size, 0, none⟩ 1 1 [.string (strB nm2)] rfl rfl (World.news_of_block (heap_alloc_new _ _)) (by simp [Value.oneCell']) (by have := HLL.out; unfold maxLen; omega) (by have := HLL.out; omega) (by have := HZ5.out.bb.bel.size; simp; omega) ?_; intro v6 w6 ho6 hgr6 _ hat6; have HZ6 := Lib.hid (HZ5.out.lapp nm2 ho6 hgr6 hat6); clear ho6 hgr6 hat6)
              all_goals have HFIN : Hid (BR w1 w6 g (g + 1) (St names l (i + 1)) (St names l (i + 1)).find (i + 1) (.slice (some ⟨g1, 0, none⟩) (wn.length + 1) capw) v6 ((l.take (i + 1)).map (Bu.cd names)) ((l.take (i + 1)).map (lkS names))) := Lib.hid (HZ6.out.to (by rw [HST.out, insS_some HLK2.out]; rfl) (by rw [HST.out, find_insS]) (Nat.le_refl _) (by rw [HMC.out, cd_some HLK2.out]) (by rw [HML.out, lkS_some HLK2.out]))
              all_goals refine ⟨⟨i + 1, by omega, by simp, congrArg Value.bool ?_, HFIN⟩, by simp [intOf]; omega⟩
              all_goals (rw [HST.out, bad_insS]; exact HGB2.out)
          | none =>
            rw [hf] at hlk
            simp only [Option.isSome, Option.getD] at hlk
            have HF := Lib.hid hf
            clear hf
            go_wp2_with fail
            refine (rname_max _ (strB nm) HNML.out).mono ?_
            rintro e w2 ⟨he, hw⟩
            subst hw
            rw [show (strB nm).data.toList = nm from rfl] at he
            cases hok : nameOk nm with
            | false =>
              rw [hok] at he
              subst he
              have HOK := Lib.hid hok
              clear hok
              go_wp2_with fail
              refine (HBR1.out.call (fun F hF => at_any _ g S F hF (by omega) (by omega) (strB nm) HNML.out)).mono ?_
              rintro e wz ⟨rfl, hz⟩
              have HZ : Hid (BR w1 wz g (g + 1) (Bu.nameS names S i) (Bu.nameS names S i).find (i + 1) u8 u9 wn ln) := Lib.hid (hz.to (name_yes HNX.out HNE.out S).symm (by rw [name_yes HNX.out HNE.out S, at_find_bad HOK.out]) (by omega) rfl rfl)
              have HGB2 : Hid (false = !(Bu.nameS names S i).bad) := Lib.hid (by rw [name_yes HNX.out HNE.out S, at_bad2 HOK.out]; rfl)
              clear hz hlk d0 e1
              obtain ⟨c0, c1, c2, c3, c4⟩ := HC.out _ HZ.out.bb.bel
              go_wp2_with fail
              refine (has84b_any _ o).mono ?_
              rintro e w3 ⟨rfl, hb3⟩
              have HZ3 := Lib.hid (HZ.out.below hb3)
              clear c0 c1 c2 c3 c4 hb3
              obtain ⟨c0, c1, c2, c3, c4⟩ := HC.out _ HZ3.out.bb.bel
              rcases HLC.out with ⟨h84, hlk2⟩ | ⟨h84, hne0, hlk2⟩ | ⟨h84, hpos, nm2, hlk2, hn2x⟩
              · have h84 : hasB o 84 = false := h84
                have HLK2 := Lib.hid hlk2
                clear hlk2
                go_wp2_with fail
                refine (HZ3.out.call (fun F hF => do_any _ g _ F hF (by have := HNC.out; omega) o a b c k)).mono ?_
                rintro e w4 ⟨rfl, hz4⟩
                have HZ4 := Lib.hid hz4
                clear c0 c1 c2 c3 c4 hz4
                obtain ⟨c0, c1, c2, c3, c4⟩ := HC.out _ HZ4.out.bb.bel
                go_wp2_with (first
                  | (at_builtin; refine wpList_append_own_at _ rfl (.tmp 133) (.tmp 138) 23 rfl w1.heap.size 34 i0 _ 5 40 Tryd.underlying23 HI.out.1 HI.out.2.1 HI.out.2.2.1 HI.out.2.2.2 rfl (by decide) _ _ _ rfl (HZ4.out.ow.alloc _) ⟨w4.heap.size, 0, none⟩ 1 1 [.int .i64 o, .int .i64 a, .int .i64 b, .int .i64 c, .int .u32 k] rfl rfl (World.news_of_block (heap_alloc_new _ _)) (by simp [Value.oneCell']) (by have := HWL.out; unfold maxLen; omega) (by have := HWL.out; omega) (by have := HZ4.out.bb.bel.size; simp; omega) ?_; intro v5 w5 ho5 hgr5 _ hat5; have HZ5 := Lib.hid (HZ4.out.wapp ⟨o, a, b, c, k⟩ ho5 hgr5 hat5); clear ho5 hgr5 hat5 c0 c1 c2 c3 c4)
                  | (at_builtin; refine wpList_append_own_at _ rfl (.tmp 140) (.tmp 142) 39 rfl w1.heap.size 9 j0 _ 1 16 Tryd.underlying39 HJ.out.1 HJ.out.2.1 HJ.out.2.2.1 HJ.out.2.2.2 rfl (by decide) _ _ _ rfl (HZ5.out.ol.alloc _) ⟨w5.heap.size, 0, none⟩ 1 1 [.string (strB [])] rfl rfl (World.news_of_block (heap_alloc_new _ _)) (by simp [Value.oneCell']) (by have := HLL.out; unfold maxLen; omega) (by have := HLL.out; omega) (by have := HZ5.out.bb.bel.size; simp; omega) ?_; intro v6 w6 ho6 hgr6 _ hat6; have HZ6 := Lib.hid (HZ5.out.lapp [] ho6 hgr6 hat6); clear ho6 hgr6 hat6))
                have HFIN : Hid (BR w1 w6 g (g + 1) (St names l (i + 1)) (St names l (i + 1)).find (i + 1) v5 v6 ((l.take (i + 1)).map (Bu.cd names)) ((l.take (i + 1)).map (lkS names))) := Lib.hid (HZ6.out.to (by rw [HST.out, insS_none HLK2.out]) (by rw [HST.out, find_insS]) (Nat.le_refl _) (by rw [HMC.out, cd_none HLK2.out]) (by rw [HML.out, lkS_none HLK2.out]))
                refine ⟨⟨i + 1, by omega, by simp, congrArg Value.bool ?_, HFIN⟩, by simp [intOf]; omega⟩
                rw [HST.out, bad_insS]; exact HGB2.out
              · exfalso
                have hm0 : m = 0 := by rw [← hm, hne0]; rfl
                omega
              · have h84 : hasB o 84 = true := h84
                have hpos2 : 0 < m := by rw [← hm]; exact hpos
                have hk0 := HXK.out.1
                have hk1 := HXK.out.2
                obtain ⟨kk, rfl⟩ : ∃ kk : Nat, k = kk := ⟨k.toNat, by omega⟩
                obtain ⟨r, hr⟩ : ∃ r : Nat, kk % m = r := ⟨_, rfl⟩
                have hrm : r < m := by rw [← hr]; exact Nat.mod_lt _ hpos2
                have hn2y : names[r]? = some nm2 := by
                  rw [← hr, ← hm]; exact hn2x
                have r1 : (kk : Int) % (m : Int) = (r : Int) := by rw [← hr]; rfl
                have r2 : (0 : Int) < (m : Int) := by omega
                have r3 : ((m : Int) == 0) = false := by rw [beq_eq_false_iff_ne]; omega
                have r4 : (r : Int) < (m : Int) := by omega
                have r5 : (0 : Int) ≤ (r : Int) := by omega
                obtain ⟨b3, o3, hB, hb3, dd3⟩ := HRN1.out.cell hn2y
                cases hB
                have d3 := bcell HZ3.out.bb.bel dd3
                have HLK2 := Lib.hid hlk2
                have HDD3 := Lib.hid dd3
                clear hlk2 hn2x hn2y hr dd3 hpos hrm
                go_wp2_with fail
                clear r1 r3
                go_still_tail 11, (by kernel_rfl)
                change wpList _ _ _ _ _ w3.drew
                go_wp2_with fail
                refine (HZ3.out.drew.call (fun F hF => go_any _ g _ F hF (by have := HNC.out; omega) o a (strB nm2))).mono ?_
                rintro e w4 ⟨rfl, hz4⟩
                have HZ4 := Lib.hid hz4
                clear c0 c1 c2 c3 c4 d3 hz4
                obtain ⟨c0, c1, c2, c3, c4⟩ := HC.out _ HZ4.out.bb.bel
                go_wp2_with fail
                go_region_law (refine step_append_lies _ rfl (.tmp 114) (.tmp 126) 23 rfl w1.heap.size 34 i0 _ 5 40 Tryd.underlying23 HI.out.1 HI.out.2.1 HI.out.2.2.1 HI.out.2.2.2 rfl (by decide) u8 _ _ rfl (HZ4.out.drew.ow.alloc _) ⟨w4.heap.size, 0, none⟩ 1 1 [.int .i64 o, .int .i64 a, .int .i64 0, .int .i64 0, .int .u32 0] rfl rfl (World.news_of_block (heap_alloc_new _ _)) (by simp [Value.oneCell']) (by decide) (by have := HWL.out; unfold maxLen; omega) (by have := HWL.out; omega) (by have := HZ4.out.bb.bel.size; simp; omega) _ rfl ?_; intro g1 capw w5 ho5 hgr5 hat5 hlt5; have HZ5 := Lib.hid (HZ4.out.drew.wapp ⟨o, a, 0, 0, 0⟩ ho5 hgr5 (hat5.imp (fun e => e.symm) (fun e => congrArg some e))); clear ho5 hgr5 hat5 hlt5)
                all_goals go_wp2_with (at_builtin; refine wpList_append_own_at _ rfl (.tmp 140) (.tmp 142) 39 rfl w1.heap.size 9 j0 _ 1 16 Tryd.underlying39 HJ.out.1 HJ.out.2.1 HJ.out.2.2.1 HJ.out.2.2.2 rfl (by decide) _ _ _ rfl (HZ5.out.ol.alloc _) ⟨w5.heap.size, 0, none⟩ 1 1 [.string (strB nm2)] rfl rfl (World.news_of_block (heap_alloc_new _ _)) (by simp [Value.oneCell']) (by have := HLL.out; unfold maxLen; omega) (by have := HLL.out; omega) (by have := HZ5.out.bb.bel.size; simp; omega) ?_; intro v6 w6 ho6 hgr6 _ hat6; have HZ6 := Lib.hid (HZ5.out.lapp nm2 ho6 hgr6 hat6); clear ho6 hgr6 hat6)
                all_goals have HFIN : Hid (BR w1 w6 g (g + 1) (St names l (i + 1)) (St names l (i + 1)).find (i + 1) (.slice (some ⟨g1, 0, none⟩) (wn.length + 1) capw) v6 ((l.take (i + 1)).map (Bu.cd names)) ((l.take (i + 1)).map (lkS names))) := Lib.hid (HZ6.out.to (by rw [HST.out, insS_some HLK2.out]; rfl) (by rw [HST.out, find_insS]) (Nat.le_refl _) (by rw [HMC.out, cd_some HLK2.out]) (by rw [HML.out, lkS_some HLK2.out]))
                all_goals refine ⟨⟨i + 1, by omega, by simp, congrArg Value.bool ?_, HFIN⟩, by simp [intOf]; omega⟩
                all_goals (rw [HST.out, bad_insS]; exact HGB2.out)
            | true =>
              rw [hok] at he
              subst he
              have HOK := Lib.hid hok
              clear hok
              go_wp2_with (at_mapUpdate; refine wpList_mapUpdate_own _ rfl _ _ _ 40 rfl 9 3 lawS Tryd.underlying40 _ (g + 1) cnt D rfl HMAP.out (by unfold maxLen; omega) _ _ _ rfl rfl (_root_.Go.WideMaps.keyOf_string_mk Tryd.underlying9 HNML.out) _ [] (plainElem_int Tryd.underlying3 (WalkArith.wf_i64 (by omega))) ?_; intro w6 hm6 hgr6; have HBR6 := Lib.hid (HBR1.out.put hcnt hm6 (dreads_put HDR.out nm i HF.out) hgr6); have d6 := bcell HBR6.out.bb.bel HDD.out; clear hm6 hgr6 hlk d0)
              refine (HBR6.out.call (fun F hF => at_any _ g S F hF (by omega) (by omega) (strB nm) HNML.out)).mono ?_
              rintro e wz ⟨rfl, hz⟩
              have HZ : Hid (BR w1 wz g (g + 1) (Bu.nameS names S i) (Bu.nameS names S i).find (i + 1) u8 u9 wn ln) := Lib.hid (hz.to (name_yes HNX.out HNE.out S).symm (by rw [name_yes HNX.out HNE.out S, at_new2 HF.out HOK.out, HCODE.out]) (by omega) rfl rfl)
              have HGB2 : Hid (gb = !(Bu.nameS names S i).bad) := Lib.hid (by rw [name_yes HNX.out HNE.out S, at_new2 HF.out HOK.out]; exact HGB.out.symm)
              clear hz d6 e1
              obtain ⟨c0, c1, c2, c3, c4⟩ := HC.out _ HZ.out.bb.bel
              go_wp2_with fail
              refine (has84b_any _ o).mono ?_
              rintro e w3 ⟨rfl, hb3⟩
              have HZ3 := Lib.hid (HZ.out.below hb3)
              clear c0 c1 c2 c3 c4 hb3
              obtain ⟨c0, c1, c2, c3, c4⟩ := HC.out _ HZ3.out.bb.bel
              rcases HLC.out with ⟨h84, hlk2⟩ | ⟨h84, hne0, hlk2⟩ | ⟨h84, hpos, nm2, hlk2, hn2x⟩
              · have h84 : hasB o 84 = false := h84
                have HLK2 := Lib.hid hlk2
                clear hlk2
                go_wp2_with fail
                refine (HZ3.out.call (fun F hF => do_any _ g _ F hF (by have := HNC.out; omega) o a b c k)).mono ?_
                rintro e w4 ⟨rfl, hz4⟩
                have HZ4 := Lib.hid hz4
                clear c0 c1 c2 c3 c4 hz4
                obtain ⟨c0, c1, c2, c3, c4⟩ := HC.out _ HZ4.out.bb.bel
                go_wp2_with (first
                  | (at_builtin; refine wpList_append_own_at _ rfl (.tmp 133) (.tmp 138) 23 rfl w1.heap.size 34 i0 _ 5 40 Tryd.underlying23 HI.out.1 HI.out.2.1 HI.out.2.2.1 HI.out.2.2.2 rfl (by decide) _ _ _ rfl (HZ4.out.ow.alloc _) ⟨w4.heap.size, 0, none⟩ 1 1 [.int .i64 o, .int .i64 a, .int .i64 b, .int .i64 c, .int .u32 k] rfl rfl (World.news_of_block (heap_alloc_new _ _)) (by simp [Value.oneCell']) (by have := HWL.out; unfold maxLen; omega) (by have := HWL.out; omega) (by have := HZ4.out.bb.bel.size; simp; omega) ?_; intro v5 w5 ho5 hgr5 _ hat5; have HZ5 := Lib.hid (HZ4.out.wapp ⟨o, a, b, c, k⟩ ho5 hgr5 hat5); clear ho5 hgr5 hat5 c0 c1 c2 c3 c4)
                  | (at_builtin; refine wpList_append_own_at _ rfl (.tmp 140) (.tmp 142) 39 rfl w1.heap.size 9 j0 _ 1 16 Tryd.underlying39 HJ.out.1 HJ.out.2.1 HJ.out.2.2.1 HJ.out.2.2.2 rfl (by decide) _ _ _ rfl (HZ5.out.ol.alloc _) ⟨w5.heap.size, 0, none⟩ 1 1 [.string (strB [])] rfl rfl (World.news_of_block (heap_alloc_new _ _)) (by simp [Value.oneCell']) (by have := HLL.out; unfold maxLen; omega) (by have := HLL.out; omega) (by have := HZ5.out.bb.bel.size; simp; omega) ?_; intro v6 w6 ho6 hgr6 _ hat6; have HZ6 := Lib.hid (HZ5.out.lapp [] ho6 hgr6 hat6); clear ho6 hgr6 hat6))
                have HFIN : Hid (BR w1 w6 g (g + 1) (St names l (i + 1)) (St names l (i + 1)).find (i + 1) v5 v6 ((l.take (i + 1)).map (Bu.cd names)) ((l.take (i + 1)).map (lkS names))) := Lib.hid (HZ6.out.to (by rw [HST.out, insS_none HLK2.out]) (by rw [HST.out, find_insS]) (Nat.le_refl _) (by rw [HMC.out, cd_none HLK2.out]) (by rw [HML.out, lkS_none HLK2.out]))
                refine ⟨⟨i + 1, by omega, by simp, congrArg Value.bool ?_, HFIN⟩, by simp [intOf]; omega⟩
                rw [HST.out, bad_insS]; exact HGB2.out
              · exfalso
                have hm0 : m = 0 := by rw [← hm, hne0]; rfl
                omega
              · have h84 : hasB o 84 = true := h84
                have hpos2 : 0 < m := by rw [← hm]; exact hpos
                have hk0 := HXK.out.1
                have hk1 := HXK.out.2
                obtain ⟨kk, rfl⟩ : ∃ kk : Nat, k = kk := ⟨k.toNat, by omega⟩
                obtain ⟨r, hr⟩ : ∃ r : Nat, kk % m = r := ⟨_, rfl⟩
                have hrm : r < m := by rw [← hr]; exact Nat.mod_lt _ hpos2
                have hn2y : names[r]? = some nm2 := by
                  rw [← hr, ← hm]; exact hn2x
                have r1 : (kk : Int) % (m : Int) = (r : Int) := by rw [← hr]; rfl
                have r2 : (0 : Int) < (m : Int) := by omega
                have r3 : ((m : Int) == 0) = false := by rw [beq_eq_false_iff_ne]; omega
                have r4 : (r : Int) < (m : Int) := by omega
                have r5 : (0 : Int) ≤ (r : Int) := by omega
                obtain ⟨b3, o3, hB, hb3, dd3⟩ := HRN1.out.cell hn2y
                cases hB
                have d3 := bcell HZ3.out.bb.bel dd3
                have HLK2 := Lib.hid hlk2
                have HDD3 := Lib.hid dd3
                clear hlk2 hn2x hn2y hr dd3 hpos hrm
                go_wp2_with fail
                clear r1 r3
                go_still_tail 11, (by kernel_rfl)
                change wpList _ _ _ _ _ w3.drew
                go_wp2_with fail
                refine (HZ3.out.drew.call (fun F hF => go_any _ g _ F hF (by have := HNC.out; omega) o a (strB nm2))).mono ?_
                rintro e w4 ⟨rfl, hz4⟩
                have HZ4 := Lib.hid hz4
                clear c0 c1 c2 c3 c4 d3 hz4
                obtain ⟨c0, c1, c2, c3, c4⟩ := HC.out _ HZ4.out.bb.bel
                go_wp2_with fail
                go_region_law (refine step_append_lies _ rfl (.tmp 114) (.tmp 126) 23 rfl w1.heap.size 34 i0 _ 5 40 Tryd.underlying23 HI.out.1 HI.out.2.1 HI.out.2.2.1 HI.out.2.2.2 rfl (by decide) u8 _ _ rfl (HZ4.out.drew.ow.alloc _) ⟨w4.heap.size, 0, none⟩ 1 1 [.int .i64 o, .int .i64 a, .int .i64 0, .int .i64 0, .int .u32 0] rfl rfl (World.news_of_block (heap_alloc_new _ _)) (by simp [Value.oneCell']) (by decide) (by have := HWL.out; unfold maxLen; omega) (by have := HWL.out; omega) (by have := HZ4.out.bb.bel.size; simp; omega) _ rfl ?_; intro g1 capw w5 ho5 hgr5 hat5 hlt5; have HZ5 := Lib.hid (HZ4.out.drew.wapp ⟨o, a, 0, 0, 0⟩ ho5 hgr5 (hat5.imp (fun e => e.symm) (fun e => congrArg some e))); clear ho5 hgr5 hat5 hlt5)
                all_goals go_wp2_with (at_builtin; refine wpList_append_own_at _ rfl (.tmp 140) (.tmp 142) 39 rfl w1.heap.size 9 j0 _ 1 16 Tryd.underlying39 HJ.out.1 HJ.out.2.1 HJ.out.2.2.1 HJ.out.2.2.2 rfl (by decide) _ _ _ rfl (HZ5.out.ol.alloc _) ⟨w5.heap.size, 0, none⟩ 1 1 [.string (strB nm2)] rfl rfl (World.news_of_block (heap_alloc_new _ _)) (by simp [Value.oneCell']) (by have := HLL.out; unfold maxLen; omega) (by have := HLL.out; omega) (by have := HZ5.out.bb.bel.size; simp; omega) ?_; intro v6 w6 ho6 hgr6 _ hat6; have HZ6 := Lib.hid (HZ5.out.lapp nm2 ho6 hgr6 hat6); clear ho6 hgr6 hat6)
                all_goals have HFIN : Hid (BR w1 w6 g (g + 1) (St names l (i + 1)) (St names l (i + 1)).find (i + 1) (.slice (some ⟨g1, 0, none⟩) (wn.length + 1) capw) v6 ((l.take (i + 1)).map (Bu.cd names)) ((l.take (i + 1)).map (lkS names))) := Lib.hid (HZ6.out.to (by rw [HST.out, insS_some HLK2.out]; rfl) (by rw [HST.out, find_insS]) (Nat.le_refl _) (by rw [HMC.out, cd_some HLK2.out]) (by rw [HML.out, lkS_some HLK2.out]))
                all_goals refine ⟨⟨i + 1, by omega, by simp, congrArg Value.bool ?_, HFIN⟩, by simp [intOf]; omega⟩
                all_goals (rw [HST.out, bad_insS]; exact HGB2.out)
        · have HZ : Hid (BR w1 wr g (g + 1) (Bu.nameS names S i) (Bu.nameS names S i).find (i + 1) u8 u9 wn ln) := Lib.hid (HBR1.out.to hsame.symm (by rw [hsame]) (by omega) rfl rfl)
          have HGB2 : Hid (gb = !(Bu.nameS names S i).bad) := Lib.hid (by rw [hsame]; exact HGB.out.symm)
          have him2 : ¬ ((i : Int) < (m : Int)) := of_decide_eq_false him
          have him3 : decide (i < m) = false := decide_eq_false (by omega)
          have him4 : (m : Int) ≤ (i : Int) := by omega
          clear hsame him2
          obtain ⟨c0, c1, c2, c3, c4⟩ := HC.out _ HZ.out.bb.bel
          go_wp2_with fail
          refine (has84b_any _ o).mono ?_
          rintro e w3 ⟨rfl, hb3⟩
          have HZ3 := Lib.hid (HZ.out.below hb3)
          clear c0 c1 c2 c3 c4 hb3
          obtain ⟨c0, c1, c2, c3, c4⟩ := HC.out _ HZ3.out.bb.bel
          rcases HLC.out with ⟨h84, hlk2⟩ | ⟨h84, hne0, hlk2⟩ | ⟨h84, hpos, nm2, hlk2, hn2x⟩
          · have h84 : hasB o 84 = false := h84
            have HLK2 := Lib.hid hlk2
            clear hlk2
            go_wp2_with fail
            refine (HZ3.out.call (fun F hF => do_any _ g _ F hF (by have := HNC.out; omega) o a b c k)).mono ?_
            rintro e w4 ⟨rfl, hz4⟩
            have HZ4 := Lib.hid hz4
            clear c0 c1 c2 c3 c4 hz4
            obtain ⟨c0, c1, c2, c3, c4⟩ := HC.out _ HZ4.out.bb.bel
            go_wp2_with (first
              | (at_builtin; refine wpList_append_own_at _ rfl (.tmp 133) (.tmp 138) 23 rfl w1.heap.size 34 i0 _ 5 40 Tryd.underlying23 HI.out.1 HI.out.2.1 HI.out.2.2.1 HI.out.2.2.2 rfl (by decide) _ _ _ rfl (HZ4.out.ow.alloc _) ⟨w4.heap.size, 0, none⟩ 1 1 [.int .i64 o, .int .i64 a, .int .i64 b, .int .i64 c, .int .u32 k] rfl rfl (World.news_of_block (heap_alloc_new _ _)) (by simp [Value.oneCell']) (by have := HWL.out; unfold maxLen; omega) (by have := HWL.out; omega) (by have := HZ4.out.bb.bel.size; simp; omega) ?_; intro v5 w5 ho5 hgr5 _ hat5; have HZ5 := Lib.hid (HZ4.out.wapp ⟨o, a, b, c, k⟩ ho5 hgr5 hat5); clear ho5 hgr5 hat5 c0 c1 c2 c3 c4)
              | (at_builtin; refine wpList_append_own_at _ rfl (.tmp 140) (.tmp 142) 39 rfl w1.heap.size 9 j0 _ 1 16 Tryd.underlying39 HJ.out.1 HJ.out.2.1 HJ.out.2.2.1 HJ.out.2.2.2 rfl (by decide) _ _ _ rfl (HZ5.out.ol.alloc _) ⟨w5.heap.size, 0, none⟩ 1 1 [.string (strB [])] rfl rfl (World.news_of_block (heap_alloc_new _ _)) (by simp [Value.oneCell']) (by have := HLL.out; unfold maxLen; omega) (by have := HLL.out; omega) (by have := HZ5.out.bb.bel.size; simp; omega) ?_; intro v6 w6 ho6 hgr6 _ hat6; have HZ6 := Lib.hid (HZ5.out.lapp [] ho6 hgr6 hat6); clear ho6 hgr6 hat6))
            have HFIN : Hid (BR w1 w6 g (g + 1) (St names l (i + 1)) (St names l (i + 1)).find (i + 1) v5 v6 ((l.take (i + 1)).map (Bu.cd names)) ((l.take (i + 1)).map (lkS names))) := Lib.hid (HZ6.out.to (by rw [HST.out, insS_none HLK2.out]) (by rw [HST.out, find_insS]) (Nat.le_refl _) (by rw [HMC.out, cd_none HLK2.out]) (by rw [HML.out, lkS_none HLK2.out]))
            refine ⟨⟨i + 1, by omega, by simp, congrArg Value.bool ?_, HFIN⟩, by simp [intOf]; omega⟩
            rw [HST.out, bad_insS]; exact HGB2.out
          · have h84 : hasB o 84 = true := h84
            have HLK2 := Lib.hid hlk2
            have hm0 : m = 0 := by rw [← hm, hne0]; rfl
            clear hlk2 hne0
            have hd0 : decide ((0 : Int) < (m : Int)) = false := decide_eq_false (by omega)
            have hd00 : decide (0 < m) = false := decide_eq_false (by omega)
            have hd000 : ¬ 0 < m := by omega
            clear hm0
            go_wp2_with fail
            refine (HZ3.out.call (fun F hF => do_any _ g _ F hF (by have := HNC.out; omega) o a b c k)).mono ?_
            rintro e w4 ⟨rfl, hz4⟩
            have HZ4 := Lib.hid hz4
            clear c0 c1 c2 c3 c4 hz4
            obtain ⟨c0, c1, c2, c3, c4⟩ := HC.out _ HZ4.out.bb.bel
            go_wp2_with (first
              | (at_builtin; refine wpList_append_own_at _ rfl (.tmp 133) (.tmp 138) 23 rfl w1.heap.size 34 i0 _ 5 40 Tryd.underlying23 HI.out.1 HI.out.2.1 HI.out.2.2.1 HI.out.2.2.2 rfl (by decide) _ _ _ rfl (HZ4.out.ow.alloc _) ⟨w4.heap.size, 0, none⟩ 1 1 [.int .i64 o, .int .i64 a, .int .i64 b, .int .i64 c, .int .u32 k] rfl rfl (World.news_of_block (heap_alloc_new _ _)) (by simp [Value.oneCell']) (by have := HWL.out; unfold maxLen; omega) (by have := HWL.out; omega) (by have := HZ4.out.bb.bel.size; simp; omega) ?_; intro v5 w5 ho5 hgr5 _ hat5; have HZ5 := Lib.hid (HZ4.out.wapp ⟨o, a, b, c, k⟩ ho5 hgr5 hat5); clear ho5 hgr5 hat5 c0 c1 c2 c3 c4)
              | (at_builtin; refine wpList_append_own_at _ rfl (.tmp 140) (.tmp 142) 39 rfl w1.heap.size 9 j0 _ 1 16 Tryd.underlying39 HJ.out.1 HJ.out.2.1 HJ.out.2.2.1 HJ.out.2.2.2 rfl (by decide) _ _ _ rfl (HZ5.out.ol.alloc _) ⟨w5.heap.size, 0, none⟩ 1 1 [.string (strB [])] rfl rfl (World.news_of_block (heap_alloc_new _ _)) (by simp [Value.oneCell']) (by have := HLL.out; unfold maxLen; omega) (by have := HLL.out; omega) (by have := HZ5.out.bb.bel.size; simp; omega) ?_; intro v6 w6 ho6 hgr6 _ hat6; have HZ6 := Lib.hid (HZ5.out.lapp [] ho6 hgr6 hat6); clear ho6 hgr6 hat6))
            have HFIN : Hid (BR w1 w6 g (g + 1) (St names l (i + 1)) (St names l (i + 1)).find (i + 1) v5 v6 ((l.take (i + 1)).map (Bu.cd names)) ((l.take (i + 1)).map (lkS names))) := Lib.hid (HZ6.out.to (by rw [HST.out, insS_none HLK2.out]) (by rw [HST.out, find_insS]) (Nat.le_refl _) (by rw [HMC.out, cd_none HLK2.out]) (by rw [HML.out, lkS_none HLK2.out]))
            refine ⟨⟨i + 1, by omega, by simp, congrArg Value.bool ?_, HFIN⟩, by simp [intOf]; omega⟩
            rw [HST.out, bad_insS]; exact HGB2.out
          · have h84 : hasB o 84 = true := h84
            have hpos2 : 0 < m := by rw [← hm]; exact hpos
            have hk0 := HXK.out.1
            have hk1 := HXK.out.2
            obtain ⟨kk, rfl⟩ : ∃ kk : Nat, k = kk := ⟨k.toNat, by omega⟩
            obtain ⟨r, hr⟩ : ∃ r : Nat, kk % m = r := ⟨_, rfl⟩
            have hrm : r < m := by rw [← hr]; exact Nat.mod_lt _ hpos2
            have hn2y : names[r]? = some nm2 := by
              rw [← hr, ← hm]; exact hn2x
            have r1 : (kk : Int) % (m : Int) = (r : Int) := by rw [← hr]; rfl
            have r2 : (0 : Int) < (m : Int) := by omega
            have r3 : ((m : Int) == 0) = false := by rw [beq_eq_false_iff_ne]; omega
            have r4 : (r : Int) < (m : Int) := by omega
            have r5 : (0 : Int) ≤ (r : Int) := by omega
            obtain ⟨b3, o3, hB, hb3, dd3⟩ := HRN1.out.cell hn2y
            cases hB
            have d3 := bcell HZ3.out.bb.bel dd3
            have HLK2 := Lib.hid hlk2
            have HDD3 := Lib.hid dd3
            clear hlk2 hn2x hn2y hr dd3 hpos hrm
            go_wp2_with fail
            clear r1 r3
            go_still_tail 11, (by kernel_rfl)
            change wpList _ _ _ _ _ w3.drew
            go_wp2_with fail
            refine (HZ3.out.drew.call (fun F hF => go_any _ g _ F hF (by have := HNC.out; omega) o a (strB nm2))).mono ?_
            rintro e w4 ⟨rfl, hz4⟩
            have HZ4 := Lib.hid hz4
            clear c0 c1 c2 c3 c4 d3 hz4
            obtain ⟨c0, c1, c2, c3, c4⟩ := HC.out _ HZ4.out.bb.bel
            go_wp2_with fail
            go_region_law (refine step_append_lies _ rfl (.tmp 114) (.tmp 126) 23 rfl w1.heap.size 34 i0 _ 5 40 Tryd.underlying23 HI.out.1 HI.out.2.1 HI.out.2.2.1 HI.out.2.2.2 rfl (by decide) u8 _ _ rfl (HZ4.out.drew.ow.alloc _) ⟨w4.heap.size, 0, none⟩ 1 1 [.int .i64 o, .int .i64 a, .int .i64 0, .int .i64 0, .int .u32 0] rfl rfl (World.news_of_block (heap_alloc_new _ _)) (by simp [Value.oneCell']) (by decide) (by have := HWL.out; unfold maxLen; omega) (by have := HWL.out; omega) (by have := HZ4.out.bb.bel.size; simp; omega) _ rfl ?_; intro g1 capw w5 ho5 hgr5 hat5 hlt5; have HZ5 := Lib.hid (HZ4.out.drew.wapp ⟨o, a, 0, 0, 0⟩ ho5 hgr5 (hat5.imp (fun e => e.symm) (fun e => congrArg some e))); clear ho5 hgr5 hat5 hlt5)
            all_goals go_wp2_with (at_builtin; refine wpList_append_own_at _ rfl (.tmp 140) (.tmp 142) 39 rfl w1.heap.size 9 j0 _ 1 16 Tryd.underlying39 HJ.out.1 HJ.out.2.1 HJ.out.2.2.1 HJ.out.2.2.2 rfl (by decide) _ _ _ rfl (HZ5.out.ol.alloc _) ⟨w5.heap.size, 0, none⟩ 1 1 [.string (strB nm2)] rfl rfl (World.news_of_block (heap_alloc_new _ _)) (by simp [Value.oneCell']) (by have := HLL.out; unfold maxLen; omega) (by have := HLL.out; omega) (by have := HZ5.out.bb.bel.size; simp; omega) ?_; intro v6 w6 ho6 hgr6 _ hat6; have HZ6 := Lib.hid (HZ5.out.lapp nm2 ho6 hgr6 hat6); clear ho6 hgr6 hat6)
            all_goals have HFIN : Hid (BR w1 w6 g (g + 1) (St names l (i + 1)) (St names l (i + 1)).find (i + 1) (.slice (some ⟨g1, 0, none⟩) (wn.length + 1) capw) v6 ((l.take (i + 1)).map (Bu.cd names)) ((l.take (i + 1)).map (lkS names))) := Lib.hid (HZ6.out.to (by rw [HST.out, insS_some HLK2.out]; rfl) (by rw [HST.out, find_insS]) (Nat.le_refl _) (by rw [HMC.out, cd_some HLK2.out]) (by rw [HML.out, lkS_some HLK2.out]))
            all_goals refine ⟨⟨i + 1, by omega, by simp, congrArg Value.bool ?_, HFIN⟩, by simp [intOf]; omega⟩
            all_goals (rw [HST.out, bad_insS]; exact HGB2.out)
        · obtain ⟨b2, o2, rfl, hb2, dd⟩ := HRN1.out.cell hnx
          have d0 := bcell HBR1.out.bb.bel dd
          have f3 : (i : Int) < (m : Int) := by omega
          have e1 : (strB []).toList.isEmpty = true := by rw [ByteArray.toList_eq]; rfl
          have HZ : Hid (BR w1 wr g (g + 1) (Bu.nameS names S i) (Bu.nameS names S i).find (i + 1) u8 u9 wn ln) := Lib.hid (HBR1.out.to hsame.symm (by rw [hsame]) (by omega) rfl rfl)
          have HGB2 : Hid (gb = !(Bu.nameS names S i).bad) := Lib.hid (by rw [hsame]; exact HGB.out.symm)
          clear hsame dd
          obtain ⟨c0, c1, c2, c3, c4⟩ := HC.out _ HZ.out.bb.bel
          go_wp2_with fail
          refine (has84b_any _ o).mono ?_
          rintro e w3 ⟨rfl, hb3⟩
          have HZ3 := Lib.hid (HZ.out.below hb3)
          clear c0 c1 c2 c3 c4 hb3
          obtain ⟨c0, c1, c2, c3, c4⟩ := HC.out _ HZ3.out.bb.bel
          rcases HLC.out with ⟨h84, hlk2⟩ | ⟨h84, hne0, hlk2⟩ | ⟨h84, hpos, nm2, hlk2, hn2x⟩
          · have h84 : hasB o 84 = false := h84
            have HLK2 := Lib.hid hlk2
            clear hlk2
            go_wp2_with fail
            refine (HZ3.out.call (fun F hF => do_any _ g _ F hF (by have := HNC.out; omega) o a b c k)).mono ?_
            rintro e w4 ⟨rfl, hz4⟩
            have HZ4 := Lib.hid hz4
            clear c0 c1 c2 c3 c4 hz4
            obtain ⟨c0, c1, c2, c3, c4⟩ := HC.out _ HZ4.out.bb.bel
            go_wp2_with (first
              | (at_builtin; refine wpList_append_own_at _ rfl (.tmp 133) (.tmp 138) 23 rfl w1.heap.size 34 i0 _ 5 40 Tryd.underlying23 HI.out.1 HI.out.2.1 HI.out.2.2.1 HI.out.2.2.2 rfl (by decide) _ _ _ rfl (HZ4.out.ow.alloc _) ⟨w4.heap.size, 0, none⟩ 1 1 [.int .i64 o, .int .i64 a, .int .i64 b, .int .i64 c, .int .u32 k] rfl rfl (World.news_of_block (heap_alloc_new _ _)) (by simp [Value.oneCell']) (by have := HWL.out; unfold maxLen; omega) (by have := HWL.out; omega) (by have := HZ4.out.bb.bel.size; simp; omega) ?_; intro v5 w5 ho5 hgr5 _ hat5; have HZ5 := Lib.hid (HZ4.out.wapp ⟨o, a, b, c, k⟩ ho5 hgr5 hat5); clear ho5 hgr5 hat5 c0 c1 c2 c3 c4)
              | (at_builtin; refine wpList_append_own_at _ rfl (.tmp 140) (.tmp 142) 39 rfl w1.heap.size 9 j0 _ 1 16 Tryd.underlying39 HJ.out.1 HJ.out.2.1 HJ.out.2.2.1 HJ.out.2.2.2 rfl (by decide) _ _ _ rfl (HZ5.out.ol.alloc _) ⟨w5.heap.size, 0, none⟩ 1 1 [.string (strB [])] rfl rfl (World.news_of_block (heap_alloc_new _ _)) (by simp [Value.oneCell']) (by have := HLL.out; unfold maxLen; omega) (by have := HLL.out; omega) (by have := HZ5.out.bb.bel.size; simp; omega) ?_; intro v6 w6 ho6 hgr6 _ hat6; have HZ6 := Lib.hid (HZ5.out.lapp [] ho6 hgr6 hat6); clear ho6 hgr6 hat6))
            have HFIN : Hid (BR w1 w6 g (g + 1) (St names l (i + 1)) (St names l (i + 1)).find (i + 1) v5 v6 ((l.take (i + 1)).map (Bu.cd names)) ((l.take (i + 1)).map (lkS names))) := Lib.hid (HZ6.out.to (by rw [HST.out, insS_none HLK2.out]) (by rw [HST.out, find_insS]) (Nat.le_refl _) (by rw [HMC.out, cd_none HLK2.out]) (by rw [HML.out, lkS_none HLK2.out]))
            refine ⟨⟨i + 1, by omega, by simp, congrArg Value.bool ?_, HFIN⟩, by simp [intOf]; omega⟩
            rw [HST.out, bad_insS]; exact HGB2.out
          · exfalso
            have hm0 : m = 0 := by rw [← hm, hne0]; rfl
            omega
          · have h84 : hasB o 84 = true := h84
            have hpos2 : 0 < m := by rw [← hm]; exact hpos
            have hk0 := HXK.out.1
            have hk1 := HXK.out.2
            obtain ⟨kk, rfl⟩ : ∃ kk : Nat, k = kk := ⟨k.toNat, by omega⟩
            obtain ⟨r, hr⟩ : ∃ r : Nat, kk % m = r := ⟨_, rfl⟩
            have hrm : r < m := by rw [← hr]; exact Nat.mod_lt _ hpos2
            have hn2y : names[r]? = some nm2 := by
              rw [← hr, ← hm]; exact hn2x
            have r1 : (kk : Int) % (m : Int) = (r : Int) := by rw [← hr]; rfl
            have r2 : (0 : Int) < (m : Int) := by omega
            have r3 : ((m : Int) == 0) = false := by rw [beq_eq_false_iff_ne]; omega
            have r4 : (r : Int) < (m : Int) := by omega
            have r5 : (0 : Int) ≤ (r : Int) := by omega
            obtain ⟨b3, o3, hB, hb3, dd3⟩ := HRN1.out.cell hn2y
            cases hB
            have d3 := bcell HZ3.out.bb.bel dd3
            have HLK2 := Lib.hid hlk2
            have HDD3 := Lib.hid dd3
            clear hlk2 hn2x hn2y hr dd3 hpos hrm
            go_wp2_with fail
            clear r1 r3
            go_still_tail 11, (by kernel_rfl)
            change wpList _ _ _ _ _ w3.drew
            go_wp2_with fail
            refine (HZ3.out.drew.call (fun F hF => go_any _ g _ F hF (by have := HNC.out; omega) o a (strB nm2))).mono ?_
            rintro e w4 ⟨rfl, hz4⟩
            have HZ4 := Lib.hid hz4
            clear c0 c1 c2 c3 c4 d3 hz4
            obtain ⟨c0, c1, c2, c3, c4⟩ := HC.out _ HZ4.out.bb.bel
            go_wp2_with fail
            go_region_law (refine step_append_lies _ rfl (.tmp 114) (.tmp 126) 23 rfl w1.heap.size 34 i0 _ 5 40 Tryd.underlying23 HI.out.1 HI.out.2.1 HI.out.2.2.1 HI.out.2.2.2 rfl (by decide) u8 _ _ rfl (HZ4.out.drew.ow.alloc _) ⟨w4.heap.size, 0, none⟩ 1 1 [.int .i64 o, .int .i64 a, .int .i64 0, .int .i64 0, .int .u32 0] rfl rfl (World.news_of_block (heap_alloc_new _ _)) (by simp [Value.oneCell']) (by decide) (by have := HWL.out; unfold maxLen; omega) (by have := HWL.out; omega) (by have := HZ4.out.bb.bel.size; simp; omega) _ rfl ?_; intro g1 capw w5 ho5 hgr5 hat5 hlt5; have HZ5 := Lib.hid (HZ4.out.drew.wapp ⟨o, a, 0, 0, 0⟩ ho5 hgr5 (hat5.imp (fun e => e.symm) (fun e => congrArg some e))); clear ho5 hgr5 hat5 hlt5)
            all_goals go_wp2_with (at_builtin; refine wpList_append_own_at _ rfl (.tmp 140) (.tmp 142) 39 rfl w1.heap.size 9 j0 _ 1 16 Tryd.underlying39 HJ.out.1 HJ.out.2.1 HJ.out.2.2.1 HJ.out.2.2.2 rfl (by decide) _ _ _ rfl (HZ5.out.ol.alloc _) ⟨w5.heap.size, 0, none⟩ 1 1 [.string (strB nm2)] rfl rfl (World.news_of_block (heap_alloc_new _ _)) (by simp [Value.oneCell']) (by have := HLL.out; unfold maxLen; omega) (by have := HLL.out; omega) (by have := HZ5.out.bb.bel.size; simp; omega) ?_; intro v6 w6 ho6 hgr6 _ hat6; have HZ6 := Lib.hid (HZ5.out.lapp nm2 ho6 hgr6 hat6); clear ho6 hgr6 hat6)
            all_goals have HFIN : Hid (BR w1 w6 g (g + 1) (St names l (i + 1)) (St names l (i + 1)).find (i + 1) (.slice (some ⟨g1, 0, none⟩) (wn.length + 1) capw) v6 ((l.take (i + 1)).map (Bu.cd names)) ((l.take (i + 1)).map (lkS names))) := Lib.hid (HZ6.out.to (by rw [HST.out, insS_some HLK2.out]; rfl) (by rw [HST.out, find_insS]) (Nat.le_refl _) (by rw [HMC.out, cd_some HLK2.out]) (by rw [HML.out, lkS_some HLK2.out]))
            all_goals refine ⟨⟨i + 1, by omega, by simp, congrArg Value.bool ?_, HFIN⟩, by simp [intOf]; omega⟩
            all_goals (rw [HST.out, bad_insS]; exact HGB2.out)
      · obtain rfl : i = n := by omega
        have hd : decide ((i : Int) < (i : Int)) = false := decide_eq_false (by omega)
        have htk : l.take i = l := List.take_of_length_le (by omega)
        have hbr := HBR.out
        rw [htk] at hbr
        have hst : St names l i = Bu.stB names l := by unfold St; rw [htk]
        rw [hst] at hbr ⊢
        have hcl := st_code names l i (by omega)
        rw [hst] at hcl
        have hll := links_len names l HNL.out
        have hout := Bu.stB_out names l
        have hlc2 := Bu.stB_code names l
        obtain ⟨S, hS⟩ : ∃ S, Bu.stB names l = S := ⟨_, rfl⟩
        rw [hS] at hbr hcl hll hout ⊢
        obtain ⟨wA, wc, hwA⟩ := (Rd.of_own hbr.ow).form
        obtain ⟨lA, lc, hlA⟩ := (Rd.of_own hbr.ol).form
        rw [List.length_map, hn] at hwA hlA
        subst hwA hlA
        have hg0 : (!S.bad) = gdB S names l 0 := by unfold gdB; simp
        rw [hg0]
        obtain ⟨gb, hgb⟩ : ∃ gb, gdB S names l 0 = gb := ⟨_, rfl⟩
        rw [hgb]
        have HGB := Lib.hid hgb
        have HCL := Lib.hid hcl
        have HLL := Lib.hid hll
        have HOUT := Lib.hid hout
        have HB0 : Hid (BR w1 wr g (g + 1) S S.find i (.slice wA i wc) (.slice lA i lc) (wnB S names l 0) (l.map (lkS names))) := Lib.hid hbr
        clear hbr hst hS hcl hll hout hlc2 hg0 hgb HBR htk
        go_wp2_with fail
        clear hd
        go_loopw [6, 14] (fun gv iv wr => ∃ j : Nat, j ≤ i ∧ iv = .int .i64 j ∧ gv = .bool (gdB S names l j) ∧ Hid (BR w1 wr g (g + 1) S S.find i (.slice wA i wc) (.slice lA i lc) (wnB S names l j) (l.map (lkS names)))) (fun _ j _ => i - (intOf j).toNat)
        case atStart => exact ⟨0, by omega, rfl, congrArg Value.bool HGB.out.symm, HB0⟩
        case round =>
          obtain ⟨j, hji, rfl, rfl, HBR⟩ := hrel
          clear HB0 HGB
          by_cases hlt2 : j < i
          · obtain ⟨x, hx⟩ : ∃ x, l[j]? = some x := ⟨_, List.getElem?_eq_getElem (by omega)⟩
            have hxk := HK.out x (List.mem_of_getElem? hx)
            have HLC := Lib.hid (lk_cases names x)
            have HGS := Lib.hid (gdB_succ (S := S) (names := names) hx)
            have HX := Lib.hid hx
            obtain ⟨o, a, b, c, k⟩ := x
            obtain ⟨b1, o1, rfl, hb1, c0, c1, c2, c3, c4⟩ := ins_cells ((HV1.out (by omega)).below HBR.out.bb.bel (Nat.le_refl _)) hx (by omega)
            simp only [] at c0 c1 c2 c3 c4
            have f1 : (0 : Int) ≤ (j : Int) := by omega
            have f2 : (j : Int) < (i : Int) := by omega
            obtain ⟨gb2, hgb2⟩ : ∃ gb2, gdB S names l j = gb2 := ⟨_, rfl⟩
            rw [hgb2] at HGS ⊢
            clear hx c1 c2 c3 c4 hxk hgb2
            go_wp2_with fail
            refine (has84b_any _ o).mono ?_
            rintro e w3 ⟨rfl, hb3⟩
            have HZ3 := Lib.hid (HBR.out.below hb3)
            clear c0 hb3
            rcases HLC.out with ⟨h84, hlk2⟩ | ⟨h84, hne0, hlk2⟩ | ⟨h84, hpos, nm2, hlk2, hn2x⟩
            · have h84 : hasB o 84 = false := h84
              have HFIN : Hid (BR w1 w3 g (g + 1) S S.find i (.slice wA i wc) (.slice lA i lc) (wnB S names l (j + 1)) (l.map (lkS names))) := Lib.hid (HZ3.out.to rfl rfl (Nat.le_refl _) (wnB_none HX.out hlk2).symm rfl)
              have HGE : Hid (gb2 = gdB S names l (j + 1)) := Lib.hid (by rw [HGS.out, fd_none hlk2, Bool.and_true])
              clear hlk2
              go_wp2_with fail
              exact ⟨⟨j + 1, by omega, by simp, congrArg Value.bool HGE.out, HFIN⟩, by simp [intOf]; omega⟩
            · have h84 : hasB o 84 = true := h84
              have hm0 : m = 0 := by rw [← hm, hne0]; rfl
              have hd0 : decide ((0 : Int) < (m : Int)) = false := decide_eq_false (by omega)
              have hd00 : decide (0 < m) = false := decide_eq_false (by omega)
              have hd000 : ¬ 0 < m := by omega
              have HFIN : Hid (BR w1 w3 g (g + 1) S S.find i (.slice wA i wc) (.slice lA i lc) (wnB S names l (j + 1)) (l.map (lkS names))) := Lib.hid (HZ3.out.to rfl rfl (Nat.le_refl _) (wnB_none HX.out hlk2).symm rfl)
              have HGE : Hid (gb2 = gdB S names l (j + 1)) := Lib.hid (by rw [HGS.out, fd_none hlk2, Bool.and_true])
              clear hlk2 hne0 hm0
              go_wp2_with fail
              exact ⟨⟨j + 1, by omega, by simp, congrArg Value.bool HGE.out, HFIN⟩, by simp [intOf]; omega⟩
            · have h84 : hasB o 84 = true := h84
              have r2 : (0 : Int) < (m : Int) := by omega
              have hnml : nm2.length ≤ maxLen := HNL.out nm2 (List.mem_of_getElem? hn2x)
              obtain ⟨b3, o3, hlA, d3⟩ := str_cell (j := j) (nm := nm2) HZ3.out.ol (by rw [List.length_map, hn]) (by rw [List.getElem?_map, HX.out]; exact congrArg some (lkS_some hlk2)) (by rw [List.length_map]; omega)
              cases hlA
              obtain ⟨cnt, D, hcnt, hmap, hdr⟩ := HZ3.out.at_
              have hlk := map_look hmap hdr (strB nm2) hnml
              have HLK2 := Lib.hid hlk2
              rw [show (strB nm2).data.toList = nm2 from rfl] at hlk
              clear hmap hdr hlk2 hn2x hpos hnml hcnt
              cases hf : S.find nm2 with
              | none =>
                rw [hf] at hlk
                simp only [Option.isSome, Option.getD] at hlk
                have HF := Lib.hid hf
                have HGE : Hid (false = gdB S names l (j + 1)) := Lib.hid (by rw [HGS.out, fd_some HLK2.out, HF.out]; simp)
                clear hf
                obtain ⟨gw, cw, hwv, hgl, hfz, ⟨u, hcu⟩, hbr2⟩ := HZ3.out.wset (wnB_get (S := S) (names := names) HX.out) 0
                have hwA := (Value.slice.inj hwv).1
                subst hwA
                have HBR2 := Lib.hid hbr2
                have HFIN : Hid (BR w1 (w3.setCell ⟨gw, j * 5 + 4, none⟩ (.int .u32 0)) g (g + 1) S S.find i (.slice (some ⟨gw, 0, none⟩) i wc) (.slice (some ⟨b3, o3, none⟩) i lc) (wnB S names l (j + 1)) (l.map (lkS names))) := Lib.hid (HBR2.out.to rfl rfl (Nat.le_refl _) (by rw [wnB_succ HX.out, fx_some HLK2.out, HF.out]; rfl) rfl)
                clear hbr2 hwv
                cases gb2 with
                | false =>
                  go_wp2_with fail
                  exact ⟨⟨j + 1, by omega, by simp, congrArg Value.bool HGE.out, HFIN⟩, by simp [intOf]; omega⟩
                | true =>
                  go_wp2_with fail
                  exact ⟨⟨j + 1, by omega, by simp, congrArg Value.bool HGE.out, HFIN⟩, by simp [intOf]; omega⟩
              | some q =>
                rw [hf] at hlk
                simp only [Option.isSome, Option.getD] at hlk
                have hq := HZ3.out.find_le hf
                have hq2 := HCL.out.1
                have q1 : (0 : Int) ≤ (q : Int) := by omega
                have q2 : (q : Int) ≤ 200 := by omega
                have HF := Lib.hid hf
                have HGE : Hid (gb2 = gdB S names l (j + 1)) := Lib.hid (by rw [HGS.out, fd_some HLK2.out, HF.out]; simp)
                clear hf hq hq2
                obtain ⟨gw, cw, hwv, hgl, hfz, ⟨u, hcu⟩, hbr2⟩ := HZ3.out.wset (wnB_get (S := S) (names := names) HX.out) (q : Int)
                have hwA := (Value.slice.inj hwv).1
                subst hwA
                have HBR2 := Lib.hid hbr2
                have HFIN : Hid (BR w1 (w3.setCell ⟨gw, j * 5 + 4, none⟩ (.int .u32 (q : Int))) g (g + 1) S S.find i (.slice (some ⟨gw, 0, none⟩) i wc) (.slice (some ⟨b3, o3, none⟩) i lc) (wnB S names l (j + 1)) (l.map (lkS names))) := Lib.hid (HBR2.out.to rfl rfl (Nat.le_refl _) (by rw [wnB_succ HX.out, fx_some HLK2.out, HF.out]; rfl) rfl)
                clear hbr2 hwv
                cases gb2 with
                | false =>
                  go_wp2_with fail
                  exact ⟨⟨j + 1, by omega, by simp, congrArg Value.bool HGE.out, HFIN⟩, by simp [intOf]; omega⟩
                | true =>
                  go_wp2_with fail
                  exact ⟨⟨j + 1, by omega, by simp, congrArg Value.bool HGE.out, HFIN⟩, by simp [intOf]; omega⟩
          · obtain rfl : j = i := by omega
            have hd : decide ((j : Int) < (j : Int)) = false := decide_eq_false (by omega)
            have htk : l.take j = l := List.take_of_length_le (by omega)
            have hbr := HBR.out
            have hwe := wnB_end S names l
            rw [hn] at hwe
            rw [hwe] at hbr
            have hout := HOUT.out
            have hge : gdB S names l j = (!S.bad && l.all (Bu.fd S names)) := by unfold gdB; rw [htk]
            rw [← hge] at hout
            have HBRF := Lib.hid hbr
            have HOUT2 := Lib.hid hout
            obtain ⟨gb3, hgb3⟩ : ∃ gb3, gdB S names l j = gb3 := ⟨_, rfl⟩
            rw [hgb3] at HOUT2 ⊢
            clear htk hbr hwe hout hge hgb3 HBR HOUT
            go_wp2_with fail
            refine (HBRF.out.bb.code (HT1.out.below HBRF.out.bb.bel (Nat.le_refl _)).isa (by have := HCL.out.1; omega) HLL.out).mono ?_
            rintro e w4 ⟨_, hb4, hc⟩
            have hbel := HB1.out.trans ((HBRF.out.bb.bel.trans (hb4.mono HBRF.out.bb.bel.size)).mono HB1.out.size)
            have HBE := Lib.hid hbel
            have hor := HBRF.out.below hb4
            have HOR := Lib.hid (Rd.of_own hor.ow)
            clear hbel hor hb4
            cases gb3 with
            | false =>
              obtain rfl : e = .returned (.tuple #[.slice none 0 0, .bool false]) := by
                rcases hc with ⟨_, he⟩ | ⟨l2, v2, h2, _⟩
                · exact he
                · rw [HOUT2.out] at h2; cases h2
              clear hc
              go_wp2_with fail
              go_ret
              exact ⟨rfl, HBE.out⟩
            | true =>
              obtain ⟨v2, rfl, ho2⟩ : ∃ v2, e = .returned (.tuple #[v2, .bool true]) ∧ Rd w4 5 v2 (l.map (Bu.fx S names)).length (flat (l.map (Bu.fx S names))) := by
                rcases hc with ⟨h2, _⟩ | ⟨l2, v2, h2, he, ho⟩
                · rw [HOUT2.out] at h2; cases h2
                · rw [HOUT2.out] at h2
                  obtain rfl : l.map (Bu.fx S names) = l2 := by injection h2
                  exact ⟨v2, he, Rd.of_own ho⟩
              have HO2 := Lib.hid ho2
              clear hc ho2
              go_wp2_with fail
              refine (same04_any w4 v2 _ (l.map (Bu.fx S names)) _ rfl HO2.out HOR.out (by rw [List.length_map]; omega)).mono ?_
              rintro e w5 ⟨rfl, q, rfl⟩
              go_wp2_with fail
              go_ret
              exact ⟨rfl, below_dn HBE.out q⟩
end Go.Proofs.YtlopmejmionnpaaDoor.As
