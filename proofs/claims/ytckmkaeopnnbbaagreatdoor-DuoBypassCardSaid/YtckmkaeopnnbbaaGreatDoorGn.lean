/- The walks of pick.Of, pick.Read. The walks of a machine's Events and Mem, of deadlatchlaw15.one. The walk of a machine's Done. The walk of deadlatchlaw15.holds. -/
import Derived.Test.YtckmkaeopnnbbaaGreatDoorGk
import Derived.Test.YtckmkaeopnnbbaaGreatDoorGm
import Derived.Deep.OwnRows
import Derived.Test.YtckmkaeopnnbbaaGreatDoorGc
import Derived.Test.YtckmkaeopnnbbaaGreatDoorGl
import Derived.Deep.LoopGhost
import Derived.Test.YtckmkaeopnnbbaaGreatDoorTsV
import Derived.Test.YtckmkaeopnnbbaaGreatDoorGe
section
set_option linter.unusedVariables false
set_option linter.unusedSimpArgs false
set_option maxRecDepth 20000
namespace Go.Proofs.YtckmkaeopnnbbaaGreatDoor.As.T
open Go.RowKit

theorem infoP : (Tryz.prog.info? 104).map (fun i => (i.zero, i.size, i.bytes)) = some (some (.agg #[.int .i64 0, .int .i64 0]), 2, 16) := by kernel_rfl
theorem results_pick {fn : Func} {p : Tmp} (h : fn.results = #[.cell p 104]) (tmps : Array Value) (w : World) (R : Nat) (a b : Value) (hb : w.heap[R]? = some (.cells #[a, b] 104 (0, 0))) (hp : tmps.getD p undef = .pointer (some ⟨R, 0, none⟩)) :
    (results fn tmps).run Tryz.prog w = .ok (.agg #[a, b]) w := by
  have hl := run_loadVar_row (P := Tryz.prog) w R 104 104 _ _ _ hb Tryz.underlying104 rfl (by kernel_rfl)
  simp only [Array.getD_eq_getD_getElem?] at hp
  simp [results, h, hp, asAddr, hl]
theorem of_any (w : World) (b : Nat) (hb : b ≤ 255) : Calls Tryz.prog 51 #[.int .u8 b] w fun e w' => e = .returned (.agg #[.int .i64 ((pickB b).1 : Nat), .int .i64 ((pickB b).2 : Nat)]) ∧ Below w.heap.size w w' := by
  have h1 : IntKind.i64.wrap (b : Int) = b := by rw [IntKind.wrap_i64]; omega
  have e1 : ((b : Int).tdiv 8).tmod 3 = ((pickB b).1 : Nat) := by
    unfold pickB
    have : (b : Int).tdiv 8 = ((b / 8 : Nat) : Int) := by rw [Int.tdiv_eq_ediv_of_nonneg (by omega)]; omega
    rw [this]
    show (((b / 8 : Nat) : Int)).tmod 3 = ((b / 8 % 3 : Nat) : Int)
    rw [Int.tmod_eq_emod_of_nonneg (by omega)]; omega
  have e2 : (b : Int).tmod 8 = ((pickB b).2 : Nat) := by
    unfold pickB
    show (b : Int).tmod 8 = ((b % 8 : Nat) : Int)
    rw [Int.tmod_eq_emod_of_nonneg (by omega)]; omega
  have f1 : IntKind.i64.wrap ((b : Int).tdiv 8) = (b : Int).tdiv 8 := by
    rw [Int.tdiv_eq_ediv_of_nonneg (by omega), IntKind.wrap_i64]; omega
  have f2 : IntKind.i64.wrap (((b : Int).tdiv 8).tmod 3) = ((b : Int).tdiv 8).tmod 3 := by
    rw [e1, IntKind.wrap_i64]; unfold pickB; omega
  have f3 : IntKind.i64.wrap ((b : Int).tmod 8) = (b : Int).tmod 8 := by
    rw [e2, IntKind.wrap_i64]; unfold pickB; omega
  have HE := Lib.hid (And.intro e1 e2)
  clear e1 e2
  go_enter Tryz.func51, Tryz.ntmps51
  go_wp2_with fail
  refine bodyPost_ret (results_pick rfl _ _ w.heap.size _ _ (heap_alloc_new _ _) rfl) rfl ?_
  have g1 : (b : Int) / 8 % 3 = ((pickB b).1 : Nat) := by unfold pickB; show (b : Int) / 8 % 3 = ((b / 8 % 3 : Nat) : Int); omega
  have g2 : (b : Int) % 8 = ((pickB b).2 : Nat) := by unfold pickB; show (b : Int) % 8 = ((b % 8 : Nat) : Int); omega
  exact ⟨by rw [g1, g2], (Below.refl _ w).alloc (Nat.le_refl _) _⟩
def u8s (l : List Nat) : List Value := l.map fun b => .int .u8 (b : Nat)
theorem set2_get (arr : Array Value) (i j : Nat) (v0 v1 : Value) (h : i + 2 ≤ arr.size) : ((arr.setIfInBounds i v0).setIfInBounds (i + 1) v1)[j]? = if j = i then some v0 else if j = i + 1 then some v1 else arr[j]? := by
  rw [Array.getElem?_setIfInBounds, Array.getElem?_setIfInBounds]
  by_cases e1 : i + 1 = j
  · rw [if_pos e1, if_pos (by simp; omega), if_neg (by omega), if_pos (by omega)]
  · rw [if_neg e1]
    by_cases e2 : i = j
    · rw [if_pos e2, if_pos (by omega), if_pos (by omega)]
    · rw [if_neg e2, if_neg (by omega), if_neg (by omega)]
set_option maxHeartbeats 8000000 in
/-- The same, with the row itself. -/
theorem readR_any (w : World) (v : Value) (bs : List Nat) (h : Rd w 1 v bs.length (u8s bs)) (hb : ∀ b ∈ bs, b ≤ 255) (hn : bs.length ≤ 100000) :
    Calls Tryz.prog 25 #[v] w fun e w' => ∃ g, e = .returned (.slice (some ⟨g, 0, none⟩) bs.length bs.length) ∧ PkS w' g (bs.map pickB) ∧ (∃ arr, w'.heap[g]? = some (.cells arr 104 (0, 0))) ∧ w.heap.size ≤ g ∧ g < w'.heap.size ∧ Below w.heap.size w w' := by
  obtain ⟨A, cap, rfl, hc, hl, hcell⟩ := h
  obtain ⟨N, hN⟩ : ∃ N, bs.length = N := ⟨_, rfl⟩
  rw [hN] at hc hl hcell hn ⊢
  have hmk : ∀ W, (Instr.makeSlice 54 (.int .i64 (N : Int)) (.int .i64 (N : Int))).run Tryz.prog W = .ok (.slice (some ⟨W.heap.size, 0, none⟩) N N) (W.alloc (.cells (madeCells #[.int .i64 0, .int .i64 0] (N * 2)) 104)) := fun W => by
    obtain ⟨i, hi, hz0, hz1, hz2⟩ := info_parts infoP
    have hb : (i.bytes : Int) * (N : Int) ≤ 281474976710656 := by rw [hz2]; omega
    have hr := run_make (P := Tryz.prog) W 54 104 i _ Tryz.underlying54 hi hz0 .i64 .i64 N N (by omega) (Int.le_refl _) hb (by omega)
    simp only [Int.toNat_natCast, hz1] at hr
    exact hr
  have HCE := Lib.hid hcell
  have HB := Lib.hid hb
  have HN := Lib.hid hN
  have HNL := Lib.hid hn
  clear hcell hb hN hc hl hn
  go_enter Tryz.func25, Tryz.ntmps25
  go_wp2_with fail
  clear hmk
  go_loopg [11] N (fun g iv wr => ∃ (i : Nat) (arr : Array Value), i + g = N ∧ iv = .int .i64 i ∧ Hid (wr.heap[w.heap.size]? = some (.cells arr 104 (0, 0)) ∧ arr.size = N * 2 ∧ (∀ (j : Nat) p, j < i → (bs.map pickB)[j]? = some p → arr[j * 2]? = some (.int .i64 p.1) ∧ arr[j * 2 + 1]? = some (.int .i64 p.2)) ∧ Below w.heap.size w wr))
  case atStart => exact ⟨0, _, by omega, rfl, Lib.hid ⟨heap_alloc_new _ _, size_madeCells _ _, fun j p hj => absurd hj (by omega), (Below.refl _ w).alloc (Nat.le_refl _) _⟩⟩
  case round =>
    obtain ⟨i, arr, hi, rfl, HR⟩ := hrel
    by_cases hlt : i < N
    · obtain ⟨g', rfl⟩ : ∃ g', gk = g' + 1 := ⟨gk - 1, by omega⟩
      have hil : (i : Int) < (N : Int) := by omega
      have hwr : wrap64 ((i : Int) + 1) = (i : Int) + 1 := by have := HNL.out; unfold wrap64; omega
      obtain ⟨bt, hbt⟩ : ∃ b, bs[i]? = some b := ⟨_, List.getElem?_eq_getElem (by rw [HN.out]; exact hlt)⟩
      have hb5 := HB.out bt (List.mem_of_getElem? hbt)
      obtain ⟨b, off, rfl, hbl, hce⟩ : ∃ b off, A = some ⟨b, off, none⟩ ∧ b < w.heap.size ∧ ∀ j u, (u8s bs)[j]? = some u → w.cell? ⟨b, off + j, none⟩ = some u := by
        rcases HCE.out with ⟨_, h⟩ | h
        · omega
        · exact h
      have x0 : wr.cell? ⟨b, off + i, none⟩ = some (.int .u8 (bt : Nat)) := (HR.out.2.2.2.cell (p := ⟨b, off + i, none⟩) hbl).trans (hce i _ (by simp [u8s, hbt]))
      have hof := fun W => of_any W bt hb5
      have HOF := Lib.hid hof
      have HBT := Lib.hid hbt
      clear hof hbt hce hb5
      go_wp2_with (go_at_call 51; refine (HOF.out _).mono ?_; rintro r w3 ⟨rfl, hb3⟩; have hr3 : w3.heap[w.heap.size]? = some (.cells arr 104 (0, 0)) := (hb3.block _ (Array.getElem?_eq_some_iff.1 HR.out.1).1).trans HR.out.1; obtain ⟨u0, o0⟩ : ∃ u, w3.cell? ⟨w.heap.size, i * 2, none⟩ = some u := ⟨_, (cell_of_row _ _ _ _ _ _ hr3).trans (Array.getElem?_eq_getElem (by have := HR.out.2.1; omega))⟩; obtain ⟨u1, o1⟩ : ∃ u, w3.cell? ⟨w.heap.size, i * 2 + 1, none⟩ = some u := ⟨_, (cell_of_row _ _ _ _ _ _ hr3).trans (Array.getElem?_eq_getElem (by have := HR.out.2.1; omega))⟩; have z0 := frozen_of_row w3 w.heap.size (i * 2) _ _ hr3; have z1 := frozen_of_row w3 w.heap.size (i * 2 + 1) _ _ hr3; have HR3 := Lib.hid hr3; have HB3 := Lib.hid hb3; clear hr3 hb3)
      go_roundg g'
      case rel =>
        refine ⟨i + 1, (arr.setIfInBounds (i * 2) (.int .i64 ((pickB bt).1 : Nat))).setIfInBounds (i * 2 + 1) (.int .i64 ((pickB bt).2 : Nat)), by omega, by first | (simp; done) | (simp; exact hwr), Lib.hid ⟨?_, by simp; exact HR.out.2.1, fun j p hj hp => ?_, ?_⟩⟩
        · exact heap_setCell_same _ w.heap.size (i * 2 + 1) _ _ _ (heap_setCell_same _ w.heap.size (i * 2) _ _ _ HR3.out)
        · rw [set2_get _ _ _ _ _ (by have := HR.out.2.1; omega), set2_get _ _ _ _ _ (by have := HR.out.2.1; omega)]
          by_cases e : j = i
          · subst e
            rw [List.getElem?_map, HBT.out] at hp
            obtain rfl := Option.some.inj hp
            rw [if_pos rfl, if_neg (by omega), if_pos rfl]
            exact ⟨rfl, rfl⟩
          · rw [if_neg (by omega), if_neg (by omega), if_neg (by omega), if_neg (by omega)]
            exact HR.out.2.2.1 j p (by omega) hp
        · exact (HR.out.2.2.2.trans (HB3.out.mono HR.out.2.2.2.size)).trans ((Only.set1 (F := fun k => k = w.heap.size) (p := ⟨w.heap.size, i * 2 + 1, none⟩) (Only.set1 (F := fun k => k = w.heap.size) (p := ⟨w.heap.size, i * 2, none⟩) (Only.refl _ w3) rfl _) rfl _).below (Nat.le_trans HR.out.2.2.2.size HB3.out.size) (fun k e => by omega))
      case measure => omega
    · have hil : ¬ ((i : Int) < (N : Int)) := by omega
      have hiN : i = N := by omega
      subst hiN
      go_wp2_with fail
      go_ret
      refine ⟨_, rfl, fun j p hp => ?_, ⟨_, HR.out.1⟩, Nat.le_refl _, (Array.getElem?_eq_some_iff.1 HR.out.1).1, HR.out.2.2.2⟩
      have hj : j < i := by
        have := (List.getElem?_eq_some_iff.1 hp).1
        rw [List.length_map, HN.out] at this
        exact this
      obtain ⟨h1, h2⟩ := HR.out.2.2.1 j p hj hp
      exact ⟨(cell_of_row _ _ _ _ _ _ HR.out.1).trans h1, (cell_of_row _ _ _ _ _ _ HR.out.1).trans h2⟩
theorem read_any (w : World) (v : Value) (bs : List Nat) (h : Rd w 1 v bs.length (u8s bs)) (hb : ∀ b ∈ bs, b ≤ 255) (hn : bs.length ≤ 100000) :
    Calls Tryz.prog 25 #[v] w fun e w' => ∃ g, e = .returned (.slice (some ⟨g, 0, none⟩) bs.length bs.length) ∧ PkS w' g (bs.map pickB) ∧ w.heap.size ≤ g ∧ g < w'.heap.size ∧ Below w.heap.size w w' :=
  (readR_any w v bs h hb hn).mono fun e w' ⟨g, h1, h2, _, h3, h4, h5⟩ => ⟨g, h1, h2, h3, h4, h5⟩
end Go.Proofs.YtckmkaeopnnbbaaGreatDoor.As.T
end

section
set_option linter.unusedVariables false
set_option linter.unusedSimpArgs false
set_option maxRecDepth 20000
namespace Go.Proofs.YtckmkaeopnnbbaaGreatDoor.As.T
open Go.RowKit

theorem events_ts {Z : Nat → Prop} {w : World} {K : TsK} {s : Ts} (h : TsM Z w K s) (hn : s.evs.length < 2000000) :
    Calls Tryz.prog 26 #[.pointer (some ⟨K.mb, 0, none⟩)] w fun e w' => ∃ v, e = .returned v ∧ w'.ownsRow w.heap.size 65 8 v s.evs.length (flatE s.evs) ∧ Below w.heap.size w w' := by
  obtain ⟨_, _, _, _, _, ev, kv, ma, ta, ba, A, _⟩ := h
  have c0 : w.cell? ⟨K.mb, 5, none⟩ = some ev := cell_of_row _ _ 5 _ _ _ A.hb
  obtain ⟨e1, e2, e3, rfl⟩ : ∃ a b c, ev = .slice a b c := by
    rcases A.oe.2 with ⟨e, _⟩ | ⟨g, cap, cur, e, _⟩
    · exact ⟨_, _, _, e⟩
    · exact ⟨_, _, _, e⟩
  have hcl := cloneE_any w _ _ _ (Rd.of_own A.oe) hn (one_ev _)
  have HCL := Lib.hid hcl
  clear hcl A
  go_enter Tryz.func26, Tryz.ntmps26
  go_wp2_with (go_at_call 52; refine HCL.out.mono ?_; rintro r w2 ⟨v, rfl, ho, hb⟩)
  go_ret
  exact ⟨v, rfl, ho, hb⟩
end Go.Proofs.YtckmkaeopnnbbaaGreatDoor.As.T
end

section
set_option linter.unusedVariables false
set_option linter.unusedSimpArgs false
set_option maxRecDepth 20000
namespace Go.Proofs.YtckmkaeopnnbbaaGreatDoor.As.T
open Go.RowKit

end Go.Proofs.YtckmkaeopnnbbaaGreatDoor.As.T
end

section
set_option linter.unusedVariables false
set_option linter.unusedSimpArgs false
set_option maxRecDepth 20000
namespace Go.Proofs.YtckmkaeopnnbbaaGreatDoor.As.T
open Go.RowKit

/-- The codes of a program of rounds. -/
def codesR (ca cb : Nat → List Ins) (T rounds : Nat) : List (List Ins) := (List.range T).map fun t => roundsR (ca t) (cb t) rounds []
theorem codesR_len (ca cb : Nat → List Ins) (T rounds : Nat) : (codesR ca cb T rounds).length = T := by simp [codesR]
theorem codesR_get {ca cb : Nat → List Ins} {T rounds t : Nat} (ht : t < T) : (codesR ca cb T rounds)[t]? = some (roundsR (ca t) (cb t) rounds []) := by
  unfold codesR
  rw [List.getElem?_map, List.getElem?_range ht]; rfl
/-- What must be so of codes. -/
def CodesOk (codes : List (List Ins)) : Prop := ∀ L ∈ codes, 0 < L.length ∧ L.length ≤ 4000 ∧ ∀ x ∈ L, okI L.length x = true
theorem cdp_of {w W : World} {gp gcs pc T : Nat} {ca cb : Nat → List Ins} {rounds : Nat} (h : CsW w W gp (.slice (some ⟨gcs, 0, none⟩) T pc) (fun t => roundsR (ca t) (cb t) rounds []) T) : CdP W gcs (codesR ca cb T rounds) := by
  obtain ⟨⟨g, cap, h1, h2⟩, _⟩ := h
  intro t L hL
  have ht : t < T := by
    have := (List.getElem?_eq_some_iff.1 hL).1
    rwa [codesR_len] at this
  rw [codesR_get ht] at hL
  obtain rfl := Option.some.inj hL
  obtain ⟨a, _, _, _, _, b⟩ := h2 t ht
  refine ⟨g t, cap t, ?_, a, b⟩
  have := h1.cells (g := gcs) rfl t (.slice (some ⟨g t, 0, none⟩) (roundsR (ca t) (cb t) rounds []).length (cap t)) (by rw [List.getElem?_map, List.getElem?_range ht]; rfl)
  rwa [add_at, Nat.zero_add] at this
theorem ok0 {codes : List (List Ins)} (hc : CodesOk codes) {mem : List Int} {room : Nat} (hm : ∀ v ∈ mem, wd v = true) : OkS codes (ts0 mem room codes.length) := by
  refine ⟨by simp [ts0], by simp [ts0], ?_, hm, ?_, ?_, fun L hL => ⟨(hc L hL).2.1, (hc L hL).2.2⟩⟩
  · intro j q hj e he
    have hj2 : (List.replicate codes.length ([] : List (Nat × Int)))[j]? = some q := hj
    rw [List.getElem?_replicate] at hj2
    split at hj2
    · injection hj2 with hj2; subst hj2; cases he
    · cases hj2
  · intro q hq e he
    have hq2 : q ∈ List.replicate codes.length ([] : List (Nat × Int)) := hq
    rw [(List.mem_replicate.1 hq2).2] at he
    cases he
  · intro t th hth
    have hth2 : (List.replicate codes.length th0)[t]? = some th := hth
    rw [List.getElem?_replicate] at hth2
    split at hth2
    · rename_i hlt
      injection hth2 with hth2
      subst hth2
      refine ⟨codes[t], List.getElem?_eq_getElem hlt, ?_⟩
      simp [okT, th0, wd]
    · cases hth2
/-- A block that was laid behind the machine is kept, too. -/
theorem TsM.add {Z : Nat → Prop} {w w' : World} {K : TsK} {s : Ts} {g : Nat} (h : TsM Z w K s) (hb : Below w.heap.size w w') (hg : w.heap.size ≤ g) (hg2 : g < w'.heap.size) : TsM (fun k => Z k ∨ k = g) w' K s := by
  obtain ⟨h1, h2, h3, h4, h5, ev, kv, ma, ta, ba, A, D, hz⟩ := h
  refine ⟨fun k hk => ?_, Nat.le_trans h2 hb.size, h3, h4, h5, ev, kv, ma, ta, ba, A.only (Only.of_below (F := fun _ => False) hb (Nat.le_refl _)) (fun _ e => e.elim), D, fun k hk hf => ?_⟩
  · rcases hk with hk | hk
    · exact Nat.lt_of_lt_of_le (h1 k hk) hb.size
    · omega
  · rcases hk with hk | hk
    · exact hz k hk hf
    · have := A.flt k hf; omega
end Go.Proofs.YtckmkaeopnnbbaaGreatDoor.As.T
end

