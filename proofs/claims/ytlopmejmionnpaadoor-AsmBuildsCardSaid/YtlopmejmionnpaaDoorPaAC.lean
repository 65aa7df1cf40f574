/- A builder beside a map of places, a row of instructions and a row of strings; a slice of strings that comes in. -/
import Derived.Test.YtlopmejmionnpaaDoorPaZ
import Derived.Test.YtlopmejmionnpaaDoorBu1
import Derived.Maps.AppendAt
set_option linter.unusedVariables false
set_option linter.unusedSimpArgs false
namespace Go.Proofs.YtlopmejmionnpaaDoor.As
open Go.ChangeShapes Go.WideShapes Go.ChangeAt Go.RowKit

theorem own_blk {w w' : World} {base : Nat} {e : TypeId} {size n : Nat} {v : Value} {xs : List Value} (h : w.ownsRow base e size v n xs) (hb : ∀ k, v.ownBlock = some k → w'.heap[k]? = w.heap[k]?) : w'.ownsRow base e size v n xs := by
  refine ⟨h.1, ?_⟩
  rcases h.2 with h0 | ⟨g, cap, cur, rfl, hb2, hgg, rest⟩
  · exact .inl h0
  · exact .inr ⟨g, cap, cur, rfl, hb2, (hb g rfl).trans hgg, rest⟩
theorem only_grown2 {W W' : World} {r : Option Nat} (h : W.grownBy W' r) : Only (fun k => r = some k) W W' := ⟨h.os, h.tape, h.output, h.size, fun k hk hn => h.block k hk (fun e => hn e.symm)⟩
theorem BB.other {w W W' : World} {g : Nat} {s : BS} {K : Nat → Prop} (h : BB w W g s K) {G : Nat → Prop} (ho : Only G W W') (hG : ∀ k, G k → k < W.heap.size → K k ∧ w.heap.size ≤ k) (K' : Nat → Prop) (hK : ∀ k, K' k → K k ∨ (W.heap.size ≤ k ∧ k < W'.heap.size)) : BB w W' g s K' := by
  obtain ⟨F, h1, hF, hw, hk⟩ := h
  have hlt := fun k hk => mem_lt h1.mem k hk
  refine ⟨F, ⟨h1.good, mem_only h1.mem ho (fun k hf hg => (hk k (hG k hg (hlt k hf)).1).1 hf)⟩, hF, ?_, fun k e => ?_⟩
  · refine ⟨ho.os.trans hw.os, ho.tape.trans hw.tape, ho.output.trans hw.output, Nat.le_trans hw.size ho.size, fun k hk2 => ?_⟩
    have hkW := Nat.lt_of_lt_of_le hk2 hw.size
    exact (ho.block k hkW (fun hg => by have := (hG k hg hkW).2; omega)).trans (hw.block k hk2)
  · rcases hK k e with e | ⟨e1, e2⟩
    · exact ⟨(hk k e).1, Nat.lt_of_lt_of_le (hk k e).2 ho.size⟩
    · exact ⟨fun hf => by have := hlt k hf; omega, e2⟩
def strV (l : List B8) : List Value := l.map fun x => .string (strB x)
abbrev KB (mb : Nat) (wv lv : Value) (k : Nat) : Prop := k = mb ∨ wv.ownBlock = some k ∨ lv.ownBlock = some k
/-- What the law holds besides its builder. -/
structure BR (w W : World) (g mb : Nat) (s : BS) (f : B8 → Option Nat) (c : Nat) (wv lv : Value) (want : List Ins) (lks : List B8) : Prop where
  bb : BB w W g s (KB mb wv lv)
  at_ : ∃ cnt D, cnt ≤ c ∧ W.ownsMap Tryd.prog 9 (plainElem Tryd.prog 3) mb cnt D ∧ DReads D f
  mlt : w.heap.size ≤ mb
  ow : W.ownsRow w.heap.size 34 5 wv want.length (flat want)
  ol : W.ownsRow w.heap.size 9 1 lv lks.length (strV lks)
variable {w W W' : World} {g mb c : Nat} {s s' : BS} {f f' : B8 → Option Nat} {wv lv : Value} {want : List Ins} {lks : List B8}
theorem BR.below (h : BR w W g mb s f c wv lv want lks) (hb : Below W.heap.size W W') : BR w W' g mb s f c wv lv want lks := by
  obtain ⟨b, ⟨cnt, D, hc, hm, hd⟩, ml, ow, ol⟩ := h
  have hlt := fun k hk => (b.choose_spec.2.2.2 k hk).2
  exact ⟨b.below hb, ⟨cnt, D, hc, map_of_blk hm (hb.block _ (hlt mb (.inl rfl))), hd⟩, ml, own_blk ow (fun k e => hb.block _ (hlt k (.inr (.inl e)))), own_blk ol (fun k e => hb.block _ (hlt k (.inr (.inr e))))⟩
theorem BR.call {fn : FuncId} {args : Array Value} (h : BR w W g mb s f c wv lv want lks) (hc : ∀ F, Bld W g s F → Calls Tryd.prog fn args W (BPost W g F s')) :
    Calls Tryd.prog fn args W fun e W' => e = .returned (.tuple #[]) ∧ BR w W' g mb s' f c wv lv want lks := by
  obtain ⟨b, ⟨cnt, D, hcn, hm, hd⟩, ml, ow, ol⟩ := h
  refine (b.step hc).mono ?_
  rintro e W' ⟨rfl, hb, _, hk⟩
  exact ⟨rfl, hb, ⟨cnt, D, hcn, map_of_blk hm (hk mb (.inl rfl)), hd⟩, ml, own_blk ow (fun k e => hk k (.inr (.inl e))), own_blk ol (fun k e => hk k (.inr (.inr e)))⟩
theorem map_blk {cnt : Nat} {D : DataW Unit} (hm : W.ownsMap Tryd.prog 9 (plainElem Tryd.prog 3) mb cnt D) : ∃ es cl, W.heap[mb]? = some (.map es cl) := by
  obtain ⟨es, cl, h, _⟩ := hm
  exact ⟨es, cl, h⟩
theorem BR.put (h : BR w W g mb s f c wv lv want lks) {cnt : Nat} {D' : DataW Unit} (hc : cnt ≤ c) (hm' : W'.ownsMap Tryd.prog 9 (plainElem Tryd.prog 3) mb (cnt + 1) D') (hd : DReads D' f') (hg : W.grownBy W' (some mb)) : BR w W' g mb s f' (c + 1) wv lv want lks := by
  obtain ⟨b, ⟨_, _, _, hm, _⟩, ml, ow, ol⟩ := h
  obtain ⟨es, cl, hmb⟩ := map_blk hm
  refine ⟨b.other (only_grown2 hg) (fun k e _ => ?_) _ (fun k e => .inl e), ⟨cnt + 1, D', by omega, hm', hd⟩, ml, own_only ow (only_grown2 hg) (fun k e e2 => ?_), own_only ol (only_grown2 hg) (fun k e e2 => ?_)⟩
  · injection e with e; subst e; exact ⟨.inl rfl, ml⟩
  · injection e2 with e2; subst e2; exact own_neMap ow hmb e
  · injection e2 with e2; subst e2; exact own_neMap ol hmb e
theorem BR.wadd (h : BR w W g mb s f c wv lv want lks) {v' : Value} (x : Ins) (ho : W'.ownsRow w.heap.size 34 5 v' (want.length + 1) (flat want ++ x.cells)) (hg : W.grownBy W' wv.ownBlock) (hat : ∀ k, v'.ownBlock = some k → wv.ownBlock = some k ∨ W.heap.size ≤ k) : BR w W' g mb s f c v' lv (want ++ [x]) lks := by
  obtain ⟨b, ⟨cnt, D, hcn, hm, hd⟩, ml, ow, ol⟩ := h
  obtain ⟨es, cl, hmb⟩ := map_blk hm
  have hmlt := (Array.getElem?_eq_some_iff.1 hmb).1
  have hho := only_grown2 hg
  refine ⟨b.other hho (fun k e _ => ⟨.inr (.inl e), (ow.lt k e).1⟩) _ (fun k e => ?_), ⟨cnt, D, hcn, map_of_blk hm (hho.block mb hmlt (fun e => own_neMap ow hmb e)), hd⟩, ml, ?_, own_only ol hho (fun k e e2 => own_ne2 ol ow (by decide) k e e2)⟩
  · rcases e with e | e | e
    · exact .inl (.inl e)
    · rcases hat k e with e2 | e2
      · exact .inl (.inr (.inl e2))
      · exact .inr ⟨e2, (ho.lt k e).2⟩
    · exact .inl (.inr (.inr e))
  · rw [List.length_append, List.length_singleton, show flat (want ++ [x]) = flat want ++ x.cells by simp [flat]]
    exact ho
theorem BR.ladd (h : BR w W g mb s f c wv lv want lks) {v' : Value} (x : B8) (ho : W'.ownsRow w.heap.size 9 1 v' (lks.length + 1) (strV lks ++ [.string (strB x)])) (hg : W.grownBy W' lv.ownBlock) (hat : ∀ k, v'.ownBlock = some k → lv.ownBlock = some k ∨ W.heap.size ≤ k) : BR w W' g mb s f c wv v' want (lks ++ [x]) := by
  obtain ⟨b, ⟨cnt, D, hcn, hm, hd⟩, ml, ow, ol⟩ := h
  obtain ⟨es, cl, hmb⟩ := map_blk hm
  have hmlt := (Array.getElem?_eq_some_iff.1 hmb).1
  have hho := only_grown2 hg
  refine ⟨b.other hho (fun k e _ => ⟨.inr (.inr e), (ol.lt k e).1⟩) _ (fun k e => ?_), ⟨cnt, D, hcn, map_of_blk hm (hho.block mb hmlt (fun e => own_neMap ol hmb e)), hd⟩, ml, own_only ow hho (fun k e e2 => own_ne2 ow ol (by decide) k e e2), ?_⟩
  · rcases e with e | e | e
    · exact .inl (.inl e)
    · exact .inl (.inr (.inl e))
    · rcases hat k e with e2 | e2
      · exact .inl (.inr (.inr e2))
      · exact .inr ⟨e2, (ho.lt k e).2⟩
  · rw [List.length_append, List.length_singleton, show strV (lks ++ [x]) = strV lks ++ [.string (strB x)] by simp [strV]]
    exact ho
theorem flat_set : ∀ {l : List Ins} {i : Nat} {x : Ins} (hx : l[i]? = some x) (k : Int), flat (l.set i { x with k := k }) = (flat l).set (i * 5 + 4) (.int .u32 k)
  | [], i, x, hx, k => by simp at hx
  | y :: r, 0, x, hx, k => by
    injection hx with hx
    subst hx
    rfl
  | y :: r, i + 1, x, hx, k => by
    have ih := flat_set (l := r) (i := i) (x := x) (by simpa using hx) k
    show y.cells ++ flat (r.set i { x with k := k }) = (y.cells ++ flat r).set ((i + 1) * 5 + 4) _
    rw [ih, List.set_append_right _ _ (by show 5 ≤ _; omega), show (i + 1) * 5 + 4 - y.cells.length = i * 5 + 4 from (by show (i + 1) * 5 + 4 - 5 = _; omega)]
/-- The K of one instruction of the row is set. -/
theorem BR.wset (h : BR w W g mb s f c wv lv want lks) {i : Nat} {x : Ins} (hx : want[i]? = some x) (k : Int) : ∃ gw cap, wv = .slice (some ⟨gw, 0, none⟩) want.length cap ∧ W.heap.size > gw ∧ W.frozen? ⟨gw, i * 5 + 4, none⟩ = false ∧ (∃ u, W.cell? ⟨gw, i * 5 + 4, none⟩ = some u) ∧ BR w (W.setCell ⟨gw, i * 5 + 4, none⟩ (.int .u32 k)) g mb s f c wv lv (want.set i { x with k := k }) lks := by
  obtain ⟨b, ⟨cnt, D, hcn, hm, hd⟩, ml, ow, ol⟩ := h
  have hi := (List.getElem?_eq_some_iff.1 hx).1
  obtain ⟨es, cl, hmb⟩ := map_blk hm
  have hmlt := (Array.getElem?_eq_some_iff.1 hmb).1
  obtain ⟨hxl, how⟩ := ow
  rcases how with ⟨_, h0⟩ | ⟨gw, cap, cur, rfl, hb2, hgg, hcap, hmx, hsz, htk⟩
  · omega
  · have hlt := (Array.getElem?_eq_some_iff.1 hgg).1
    have ow : W.ownsRow w.heap.size 34 5 (.slice (some ⟨gw, 0, none⟩) want.length cap) want.length (flat want) := ⟨hxl, .inr ⟨gw, cap, cur, rfl, hb2, hgg, hcap, hmx, hsz, htk⟩⟩
    have hpos : i * 5 + 4 < cur.size := by omega
    have hho : Only (fun k => k = gw) W (W.setCell ⟨gw, i * 5 + 4, none⟩ (.int .u32 k)) := ⟨rfl, rfl, rfl, by simp [World.setCell], fun q _ hn => heap_setCell_other _ _ _ _ (fun e => hn e)⟩
    refine ⟨gw, cap, rfl, hlt, frozen_of_row _ _ _ _ _ hgg, ⟨cur[i * 5 + 4], by rw [cell_of_row _ _ _ _ _ _ hgg]; exact Array.getElem?_eq_getElem hpos⟩, b.other hho (fun q e _ => by subst e; exact ⟨.inr (.inl rfl), hb2⟩) _ (fun q e => .inl e), ⟨cnt, D, hcn, map_of_blk hm (hho.block mb hmlt (fun e => own_neMap ow hmb (by rw [e]; rfl))), hd⟩, ml, ⟨by rw [flat_len, List.length_set], .inr ⟨gw, cap, cur.setIfInBounds (i * 5 + 4) (.int .u32 k), by rw [List.length_set], hb2, ?_, by rw [List.length_set]; exact hcap, hmx, by simp [hsz], ?_⟩⟩, own_only ol hho (fun q e e2 => own_ne2 ol ow (by decide) q e (by rw [e2]; rfl))⟩
    · rw [heap_setCell_same _ _ _ _ _ _ hgg]
    · rw [List.length_set, flat_set hx k, ← htk]
      simp [List.take_set]
/-- A slice of strings, to be read. -/
def RdN (W : World) (v : Value) (n : Nat) (names : List B8) : Prop :=
  ∃ A cap, v = .slice A n cap ∧ names.length = n ∧ (0 < n → ∃ b off, A = some ⟨b, off, none⟩ ∧ b < W.heap.size ∧ ∀ (j : Nat) x, names[j]? = some x → W.cell? ⟨b, off + j, none⟩ = some (.string (strB x)))
theorem RdN.below {w w' : World} {v : Value} {n : Nat} {names : List B8} (h : RdN w v n names) (hb : Below w.heap.size w w') : RdN w' v n names := by
  obtain ⟨A, cap, e, hl, h⟩ := h
  refine ⟨A, cap, e, hl, fun hn => ?_⟩
  obtain ⟨b, off, e, hlt, hc⟩ := h hn
  exact ⟨b, off, e, Nat.lt_of_lt_of_le hlt hb.size, fun j x hx => (hb.cell (p := ⟨b, off + j, none⟩) hlt).trans (hc j x hx)⟩
/-- A slice of strings that came in. -/
def InN (W : World) (v : Value) : Prop := ∃ n names, RdN W v n names ∧ n ≤ maxLen ∧ ∀ x ∈ names, x.length ≤ maxLen
set_option maxRecDepth 100000 in
theorem strs_open {H : Type} {enc : TypeId × Value → H} {W : World} {b0 base : Nat} {r : Reach} {sp : Nat → Bool} {held : Bool} {v : Value} {d : DataW H} {p : List MemPlace}
    (hv : Value.okWide Tryd.prog W r b0 39 v) (h : DataW.Trod enc Tryd.prog W base sp held 39 v d p) : InN W v := by
  obtain ⟨A, n, cap, rfl⟩ := okWide_slice Tryd.underlying39 hv
  obtain ⟨fuel, hf⟩ := h
  have z1 : Tryd.prog.cellsOf 9 = 1 := by kernel_rfl
  rcases Go.Deep.open_slice Tryd.underlying39 hf with ⟨h0, _⟩ | ⟨a, len, cap', m, q, D, Pl, hcs, _, hl, hm, hmm, _, hel⟩
  · have h1 : (Value.slice A n cap) = .slice none 0 0 := by
      have : [Value.slice A n cap] = [.slice none 0 0] := h0
      simpa using this
    injection h1 with e1 e2 e3
    subst e1 e2 e3
    exact ⟨0, [], ⟨none, 0, rfl, rfl, fun h => absurd h (by omega)⟩, Nat.zero_le _, fun i hi => by cases hi⟩
  · have h1 : (Value.slice A n cap) = .slice (some a) len cap' := by
      have : [Value.slice A n cap] = [.slice (some a) len cap'] := hcs
      simpa using this
    injection h1 with e1 e2 e3
    subst e1 e2 e3
    have hlm : n ≤ m := by rw [hmm]; split <;> omega
    rw [z1] at hel
    have each : ∀ i : Fin n, ∃ x : B8, W.cell? (a.add i.1) = some (.string (strB x)) ∧ x.length ≤ maxLen := by
      intro i
      obtain ⟨cs', h1, h2⟩ := hel i.1 (by have := i.2; omega)
      obtain ⟨_, hlen, hcell⟩ := World.cells?_some h1
      obtain ⟨s, rfl, _, hs⟩ := DataW.trod_string Tryd.underlying9 h2
      refine ⟨s.data.toList, ?_, by simpa using hs⟩
      have := hcell 0 (by decide)
      rw [Go.Deep.add_add] at this
      simp only [Nat.mul_one, Nat.add_zero] at this
      rw [this]
      show some (Value.string s) = some (.string (strB s.data.toList))
      congr 2
    refine ⟨n, List.ofFn (fun i => Classical.choose (each i)), ⟨some a, cap, rfl, List.length_ofFn, fun hn => ?_⟩, Nat.le_trans hl hm, ?_⟩
    · have c0 := (Classical.choose_spec (each ⟨0, hn⟩)).1
      obtain ⟨h1, h2⟩ := cell_in c0
      obtain ⟨b, off, spot⟩ := a
      simp only [Addr.add] at h1 h2
      subst h2
      refine ⟨b, off, rfl, h1, fun j u hu => ?_⟩
      have hj : j < n := by
        have := (List.getElem?_eq_some_iff.1 hu).1
        rwa [List.length_ofFn] at this
      rw [List.getElem?_ofFn, dif_pos hj] at hu
      injection hu with hu
      subst hu
      exact (show W.cell? ⟨b, off + j, none⟩ = W.cell? ((⟨b, off, none⟩ : Addr).add j) by rw [add_at]).trans (Classical.choose_spec (each ⟨j, hj⟩)).1
    · intro i hi
      obtain ⟨q, rfl⟩ := List.mem_ofFn.1 hi
      exact (Classical.choose_spec (each q)).2
set_option maxHeartbeats 800000 in
theorem rname_max (w : World) (s : ByteArray) (hm : s.size ≤ maxLen) :
    Calls Tryd.prog 15 #[.string s] w fun e w' => e = .returned (.bool (nameOk s.data.toList)) ∧ w' = w := by
  unfold maxLen at hm
  have hlen := toList_len s
  obtain ⟨r, hr⟩ : ∃ r, r = nameOk s.data.toList := ⟨_, rfl⟩
  rw [← hr]
  have HR := Lib.hid hr
  clear hr
  go_enter Tryd.func15, Tryd.ntmps15
  go_wp2
  go_loopw [3] (fun iv wr => ∃ (i : Nat), wr = w ∧ i ≤ s.size ∧ iv = .int .i64 i ∧ Hid (∀ j, j < i → okAt s.data.toList j)) (fun i _ => s.size - (intOf i).toNat)
  case atStart => exact ⟨0, rfl, by omega, rfl, fun c hc => absurd hc (by omega)⟩
  case round =>
    obtain ⟨i, rfl, hil, rfl, HOK⟩ := hrel
    by_cases hlt : i < s.size
    · obtain ⟨c, hc⟩ : ∃ c, s.data.toList[i]? = some c := ⟨_, List.getElem?_eq_getElem (by omega)⟩
      obtain ⟨hi, hcc⟩ := at_byte hc
      have HC := Lib.hid hc
      clear hc
      have step : isLet c = true ∨ (0 < i ∧ isDig c = true) → ∀ j, j < i + 1 → okAt s.data.toList j := by
        intro h j hj
        by_cases e : j = i
        · subst e
          intro x hx
          rw [HC.out] at hx
          injection hx with hx
          subst hx
          exact h
        · exact HOK.out j (by omega)
      have STEP := Lib.hid step
      clear step
      by_cases hle : 97 ≤ c.toNat ∧ c.toNat ≤ 122
      · have hq := Lib.hid ((let_iff c).2 hle)
        obtain ⟨q1, q2⟩ := hle
        go_wp2
        exact ⟨⟨i + 1, True.intro, by omega, by simp, STEP.out (.inl hq.out)⟩, by simp [intOf]; omega⟩
      · have hq := Lib.hid (let_no c hle)
        have hsp : c.toNat < 97 ∨ (97 ≤ c.toNat ∧ 122 < c.toNat) := by omega
        clear hle
        by_cases hdg : (48 ≤ c.toNat ∧ c.toNat ≤ 57)
        · have hq2 := Lib.hid ((dig_iff c).2 hdg)
          obtain ⟨q1, q2⟩ := hdg
          have q3 : c.toNat < 97 := by omega
          clear hsp
          by_cases h00 : i = 0
          · have hbad := Lib.hid (nameOk_bad _ _ _ HC.out hq.out (.inl h00))
            have d0 : ((i : Int) == 0) = true := by rw [h00]; rfl
            clear h00
            go_wp2
            go_ret
            exact ⟨by rw [HR.out, hbad.out] <;> rfl, rfl⟩
          · have d0 : ((i : Int) == 0) = false := by rw [beq_eq_false_iff_ne]; omega
            go_wp2
            exact ⟨⟨i + 1, True.intro, by omega, by simp, STEP.out (.inr ⟨by omega, hq2.out⟩)⟩, by simp [intOf]; omega⟩
        · have hbad := Lib.hid (nameOk_bad _ _ _ HC.out hq.out (.inr (dig_no _ hdg)))
          have hsp2 : c.toNat < 48 ∨ (48 ≤ c.toNat ∧ 57 < c.toNat) := by omega
          clear hdg
          rcases hsp with q1 | ⟨q1, q2⟩
          · rcases hsp2 with q3 | ⟨q3, q4⟩
            · go_wp2
              go_ret
              exact ⟨by rw [HR.out, hbad.out] <;> rfl, rfl⟩
            · go_wp2
              go_ret
              exact ⟨by rw [HR.out, hbad.out] <;> rfl, rfl⟩
          · have q3 : 48 ≤ c.toNat := by omega
            have q4 : 57 < c.toNat := by omega
            have d1 : decide ((c.toNat : Int) ≤ 122) = false := by simp; omega
            clear hsp2
            go_wp2
            go_ret
            exact ⟨by rw [HR.out, hbad.out] <;> rfl, rfl⟩
    · have hie : i = s.size := by omega
      by_cases h0 : s.size = 0
      · have hv : nameOk s.data.toList = false := by rw [nm_nil s h0]; rfl
        have HV := Lib.hid hv
        clear hv
        go_wp2
        go_ret
        exact ⟨by rw [HR.out, HV.out] <;> rfl, rfl⟩
      · by_cases h20 : s.size ≤ 20
        · have d1 : decide ((s.size : Int) ≤ 20) = true := by simp; omega
          have hv : nameOk s.data.toList = true := nameOk_yes s.data.toList (by intro e; rw [e] at hlen; simp at hlen; omega) (by omega) (fun j => by
            by_cases hj : j < i
            · exact HOK.out j hj
            · intro c hc
              have := (List.getElem?_eq_some_iff.1 hc).1
              omega)
          have HV := Lib.hid hv
          clear hv
          go_wp2
          go_ret
          exact ⟨by rw [HR.out, HV.out] <;> rfl, rfl⟩
        · have d1 : decide ((s.size : Int) ≤ 20) = false := by simp; omega
          have hv : nameOk s.data.toList = false := nameOk_long _ (by omega)
          have HV := Lib.hid hv
          clear hv
          go_wp2
          go_ret
          exact ⟨by rw [HR.out, HV.out] <;> rfl, rfl⟩
end Go.Proofs.YtlopmejmionnpaaDoor.As
