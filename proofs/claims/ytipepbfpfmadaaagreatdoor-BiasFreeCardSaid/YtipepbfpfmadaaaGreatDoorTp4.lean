/- Plain Lean: as long as nobody else wants it, who a bias lock is biased to never fences, nor swaps anything. No program in sight. -/
import Derived.Test.YtipepbfpfmadaaaGreatDoorGl
set_option linter.unusedVariables false
set_option linter.unusedSimpArgs false
namespace Go.Proofs.YtipepbfpfmadaaaGreatDoor.As.BF

def acqO (me : Int) : List Ins := [⟨16, 4, 8, 0, 19⟩, ⟨1, 5, 0, 0, me⟩, ⟨12, 6, 4, 5, 0⟩, ⟨14, 6, 0, 0, 6⟩, ⟨1, 7, 0, 0, 1⟩, ⟨13, 0, 0, 0, 17⟩, ⟨1, 4, 0, 0, 1⟩, ⟨17, 4, 8, 0, 16⟩, ⟨16, 4, 8, 0, 17⟩, ⟨14, 4, 0, 0, 15⟩, ⟨1, 4, 0, 0, 0⟩, ⟨17, 4, 8, 0, 16⟩, ⟨1, 4, 0, 0, 0⟩, ⟨21, 4, 8, 5, 18⟩, ⟨15, 4, 0, 0, 12⟩, ⟨17, 5, 8, 0, 19⟩, ⟨1, 7, 0, 0, 0⟩]
def relO (me : Int) : List Ins := [⟨16, 4, 8, 0, 19⟩, ⟨1, 5, 0, 0, me⟩, ⟨12, 6, 4, 5, 0⟩, ⟨15, 6, 0, 0, 6⟩, ⟨1, 7, 0, 0, 2⟩, ⟨13, 0, 0, 0, 17⟩, ⟨1, 4, 0, 0, 0⟩, ⟨17, 4, 8, 0, 19⟩, ⟨16, 4, 8, 0, 18⟩, ⟨12, 6, 4, 5, 0⟩, ⟨15, 6, 0, 0, 14⟩, ⟨1, 4, 0, 0, 0⟩, ⟨17, 4, 8, 0, 16⟩, ⟨13, 0, 0, 0, 16⟩, ⟨1, 4, 0, 0, 0⟩, ⟨17, 4, 8, 0, 18⟩, ⟨1, 7, 0, 0, 0⟩]
def base (me : Int) : List Ins := [⟨27, 7, 0, 0, 0⟩, ⟨16, 4, 8, 0, 19⟩, ⟨1, 5, 0, 0, me⟩, ⟨12, 6, 4, 5, 0⟩, ⟨14, 6, 0, 0, 7⟩, ⟨1, 7, 0, 0, 1⟩, ⟨13, 0, 0, 0, 18⟩, ⟨1, 4, 0, 0, 1⟩, ⟨17, 4, 8, 0, 16⟩, ⟨16, 4, 8, 0, 17⟩, ⟨14, 4, 0, 0, 16⟩, ⟨1, 4, 0, 0, 0⟩, ⟨17, 4, 8, 0, 16⟩, ⟨1, 4, 0, 0, 0⟩, ⟨21, 4, 8, 5, 18⟩, ⟨15, 4, 0, 0, 13⟩, ⟨17, 5, 8, 0, 19⟩, ⟨1, 7, 0, 0, 0⟩, ⟨27, 7, 0, 0, 1⟩, ⟨16, 1, 8, 0, 0⟩, ⟨1, 2, 0, 0, 1⟩, ⟨3, 1, 1, 2, 0⟩, ⟨17, 1, 8, 0, 0⟩, ⟨27, 7, 0, 0, 2⟩, ⟨16, 4, 8, 0, 19⟩, ⟨1, 5, 0, 0, me⟩, ⟨12, 6, 4, 5, 0⟩, ⟨15, 6, 0, 0, 30⟩, ⟨1, 7, 0, 0, 2⟩, ⟨13, 0, 0, 0, 41⟩, ⟨1, 4, 0, 0, 0⟩, ⟨17, 4, 8, 0, 19⟩, ⟨16, 4, 8, 0, 18⟩, ⟨12, 6, 4, 5, 0⟩, ⟨15, 6, 0, 0, 38⟩, ⟨1, 4, 0, 0, 0⟩, ⟨17, 4, 8, 0, 16⟩, ⟨13, 0, 0, 0, 40⟩, ⟨1, 4, 0, 0, 0⟩, ⟨17, 4, 8, 0, 18⟩, ⟨1, 7, 0, 0, 0⟩, ⟨27, 7, 0, 0, 3⟩]
theorem base_eq (me : Int) : baseR (acqO me) (relO me) = base me := by
  rw [baseR_eq]
  simp [acqO, relO, base, incR, movI, jumps, wr32]
def codeO (me : Int) (R : Nat) : List Ins := roundsR (acqO me) (relO me) R []
theorem code_len (me : Int) (R : Nat) : (codeO me R).length = R * 42 := by
  unfold codeO
  rw [roundsR_len, base_eq]; simp [base]
theorem code_get (me : Int) (R p j : Nat) (hp : p < R) (hj : j < 42) : (codeO me R)[p * 42 + j]? = ((base me)[j]?).map (movI (p * 42)) := by
  have h := roundsR_get (acqO me) (relO me) R [] p j hp (by rw [base_eq]; exact hj)
  rw [base_eq] at h
  have e : ([] : List Ins).length + p * (base me).length = p * 42 := by rw [List.length_nil, Nat.zero_add]; rfl
  rw [e] at h
  exact h
/-- Where the thread is, and what it knows; v: what it sees of the owner's word. -/
inductive At (me v : Int) : Nat → Int → Int → Int → Int → Prop
  | a0 {r4 r5 r6 r7 : Int} (h0 : v = 0) : At me v 0 r4 r5 r6 r7
  | a1 {r4 r5 r6 r7 : Int} (h0 : v = 0) : At me v 1 r4 r5 r6 r7
  | a2 {r4 r5 r6 r7 : Int} (h0 : v = 0) (h1 : r4 = 0) : At me v 2 r4 r5 r6 r7
  | a3 {r4 r5 r6 r7 : Int} (h0 : v = 0) (h1 : r4 = 0) (h2 : r5 = me) : At me v 3 r4 r5 r6 r7
  | a4 {r4 r5 r6 r7 : Int} (h0 : v = 0) (h1 : r5 = me) (h2 : r6 = 0) : At me v 4 r4 r5 r6 r7
  | a7 {r4 r5 r6 r7 : Int} (h0 : v = 0) (h1 : r5 = me) : At me v 7 r4 r5 r6 r7
  | a8 {r4 r5 r6 r7 : Int} (h0 : v = 0) (h1 : r5 = me) : At me v 8 r4 r5 r6 r7
  | a9 {r4 r5 r6 r7 : Int} (h0 : v = 0) (h1 : r5 = me) : At me v 9 r4 r5 r6 r7
  | a10 {r4 r5 r6 r7 : Int} (h0 : v = 0) (h1 : r5 = me) (h2 : r4 = 0) : At me v 10 r4 r5 r6 r7
  | a16 {r4 r5 r6 r7 : Int} (h0 : r5 = me) : At me v 16 r4 r5 r6 r7
  | a17 {r4 r5 r6 r7 : Int} (h0 : v = me) : At me v 17 r4 r5 r6 r7
  | a18 {r4 r5 r6 r7 : Int} (h0 : v = me) (h1 : r7 = 0) : At me v 18 r4 r5 r6 r7
  | a19 {r4 r5 r6 r7 : Int} (h0 : v = me) : At me v 19 r4 r5 r6 r7
  | a20 {r4 r5 r6 r7 : Int} (h0 : v = me) : At me v 20 r4 r5 r6 r7
  | a21 {r4 r5 r6 r7 : Int} (h0 : v = me) : At me v 21 r4 r5 r6 r7
  | a22 {r4 r5 r6 r7 : Int} (h0 : v = me) : At me v 22 r4 r5 r6 r7
  | a23 {r4 r5 r6 r7 : Int} (h0 : v = me) : At me v 23 r4 r5 r6 r7
  | a24 {r4 r5 r6 r7 : Int} (h0 : v = me) : At me v 24 r4 r5 r6 r7
  | a25 {r4 r5 r6 r7 : Int} (h0 : v = me) (h1 : r4 = me) : At me v 25 r4 r5 r6 r7
  | a26 {r4 r5 r6 r7 : Int} (h0 : v = me) (h1 : r4 = me) (h2 : r5 = me) : At me v 26 r4 r5 r6 r7
  | a27 {r4 r5 r6 r7 : Int} (h0 : v = me) (h1 : r5 = me) (h2 : r6 = 1) : At me v 27 r4 r5 r6 r7
  | a30 {r4 r5 r6 r7 : Int} (h0 : v = me) (h1 : r5 = me) : At me v 30 r4 r5 r6 r7
  | a31 {r4 r5 r6 r7 : Int} (h0 : v = me) (h1 : r5 = me) (h2 : r4 = 0) : At me v 31 r4 r5 r6 r7
  | a32 {r4 r5 r6 r7 : Int} (h0 : v = 0) (h1 : r5 = me) : At me v 32 r4 r5 r6 r7
  | a33 {r4 r5 r6 r7 : Int} (h0 : v = 0) (h1 : r5 = me) (h2 : r4 = 0) : At me v 33 r4 r5 r6 r7
  | a34 {r4 r5 r6 r7 : Int} (h0 : v = 0) (h1 : r6 = 0) : At me v 34 r4 r5 r6 r7
  | a35 {r4 r5 r6 r7 : Int} (h0 : v = 0) : At me v 35 r4 r5 r6 r7
  | a36 {r4 r5 r6 r7 : Int} (h0 : v = 0) : At me v 36 r4 r5 r6 r7
  | a37 {r4 r5 r6 r7 : Int} (h0 : v = 0) : At me v 37 r4 r5 r6 r7
  | a40 {r4 r5 r6 r7 : Int} (h0 : v = 0) : At me v 40 r4 r5 r6 r7
  | a41 {r4 r5 r6 r7 : Int} (h0 : v = 0) (h1 : r7 = 0) : At me v 41 r4 r5 r6 r7
def good (e : Ev) : Prop := e.kind ≠ 4 ∧ e.kind ≠ 5 ∧ e.kind ≠ 10 ∧ e.kind ≠ 8 ∧ e.kind ≠ 9 ∧ e.kind ≠ 13 ∧ (e.kind = 7 → e.k % 2 = 1 → e.val = 0)
theorem good_kind {e : Ev} (k : Int) (hk : e.kind = k) (h : k = 1 ∨ k = 2 ∨ k = 3 ∨ k = 12) : good e := by
  unfold good
  rw [hk]
  rcases h with rfl | rfl | rfl | rfl <;> exact ⟨by decide, by decide, by decide, by decide, by decide, by decide, fun h => absurd h (by decide)⟩
theorem good_mark {e : Ev} (hk : e.kind = 7) (h : e.k % 2 = 1 → e.val = 0) : good e := by
  unfold good
  rw [hk]
  exact ⟨by decide, by decide, by decide, by decide, by decide, by decide, fun _ => h⟩
structure Inv (A R : Nat) (me : Int) (T : Nat) (codes : List (List Ins)) (s : Ts) : Prop where
  nths : s.ths.length = T
  nb : s.bufs.length = T
  nm : s.mem.length = 20
  slp : s.slp = []
  ok : s.okB
  vb : s.load A 17 = 0
  vc : s.load A 18 = 0
  th : ∃ (p j : Nat) (r0 r1 r2 r3 r4 r5 r6 r7 st : Int), s.ths[A]? = some ⟨((p * 42 + j : Nat) : Int), [r0, r1, r2, r3, r4, r5, r6, r7], st⟩ ∧ (st = 0 ∧ p < R ∧ j < 42 ∧ At me (s.load A 19) j r4 r5 r6 r7 ∨ st = 0 ∧ p = R ∧ j = 0 ∨ st = 2)
  evs : ∀ e ∈ s.evs, good e
section
variable {A R T : Nat} {me : Int} {codes : List (List Ins)} {s : Ts}
theorem Inv.flush (h : Inv A R me T codes s) (hA : A < T) : Inv A R me T codes (s.flush A) := by
  have hb : A < s.bufs.length := by rw [h.nb]; exact hA
  have hs := Ts.flush_same s A hb
  have hl := fun x => Ts.load_flush hb h.ok x
  refine ⟨by rw [hs.ths]; exact h.nths, by rw [hs.nb]; exact h.nb, by rw [hs.nm]; exact h.nm, by rw [hs.slp]; exact h.slp, hs.ok h.ok, by rw [hl]; exact h.vb, by rw [hl]; exact h.vc, by rw [hs.ths, hl]; exact h.th, ?_⟩
  rcases Ts.flush_evs s A with e | ⟨x, hx, e⟩
  · rw [e]; exact h.evs
  · rw [e]
    intro y hy
    rcases List.mem_append.1 hy with hy | hy
    · exact h.evs y hy
    · rw [List.mem_singleton.1 hy]
      exact good_kind 3 hx (by decide)
theorem evs_snoc (h : ∀ e ∈ s.evs, good e) (x : Ev) (hx : good x) : ∀ e ∈ s.evs ++ [x], good e := fun e he => by
  rcases List.mem_append.1 he with he | he
  · exact h e he
  · rw [List.mem_singleton.1 he]; exact hx
/-- The thread has turned; memory hasn't. -/
theorem Inv.upd (h : Inv A R me T codes s) (hA : A < T) (p j : Nat) (r0 r1 r2 r3 r4 r5 r6 r7 : Int) (hj : p < R ∧ j < 42 ∧ At me (s.load A 19) j r4 r5 r6 r7 ∨ p = R ∧ j = 0) : Inv A R me T codes (s.upd A ⟨((p * 42 + j : Nat) : Int), [r0, r1, r2, r3, r4, r5, r6, r7], 0⟩) := by
  refine ⟨by unfold Ts.upd; simpa using h.nths, h.nb, h.nm, h.slp, h.ok, h.vb, h.vc, ⟨p, j, r0, r1, r2, r3, r4, r5, r6, r7, 0, ?_, ?_⟩, h.evs⟩
  · unfold Ts.upd
    exact List.getElem?_set_self (by rw [h.nths]; exact hA)
  · rcases hj with ⟨h1, h2, h3⟩ | ⟨h1, h2⟩
    · exact .inl ⟨rfl, h1, h2, h3⟩
    · exact .inr (.inl ⟨rfl, h1, h2⟩)
theorem Inv.halt (h : Inv A R me T codes s) (hA : A < T) (pc : Int) (r0 r1 r2 r3 r4 r5 r6 r7 : Int) (hp : s.ths[A]? = some ⟨pc, [r0, r1, r2, r3, r4, r5, r6, r7], 0⟩) : Inv A R me T codes ((s.note A ⟨12, 0, pc, 0, 0, 0, 0, false⟩).upd A ⟨pc, [r0, r1, r2, r3, r4, r5, r6, r7], 2⟩) := by
  obtain ⟨p, j, q0, q1, q2, q3, q4, q5, q6, q7, st, e, _⟩ := h.th
  rw [hp] at e
  injection e with e
  injection e with e1 e2 e3
  refine ⟨by unfold Ts.upd Ts.note; simpa using h.nths, h.nb, h.nm, h.slp, h.ok, h.vb, h.vc, ⟨p, j, r0, r1, r2, r3, r4, r5, r6, r7, 2, ?_, .inr (.inr rfl)⟩, ?_⟩
  · rw [← e1]
    unfold Ts.upd Ts.note
    exact List.getElem?_set_self (by rw [h.nths]; exact hA)
  · exact evs_snoc h.evs _ (good_kind 12 rfl (by decide))
theorem Inv.note (h : Inv A R me T codes s) (x : Ev) (hx : good { x with who := A }) : Inv A R me T codes (s.note A x) :=
  ⟨h.nths, h.nb, h.nm, h.slp, h.ok, h.vb, h.vc, h.th, evs_snoc h.evs _ hx⟩
/-- A store, and the thread behind it. -/
theorem Inv.store (h : Inv A R me T codes s) (hA : A < T) (ad : Nat) (v : Int) (had : ad < 20) (hb : ad ≠ 17) (hc : ad ≠ 18) (pc0 : Int) (p j : Nat) (r0 r1 r2 r3 r4 r5 r6 r7 : Int) (hp : p < R) (hj : j < 42) (hat : At me (if 19 = ad then v else s.load A 19) j r4 r5 r6 r7) :
    Inv A R me T codes (((s.store A ad v).note A ⟨2, 0, pc0, ad, v, 0, 0, false⟩).upd A ⟨((p * 42 + j : Nat) : Int), [r0, r1, r2, r3, r4, r5, r6, r7], 0⟩) := by
  have hbl : A < s.bufs.length := by rw [h.nb]; exact hA
  have hl := fun x => Ts.load_store hbl ad x v
  refine ⟨by unfold Ts.upd Ts.note Ts.store; simpa using h.nths, by unfold Ts.upd Ts.note Ts.store; simpa using h.nb, h.nm, h.slp, Ts.okB_store h.ok (by rw [h.nm]; exact had) v, ?_, ?_, ⟨p, j, r0, r1, r2, r3, r4, r5, r6, r7, 0, ?_, .inl ⟨rfl, hp, hj, ?_⟩⟩, ?_⟩
  · rw [Ts.load_upd, Ts.load_note, hl, if_neg (fun e => hb e.symm)]; exact h.vb
  · rw [Ts.load_upd, Ts.load_note, hl, if_neg (fun e => hc e.symm)]; exact h.vc
  · unfold Ts.upd Ts.note Ts.store
    exact List.getElem?_set_self (by rw [h.nths]; exact hA)
  · rw [Ts.load_upd, Ts.load_note, hl]; exact hat
  · exact evs_snoc h.evs _ (good_kind 2 rfl (by decide))
theorem at_ins (hc : codes[A]? = some (codeO me R)) {p j : Nat} {r0 r1 r2 r3 r4 r5 r6 r7 : Int} (hs : s.ths[A]? = some ⟨((p * 42 + j : Nat) : Int), [r0, r1, r2, r3, r4, r5, r6, r7], 0⟩) (hp : p < R) (hj : j < 42) {i : Ins} (hi : (base me)[j]? = some i) : AtI codes s A ⟨((p * 42 + j : Nat) : Int), [r0, r1, r2, r3, r4, r5, r6, r7], 0⟩ (movI (p * 42) i) := by
  refine ⟨hs, ⟨codeO me R, hc, ?_⟩, rfl, by show (0 : Int) ≤ ((p * 42 + j : Nat) : Int); omega⟩
  show (codeO me R)[((p * 42 + j : Nat) : Int).toNat]? = _
  rw [Int.toNat_natCast, code_get me R p j hp hj, hi]; rfl
theorem jmp_k {p k : Nat} (h : p ≤ 100) (hk : k < 42) : wr32 ((k : Int) + ((p * 42 : Nat) : Int)) = ((p * 42 + k : Nat) : Int) := by unfold wr32; omega
theorem next_pc (p j : Nat) : ((p * 42 + j : Nat) : Int) + 1 = ((p * 42 + (j + 1) : Nat) : Int) := by omega
theorem last_pc (p : Nat) : ((p * 42 + 41 : Nat) : Int) + 1 = (((p + 1) * 42 + 0 : Nat) : Int) := by omega

theorem step (h : Inv A R me T codes s) (hA : A < T) (hR : R ≤ 100) (hme : me ≠ 0) (hc : codes[A]? = some (codeO me R)) : ∃ s', s.stepT codes A = some s' ∧ Inv A R me T codes s' := by
  obtain ⟨p, j, r0, r1, r2, r3, r4, r5, r6, r7, st, hs, hst⟩ := h.th
  rcases hst with ⟨rfl, hp, hj, hat⟩ | ⟨rfl, rfl, rfl⟩ | rfl
  · cases hat
    case a0 h0 =>
      have hi := at_ins hc hs hp hj (i := ⟨27, 7, 0, 0, 0⟩) rfl
      rw [movI_plain (i := ⟨27, 7, 0, 0, 0⟩) rfl] at hi
      refine ⟨_, st_mark hi, ?_⟩
      have hg := h.note ⟨7, 0, ((p * 42 + 0 : Nat) : Int), 0, r7, 0, 0, false⟩ (good_mark rfl (fun h => absurd (show (0 : Int) % 2 = 1 from h) (by decide)))
      have := hg.upd hA p 1 r0 r1 r2 r3 r4 r5 r6 r7 (.inl ⟨hp, by decide, At.a1 (by assumption)⟩)
      rw [← next_pc] at this
      exact this
    case a1 h0 =>
      have hi := at_ins hc hs hp hj (i := ⟨16, 4, 8, 0, 19⟩) rfl
      rw [movI_plain (i := ⟨16, 4, 8, 0, 19⟩) rfl] at hi
      refine ⟨_, st_load hi (ad := 19) (addr_abs _ _ _ _ _) (by rw [h.nm]; decide), ?_⟩
      have hg := h.note ⟨1, 0, ((p * 42 + 1 : Nat) : Int), 19, s.load A 19, 0, 0, false⟩ (good_kind 1 rfl (by decide))
      have := hg.upd hA p 2 r0 r1 r2 r3 (s.load A 19) r5 r6 r7 (.inl ⟨hp, by decide, At.a2 (by first | exact h0 | assumption) (by first | exact h0 | assumption)⟩)
      rw [← next_pc] at this
      exact this
    case a2 h0 h1 =>
      have hi := at_ins hc hs hp hj (i := ⟨1, 5, 0, 0, me⟩) rfl
      rw [movI_plain (i := ⟨1, 5, 0, 0, me⟩) rfl] at hi
      refine ⟨_, st_set hi, ?_⟩
      have := h.upd hA p 3 r0 r1 r2 r3 r4 (me) r6 r7 (.inl ⟨hp, by decide, At.a3 (by first | assumption | rfl | (simp [*]; done) | (simp_all; done)) (by first | assumption | rfl | (simp [*]; done) | (simp_all; done)) (by first | assumption | rfl | (simp [*]; done) | (simp_all; done))⟩)
      rw [← next_pc] at this
      exact this
    case a3 h0 h1 h2 =>
      have hi := at_ins hc hs hp hj (i := ⟨12, 6, 4, 5, 0⟩) rfl
      rw [movI_plain (i := ⟨12, 6, 4, 5, 0⟩) rfl] at hi
      refine ⟨_, st_same hi, ?_⟩
      have hv : (if r4 = r5 then (1 : Int) else 0) = 0 := by simp_all [eq_comm]
      have := h.upd hA p 4 r0 r1 r2 r3 r4 r5 (if r4 = r5 then (1 : Int) else 0) r7 (.inl ⟨hp, by decide, At.a4 (by first | exact hv | assumption) (by first | exact hv | assumption) (by first | exact hv | assumption)⟩)
      rw [← next_pc] at this
      exact this
    case a4 h0 h1 h2 =>
      have hi := at_ins hc hs hp hj (i := ⟨14, 6, 0, 0, 7⟩) rfl
      rw [movI_jump (i := ⟨14, 6, 0, 0, 7⟩) rfl] at hi
      refine ⟨_, st_zero hi, ?_⟩
      have hx : r6 = 0 := by rw [show r6 = 0 by assumption]
      show Inv A R me T codes (s.upd A (if r6 = 0 then _ else _))
      rw [if_pos hx]
      have := h.upd hA p 7 r0 r1 r2 r3 r4 r5 r6 r7 (.inl ⟨hp, by decide, At.a7 (by first | assumption | rfl | (simp [*]; done) | (simp_all; done)) (by first | assumption | rfl | (simp [*]; done) | (simp_all; done))⟩)
      rw [← jmp_k (by omega) (by decide)] at this
      exact this
    case a7 h0 h1 =>
      have hi := at_ins hc hs hp hj (i := ⟨1, 4, 0, 0, 1⟩) rfl
      rw [movI_plain (i := ⟨1, 4, 0, 0, 1⟩) rfl] at hi
      refine ⟨_, st_set hi, ?_⟩
      have := h.upd hA p 8 r0 r1 r2 r3 (1) r5 r6 r7 (.inl ⟨hp, by decide, At.a8 (by first | assumption | rfl | (simp [*]; done) | (simp_all; done)) (by first | assumption | rfl | (simp [*]; done) | (simp_all; done))⟩)
      rw [← next_pc] at this
      exact this
    case a8 h0 h1 =>
      have hi := at_ins hc hs hp hj (i := ⟨17, 4, 8, 0, 16⟩) rfl
      rw [movI_plain (i := ⟨17, 4, 8, 0, 16⟩) rfl] at hi
      refine ⟨_, st_store hi (ad := 16) (addr_abs _ _ _ _ _) (by rw [h.nm]; decide), ?_⟩
      split
      · have := h.store hA 16 (r4) (by decide) (by decide) (by decide) ((p * 42 + 8 : Nat) : Int) p 9 r0 r1 r2 r3 r4 r5 r6 r7 hp (by decide) (At.a9 (by first | assumption | (rw [if_neg (by decide)]; assumption)) (by first | assumption | (rw [if_neg (by decide)]; assumption)))
        rw [← next_pc] at this
        exact this
      · exact h.flush hA
    case a9 h0 h1 =>
      have hi := at_ins hc hs hp hj (i := ⟨16, 4, 8, 0, 17⟩) rfl
      rw [movI_plain (i := ⟨16, 4, 8, 0, 17⟩) rfl] at hi
      refine ⟨_, st_load hi (ad := 17) (addr_abs _ _ _ _ _) (by rw [h.nm]; decide), ?_⟩
      have hg := h.note ⟨1, 0, ((p * 42 + 9 : Nat) : Int), 17, s.load A 17, 0, 0, false⟩ (good_kind 1 rfl (by decide))
      have := hg.upd hA p 10 r0 r1 r2 r3 (s.load A 17) r5 r6 r7 (.inl ⟨hp, by decide, At.a10 (by first | exact h.vb | assumption) (by first | exact h.vb | assumption) (by first | exact h.vb | assumption)⟩)
      rw [← next_pc] at this
      exact this
    case a10 h0 h1 h2 =>
      have hi := at_ins hc hs hp hj (i := ⟨14, 4, 0, 0, 16⟩) rfl
      rw [movI_jump (i := ⟨14, 4, 0, 0, 16⟩) rfl] at hi
      refine ⟨_, st_zero hi, ?_⟩
      have hx : r4 = 0 := by rw [show r4 = 0 by assumption]
      show Inv A R me T codes (s.upd A (if r4 = 0 then _ else _))
      rw [if_pos hx]
      have := h.upd hA p 16 r0 r1 r2 r3 r4 r5 r6 r7 (.inl ⟨hp, by decide, At.a16 (by first | assumption | rfl | (simp [*]; done) | (simp_all; done))⟩)
      rw [← jmp_k (by omega) (by decide)] at this
      exact this
    case a16 h0 =>
      have hi := at_ins hc hs hp hj (i := ⟨17, 5, 8, 0, 19⟩) rfl
      rw [movI_plain (i := ⟨17, 5, 8, 0, 19⟩) rfl] at hi
      refine ⟨_, st_store hi (ad := 19) (addr_abs _ _ _ _ _) (by rw [h.nm]; decide), ?_⟩
      split
      · have := h.store hA 19 (r5) (by decide) (by decide) (by decide) ((p * 42 + 16 : Nat) : Int) p 17 r0 r1 r2 r3 r4 r5 r6 r7 hp (by decide) (At.a17 (by first | assumption | (rw [if_pos rfl]; assumption) | (rw [if_pos rfl]; rfl)))
        rw [← next_pc] at this
        exact this
      · exact h.flush hA
    case a17 h0 =>
      have hi := at_ins hc hs hp hj (i := ⟨1, 7, 0, 0, 0⟩) rfl
      rw [movI_plain (i := ⟨1, 7, 0, 0, 0⟩) rfl] at hi
      refine ⟨_, st_set hi, ?_⟩
      have := h.upd hA p 18 r0 r1 r2 r3 r4 r5 r6 (0) (.inl ⟨hp, by decide, At.a18 (by first | assumption | rfl | (simp [*]; done) | (simp_all; done)) (by first | assumption | rfl | (simp [*]; done) | (simp_all; done))⟩)
      rw [← next_pc] at this
      exact this
    case a18 h0 h1 =>
      have hi := at_ins hc hs hp hj (i := ⟨27, 7, 0, 0, 1⟩) rfl
      rw [movI_plain (i := ⟨27, 7, 0, 0, 1⟩) rfl] at hi
      refine ⟨_, st_mark hi, ?_⟩
      have hg := h.note ⟨7, 0, ((p * 42 + 18 : Nat) : Int), 0, r7, 0, 1, false⟩ (good_mark rfl (fun _ => (by assumption)))
      have := hg.upd hA p 19 r0 r1 r2 r3 r4 r5 r6 r7 (.inl ⟨hp, by decide, At.a19 (by assumption)⟩)
      rw [← next_pc] at this
      exact this
    case a19 h0 =>
      have hi := at_ins hc hs hp hj (i := ⟨16, 1, 8, 0, 0⟩) rfl
      rw [movI_plain (i := ⟨16, 1, 8, 0, 0⟩) rfl] at hi
      refine ⟨_, st_load hi (ad := 0) (addr_abs _ _ _ _ _) (by rw [h.nm]; decide), ?_⟩
      have hg := h.note ⟨1, 0, ((p * 42 + 19 : Nat) : Int), 0, s.load A 0, 0, 0, false⟩ (good_kind 1 rfl (by decide))
      have := hg.upd hA p 20 r0 (s.load A 0) r2 r3 r4 r5 r6 r7 (.inl ⟨hp, by decide, At.a20 (by assumption)⟩)
      rw [← next_pc] at this
      exact this
    case a20 h0 =>
      have hi := at_ins hc hs hp hj (i := ⟨1, 2, 0, 0, 1⟩) rfl
      rw [movI_plain (i := ⟨1, 2, 0, 0, 1⟩) rfl] at hi
      refine ⟨_, st_set hi, ?_⟩
      have := h.upd hA p 21 r0 r1 (1) r3 r4 r5 r6 r7 (.inl ⟨hp, by decide, At.a21 (by first | assumption | rfl | (simp [*]; done) | (simp_all; done))⟩)
      rw [← next_pc] at this
      exact this
    case a21 h0 =>
      have hi := at_ins hc hs hp hj (i := ⟨3, 1, 1, 2, 0⟩) rfl
      rw [movI_plain (i := ⟨3, 1, 1, 2, 0⟩) rfl] at hi
      refine ⟨_, st_add hi, ?_⟩
      have := h.upd hA p 22 r0 (wr32 (r1 + r2)) r2 r3 r4 r5 r6 r7 (.inl ⟨hp, by decide, At.a22 (by first | assumption | rfl | (simp [*]; done) | (simp_all; done))⟩)
      rw [← next_pc] at this
      exact this
    case a22 h0 =>
      have hi := at_ins hc hs hp hj (i := ⟨17, 1, 8, 0, 0⟩) rfl
      rw [movI_plain (i := ⟨17, 1, 8, 0, 0⟩) rfl] at hi
      refine ⟨_, st_store hi (ad := 0) (addr_abs _ _ _ _ _) (by rw [h.nm]; decide), ?_⟩
      split
      · have := h.store hA 0 (r1) (by decide) (by decide) (by decide) ((p * 42 + 22 : Nat) : Int) p 23 r0 r1 r2 r3 r4 r5 r6 r7 hp (by decide) (At.a23 (by first | assumption | (rw [if_neg (by decide)]; assumption)))
        rw [← next_pc] at this
        exact this
      · exact h.flush hA
    case a23 h0 =>
      have hi := at_ins hc hs hp hj (i := ⟨27, 7, 0, 0, 2⟩) rfl
      rw [movI_plain (i := ⟨27, 7, 0, 0, 2⟩) rfl] at hi
      refine ⟨_, st_mark hi, ?_⟩
      have hg := h.note ⟨7, 0, ((p * 42 + 23 : Nat) : Int), 0, r7, 0, 2, false⟩ (good_mark rfl (fun h => absurd (show (2 : Int) % 2 = 1 from h) (by decide)))
      have := hg.upd hA p 24 r0 r1 r2 r3 r4 r5 r6 r7 (.inl ⟨hp, by decide, At.a24 (by assumption)⟩)
      rw [← next_pc] at this
      exact this
    case a24 h0 =>
      have hi := at_ins hc hs hp hj (i := ⟨16, 4, 8, 0, 19⟩) rfl
      rw [movI_plain (i := ⟨16, 4, 8, 0, 19⟩) rfl] at hi
      refine ⟨_, st_load hi (ad := 19) (addr_abs _ _ _ _ _) (by rw [h.nm]; decide), ?_⟩
      have hg := h.note ⟨1, 0, ((p * 42 + 24 : Nat) : Int), 19, s.load A 19, 0, 0, false⟩ (good_kind 1 rfl (by decide))
      have := hg.upd hA p 25 r0 r1 r2 r3 (s.load A 19) r5 r6 r7 (.inl ⟨hp, by decide, At.a25 (by first | exact h0 | assumption) (by first | exact h0 | assumption)⟩)
      rw [← next_pc] at this
      exact this
    case a25 h0 h1 =>
      have hi := at_ins hc hs hp hj (i := ⟨1, 5, 0, 0, me⟩) rfl
      rw [movI_plain (i := ⟨1, 5, 0, 0, me⟩) rfl] at hi
      refine ⟨_, st_set hi, ?_⟩
      have := h.upd hA p 26 r0 r1 r2 r3 r4 (me) r6 r7 (.inl ⟨hp, by decide, At.a26 (by first | assumption | rfl | (simp [*]; done) | (simp_all; done)) (by first | assumption | rfl | (simp [*]; done) | (simp_all; done)) (by first | assumption | rfl | (simp [*]; done) | (simp_all; done))⟩)
      rw [← next_pc] at this
      exact this
    case a26 h0 h1 h2 =>
      have hi := at_ins hc hs hp hj (i := ⟨12, 6, 4, 5, 0⟩) rfl
      rw [movI_plain (i := ⟨12, 6, 4, 5, 0⟩) rfl] at hi
      refine ⟨_, st_same hi, ?_⟩
      have hv : (if r4 = r5 then (1 : Int) else 0) = 1 := by simp_all
      have := h.upd hA p 27 r0 r1 r2 r3 r4 r5 (if r4 = r5 then (1 : Int) else 0) r7 (.inl ⟨hp, by decide, At.a27 (by first | exact hv | assumption) (by first | exact hv | assumption) (by first | exact hv | assumption)⟩)
      rw [← next_pc] at this
      exact this
    case a27 h0 h1 h2 =>
      have hi := at_ins hc hs hp hj (i := ⟨15, 6, 0, 0, 30⟩) rfl
      rw [movI_jump (i := ⟨15, 6, 0, 0, 30⟩) rfl] at hi
      refine ⟨_, st_some hi, ?_⟩
      have hx : r6 ≠ 0 := by rw [show r6 = 1 by assumption]; decide
      show Inv A R me T codes (s.upd A (if r6 ≠ 0 then _ else _))
      rw [if_pos hx]
      have := h.upd hA p 30 r0 r1 r2 r3 r4 r5 r6 r7 (.inl ⟨hp, by decide, At.a30 (by first | assumption | rfl | (simp [*]; done) | (simp_all; done)) (by first | assumption | rfl | (simp [*]; done) | (simp_all; done))⟩)
      rw [← jmp_k (by omega) (by decide)] at this
      exact this
    case a30 h0 h1 =>
      have hi := at_ins hc hs hp hj (i := ⟨1, 4, 0, 0, 0⟩) rfl
      rw [movI_plain (i := ⟨1, 4, 0, 0, 0⟩) rfl] at hi
      refine ⟨_, st_set hi, ?_⟩
      have := h.upd hA p 31 r0 r1 r2 r3 (0) r5 r6 r7 (.inl ⟨hp, by decide, At.a31 (by first | assumption | rfl | (simp [*]; done) | (simp_all; done)) (by first | assumption | rfl | (simp [*]; done) | (simp_all; done)) (by first | assumption | rfl | (simp [*]; done) | (simp_all; done))⟩)
      rw [← next_pc] at this
      exact this
    case a31 h0 h1 h2 =>
      have hi := at_ins hc hs hp hj (i := ⟨17, 4, 8, 0, 19⟩) rfl
      rw [movI_plain (i := ⟨17, 4, 8, 0, 19⟩) rfl] at hi
      refine ⟨_, st_store hi (ad := 19) (addr_abs _ _ _ _ _) (by rw [h.nm]; decide), ?_⟩
      split
      · have := h.store hA 19 (r4) (by decide) (by decide) (by decide) ((p * 42 + 31 : Nat) : Int) p 32 r0 r1 r2 r3 r4 r5 r6 r7 hp (by decide) (At.a32 (by first | assumption | (rw [if_pos rfl]; assumption) | (rw [if_pos rfl]; rfl)) (by first | assumption | (rw [if_pos rfl]; assumption) | (rw [if_pos rfl]; rfl)))
        rw [← next_pc] at this
        exact this
      · exact h.flush hA
    case a32 h0 h1 =>
      have hi := at_ins hc hs hp hj (i := ⟨16, 4, 8, 0, 18⟩) rfl
      rw [movI_plain (i := ⟨16, 4, 8, 0, 18⟩) rfl] at hi
      refine ⟨_, st_load hi (ad := 18) (addr_abs _ _ _ _ _) (by rw [h.nm]; decide), ?_⟩
      have hg := h.note ⟨1, 0, ((p * 42 + 32 : Nat) : Int), 18, s.load A 18, 0, 0, false⟩ (good_kind 1 rfl (by decide))
      have := hg.upd hA p 33 r0 r1 r2 r3 (s.load A 18) r5 r6 r7 (.inl ⟨hp, by decide, At.a33 (by first | exact h.vc | assumption) (by first | exact h.vc | assumption) (by first | exact h.vc | assumption)⟩)
      rw [← next_pc] at this
      exact this
    case a33 h0 h1 h2 =>
      have hi := at_ins hc hs hp hj (i := ⟨12, 6, 4, 5, 0⟩) rfl
      rw [movI_plain (i := ⟨12, 6, 4, 5, 0⟩) rfl] at hi
      refine ⟨_, st_same hi, ?_⟩
      have hv : (if r4 = r5 then (1 : Int) else 0) = 0 := by simp_all [eq_comm]
      have := h.upd hA p 34 r0 r1 r2 r3 r4 r5 (if r4 = r5 then (1 : Int) else 0) r7 (.inl ⟨hp, by decide, At.a34 (by first | exact hv | assumption) (by first | exact hv | assumption)⟩)
      rw [← next_pc] at this
      exact this
    case a34 h0 h1 =>
      have hi := at_ins hc hs hp hj (i := ⟨15, 6, 0, 0, 38⟩) rfl
      rw [movI_jump (i := ⟨15, 6, 0, 0, 38⟩) rfl] at hi
      refine ⟨_, st_some hi, ?_⟩
      have hx : ¬ (r6 ≠ 0) := by rw [show r6 = 0 by assumption]; decide
      show Inv A R me T codes (s.upd A (if r6 ≠ 0 then _ else _))
      rw [if_neg hx]
      have := h.upd hA p 35 r0 r1 r2 r3 r4 r5 r6 r7 (.inl ⟨hp, by decide, At.a35 (by first | assumption | rfl | (simp [*]; done) | (simp_all; done))⟩)
      rw [← next_pc] at this
      exact this
    case a35 h0 =>
      have hi := at_ins hc hs hp hj (i := ⟨1, 4, 0, 0, 0⟩) rfl
      rw [movI_plain (i := ⟨1, 4, 0, 0, 0⟩) rfl] at hi
      refine ⟨_, st_set hi, ?_⟩
      have := h.upd hA p 36 r0 r1 r2 r3 (0) r5 r6 r7 (.inl ⟨hp, by decide, At.a36 (by first | assumption | rfl | (simp [*]; done) | (simp_all; done))⟩)
      rw [← next_pc] at this
      exact this
    case a36 h0 =>
      have hi := at_ins hc hs hp hj (i := ⟨17, 4, 8, 0, 16⟩) rfl
      rw [movI_plain (i := ⟨17, 4, 8, 0, 16⟩) rfl] at hi
      refine ⟨_, st_store hi (ad := 16) (addr_abs _ _ _ _ _) (by rw [h.nm]; decide), ?_⟩
      split
      · have := h.store hA 16 (r4) (by decide) (by decide) (by decide) ((p * 42 + 36 : Nat) : Int) p 37 r0 r1 r2 r3 r4 r5 r6 r7 hp (by decide) (At.a37 (by first | assumption | (rw [if_neg (by decide)]; assumption)))
        rw [← next_pc] at this
        exact this
      · exact h.flush hA
    case a37 h0 =>
      have hi := at_ins hc hs hp hj (i := ⟨13, 0, 0, 0, 40⟩) rfl
      rw [movI_jump (i := ⟨13, 0, 0, 0, 40⟩) rfl] at hi
      refine ⟨_, st_jump hi, ?_⟩
      have := h.upd hA p 40 r0 r1 r2 r3 r4 r5 r6 r7 (.inl ⟨hp, by decide, At.a40 (by first | assumption | rfl | (simp [*]; done) | (simp_all; done))⟩)
      rw [← jmp_k (by omega) (by decide)] at this
      exact this
    case a40 h0 =>
      have hi := at_ins hc hs hp hj (i := ⟨1, 7, 0, 0, 0⟩) rfl
      rw [movI_plain (i := ⟨1, 7, 0, 0, 0⟩) rfl] at hi
      refine ⟨_, st_set hi, ?_⟩
      have := h.upd hA p 41 r0 r1 r2 r3 r4 r5 r6 (0) (.inl ⟨hp, by decide, At.a41 (by first | assumption | rfl | (simp [*]; done) | (simp_all; done)) (by first | assumption | rfl | (simp [*]; done) | (simp_all; done))⟩)
      rw [← next_pc] at this
      exact this
    case a41 h0 h1 =>
      have hi := at_ins hc hs hp hj (i := ⟨27, 7, 0, 0, 3⟩) rfl
      rw [movI_plain (i := ⟨27, 7, 0, 0, 3⟩) rfl] at hi
      refine ⟨_, st_mark hi, ?_⟩
      have hg := h.note ⟨7, 0, ((p * 42 + 41 : Nat) : Int), 0, r7, 0, 3, false⟩ (good_mark rfl (fun _ => (by assumption)))
      have := hg.upd hA (p + 1) 0 r0 r1 r2 r3 r4 r5 r6 r7 (by
        by_cases e : p + 1 < R
        · exact .inl ⟨e, by decide, At.a0 h0⟩
        · exact .inr ⟨by omega, rfl⟩)
      rw [← last_pc] at this
      exact this
  · refine ⟨_, stepT_end hs hc rfl (by rw [code_len]; show _ ≤ ((p * 42 + 0 : Nat) : Int); omega), ?_⟩
    exact h.halt hA _ _ _ _ _ _ _ _ _ hs
  · exact ⟨s, stepT_stop hs hc (by show (2 : Int) ≠ 0; decide), h⟩
/-- Whatever the picks, all of the one that it is biased to. -/
theorem run (hA : A < T) (hR : R ≤ 100) (hme : me ≠ 0) (hc : codes[A]? = some (codeO me R)) (l : List (Nat × Nat)) (hl : ∀ q ∈ l, q.2 = A) (h : Inv A R me T codes s) : ∃ s', Ts.run codes s l = some s' ∧ Inv A R me T codes s' := by
  refine Ts.run_inv (I := Inv A R me T codes) (fun q => q.2 = A) (fun s q hq h => ?_) l s hl h
  unfold Ts.pick
  rw [if_neg (by rw [h.nths, hq]; omega), hq]
  split
  · exact step h hA hR hme hc
  · split
    · exact ⟨_, rfl, h.flush hA⟩
    · rw [if_pos h.slp]; exact ⟨_, rfl, h⟩
end
end Go.Proofs.YtipepbfpfmadaaaGreatDoor.As.BF
