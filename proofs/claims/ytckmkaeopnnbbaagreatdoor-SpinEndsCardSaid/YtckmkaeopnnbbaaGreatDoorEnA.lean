/- Plain Lean: what a step of a thread leaves: a flush, or a turn of the thread whose buffer grows by one at most. No program in sight. -/
import Derived.Test.YtckmkaeopnnbbaaGreatDoorGl
set_option linter.unusedVariables false
set_option linter.unusedSimpArgs false
namespace Go.Proofs.YtckmkaeopnnbbaaGreatDoor.As

def Ts.th (s : Ts) (t : Nat) : Th := (s.ths[t]?).getD ⟨0, [], 2⟩
def Ts.shr (s s' : Ts) : Prop := ∀ u, (s'.buf u).length ≤ (s.buf u).length
theorem flush_shr (s : Ts) (t : Nat) : Ts.shr s (s.flush t) := fun u => by
 by_cases ht : t < s.bufs.length
 ·rw [buf_flushF ht]
  by_cases e : u = t
  ·subst e; rw [upF_self, List.length_tail]; omega
  ·rw [upF_ne _ _ e]; exact Nat.le_refl _
 ·have : s.flush t = s := by
   unfold Ts.flush
   have e : s.buf t = [] := by
    unfold Ts.buf
    rw [List.getD_eq_getElem?_getD, List.getElem?_eq_none (by omega)]; rfl
   rw [e]
  rw [this]; exact Nat.le_refl _
theorem drain_shr (t : Nat) : ∀ (n : Nat) (s : Ts), Ts.shr s (Ts.drain t n s)
 | 0, s => fun u => Nat.le_refl _
 | n + 1, s => fun u => Nat.le_trans (drain_shr t n _ u) (flush_shr s t u)
theorem remoteFrom_shr : ∀ (n t : Nat) (s : Ts), Ts.shr s (Ts.remoteFrom n t s)
 | 0, _, s => fun u => Nat.le_refl _
 | n + 1, t, s => fun u => Nat.le_trans (remoteFrom_shr n (t + 1) _ u) (drain_shr t _ s u)
theorem remote_shr (s : Ts) : Ts.shr s s.remote := remoteFrom_shr _ _ s
structure Ts.Turn (t : Nat) (i : Ins) (th th' : Th) (s s' : Ts) : Prop where
 ths : s'.ths = s.ths.set t th'
 st : th'.st = th.st
 pc : (i.op ≠ 13 ∧ th'.pc = th.pc + 1) ∨ (jumpsI i.op ∧ th'.pc = i.k)
 bl : ∀ u, (s'.buf u).length ≤ (s.buf u).length + (if u = t then 1 else 0)
 nb : s'.bufs.length = s.bufs.length
 room : s'.room = s.room
 slp : s'.slp = s.slp
 mem : i.op ≠ 19 → i.op ≠ 20 → i.op ≠ 21 → i.op ≠ 25 → s'.mem = s.mem
 bufs : i.op ≠ 17 → i.op ≠ 25 → s'.bufs = s.bufs
 stor : i.op = 17 → ∃ v, s'.bufs = s.bufs.set t (s.buf t ++ [((addrI th i).toNat, v)])
theorem le_of_same {s s' : Ts} {t : Nat} (h : s'.bufs = s.bufs) (u : Nat) : (s'.buf u).length ≤ (s.buf u).length + (if u = t then 1 else 0) := by
 unfold Ts.buf; rw [h]; exact Nat.le_add_right _ _
theorem turn_of {codes : List (List Ins)} {s s' : Ts} {t : Nat} {th : Th} {i : Ins} (h : AtI codes s t th i) (h0 : i.op ≠ 0) (hr : 0 < s.room) (hb : t < s.bufs.length) (hs : s.stepT codes t = some s') :
  (s' = s.flush t ∧ s.buf t ≠ []) ∨ ∃ th', Ts.Turn t i th th' s s' := by
 rw [stepT_at h] at hs
 by_cases c1 : asksI i.op ∧ (s.mem.length : Int) ≤ addrI th i
 ·rw [if_pos c1] at hs; cases hs
 rw [if_neg c1] at hs
 by_cases c2 : (drainsI i.op ∧ s.empty t = false) ∨ (i.op = 17 ∧ s.roomy t = false)
 ·rw [if_pos c2] at hs
  refine .inl ⟨?_, ?_⟩
  ·have := Option.some.inj hs
   rw [← this]; exact upd_flush h.hs
  ·intro e
   rcases c2 with ⟨_, c⟩ | ⟨_, c⟩
   ·unfold Ts.empty at c; rw [e] at c; cases c
   ·unfold Ts.roomy at c; rw [e, decide_eq_false_iff_not] at c; exact c hr
 rw [if_neg c2, if_neg h0] at hs
 refine .inr ?_
 by_cases c3 : jumpsI i.op
 ·rw [if_pos c3] at hs
  have := Option.some.inj hs
  by_cases g : goesI i th = true
  ·rw [if_pos g] at this
   subst this
   exact ⟨{ th with pc := i.k }, ⟨rfl, rfl, .inr ⟨c3, rfl⟩, le_of_same rfl, rfl, rfl, rfl, fun _ _ _ _ => rfl, fun _ _ => rfl, fun e => by rcases c3 with c | c | c <;> (rw [c] at e; cases e)⟩⟩
  ·rw [if_neg g] at this
   subst this
   refine ⟨th.next, ⟨rfl, rfl, .inl ⟨fun e => ?_, rfl⟩, le_of_same rfl, rfl, rfl, rfl, fun _ _ _ _ => rfl, fun _ _ => rfl, fun e => by rcases c3 with c | c | c <;> (rw [c] at e; cases e)⟩⟩
   apply g; unfold goesI; rw [if_pos e]
 rw [if_neg c3] at hs
 have n13 : i.op ≠ 13 := fun e => c3 (.inl e)
 by_cases c4 : asksI i.op
 ·rw [if_pos c4] at hs
  cases ha : asks (tsP t) i (addrI th i).toNat th s with
  | none => rw [ha] at hs; cases hs
  | some q =>
   rw [ha] at hs
   have hs := Option.some.inj hs
   have hq : q.1.st = th.st ∧ q.1.pc = th.pc ∧ q.2.ths = s.ths ∧ (∀ u, (q.2.buf u).length ≤ (s.buf u).length + (if u = t then 1 else 0)) ∧ q.2.bufs.length = s.bufs.length ∧ q.2.room = s.room ∧ q.2.slp = s.slp ∧ (i.op ≠ 19 → i.op ≠ 20 → i.op ≠ 21 → i.op ≠ 25 → q.2.mem = s.mem) ∧ (i.op ≠ 17 → i.op ≠ 25 → q.2.bufs = s.bufs) ∧ (i.op = 17 → ∃ v, q.2.bufs = s.bufs.set t (s.buf t ++ [((addrI th i).toNat, v)])) := by
    unfold asks at ha
    simp only [tsP] at ha
    by_cases o1 : i.op = 16
    ·rw [if_pos o1] at ha; have := Option.some.inj ha; rw [← this]
     exact ⟨rfl, rfl, rfl, le_of_same rfl, rfl, rfl, rfl, fun _ _ _ _ => rfl, fun _ _ => rfl, fun e => by rw [o1] at e; cases e⟩
    rw [if_neg o1] at ha
    by_cases o2 : i.op = 17
    ·rw [if_pos o2] at ha; have := Option.some.inj ha; rw [← this]
     refine ⟨rfl, rfl, rfl, fun u => ?_, by simp [Ts.store, Ts.note], rfl, rfl, fun _ _ _ _ => rfl, fun a => absurd o2 a, fun _ => ⟨_, rfl⟩⟩
     show ((s.store t _ _).buf u).length ≤ _
     rw [buf_storeF hb]
     by_cases e : u = t
     ·subst e; rw [upF_self, if_pos rfl]; simp
     ·rw [upF_ne _ _ e]; exact Nat.le_add_right _ _
    rw [if_neg o2] at ha
    by_cases o3 : i.op = 19
    ·rw [if_pos o3] at ha; have := Option.some.inj ha; rw [← this]
     exact ⟨rfl, rfl, rfl, le_of_same rfl, rfl, rfl, rfl, fun a _ _ _ => absurd o3 a, fun _ _ => rfl, fun e => by rw [o3] at e; cases e⟩
    rw [if_neg o3] at ha
    by_cases o4 : i.op = 20
    ·rw [if_pos o4] at ha; have := Option.some.inj ha; rw [← this]
     exact ⟨rfl, rfl, rfl, le_of_same rfl, rfl, rfl, rfl, fun _ a _ _ => absurd o4 a, fun _ _ => rfl, fun e => by rw [o4] at e; cases e⟩
    rw [if_neg o4] at ha
    by_cases o5 : i.op = 21
    ·rw [if_pos o5] at ha
     by_cases hv : s.load t (addrI th i).toNat = th.reg i.a
     ·simp only [hv, if_true] at ha
      have := Option.some.inj ha; rw [← this]
      exact ⟨rfl, rfl, rfl, le_of_same rfl, rfl, rfl, rfl, fun _ _ a _ => absurd o5 a, fun _ _ => rfl, fun e => by rw [o5] at e; cases e⟩
     ·simp only [hv, if_false] at ha
      have := Option.some.inj ha; rw [← this]
      exact ⟨rfl, rfl, rfl, le_of_same rfl, rfl, rfl, rfl, fun _ _ a _ => absurd o5 a, fun _ _ => rfl, fun e => by rw [o5] at e; cases e⟩
    rw [if_neg o5] at ha
    cases ha
   refine ⟨q.1.next, by rw [← hs]; show q.2.ths.set t _ = _; rw [hq.2.2.1], hq.1, .inl ⟨n13, by show q.1.pc + 1 = _; rw [hq.2.1]⟩, fun u => ?_, ?_, ?_, ?_, ?_, ?_, ?_⟩
   ·rw [← hs]; exact hq.2.2.2.1 u
   ·rw [← hs]; exact hq.2.2.2.2.1
   ·rw [← hs]; exact hq.2.2.2.2.2.1
   ·rw [← hs]; exact hq.2.2.2.2.2.2.1
   ·rw [← hs]; exact hq.2.2.2.2.2.2.2.1
   ·rw [← hs]; exact hq.2.2.2.2.2.2.2.2.1
   ·rw [← hs]; exact hq.2.2.2.2.2.2.2.2.2
 rw [if_neg c4] at hs
 cases ha : plainI (tsP t) i th s with
 | none => rw [ha] at hs; cases hs
 | some q =>
  rw [ha] at hs
  have hs := Option.some.inj hs
  have hq : q.1.st = th.st ∧ q.1.pc = th.pc ∧ q.2.ths = s.ths ∧ (∀ u, (q.2.buf u).length ≤ (s.buf u).length + (if u = t then 1 else 0)) ∧ q.2.bufs.length = s.bufs.length ∧ q.2.room = s.room ∧ q.2.slp = s.slp ∧ (i.op ≠ 19 → i.op ≠ 20 → i.op ≠ 21 → i.op ≠ 25 → q.2.mem = s.mem) ∧ (i.op ≠ 17 → i.op ≠ 25 → q.2.bufs = s.bufs) ∧ (i.op = 17 → ∃ v, q.2.bufs = s.bufs.set t (s.buf t ++ [((addrI th i).toNat, v)])) := by
   unfold plainI at ha
   simp only [tsP] at ha
   by_cases o1 : i.op = 1
   ·rw [if_pos o1] at ha; have := Option.some.inj ha; rw [← this]
    exact ⟨rfl, rfl, rfl, le_of_same rfl, rfl, rfl, rfl, fun _ _ _ _ => rfl, fun _ _ => rfl, fun e => by rw [o1] at e; cases e⟩
   rw [if_neg o1] at ha
   by_cases o2 : i.op = 2
   ·rw [if_pos o2] at ha; have := Option.some.inj ha; rw [← this]
    exact ⟨rfl, rfl, rfl, le_of_same rfl, rfl, rfl, rfl, fun _ _ _ _ => rfl, fun _ _ => rfl, fun e => by rw [o2] at e; cases e⟩
   rw [if_neg o2] at ha
   by_cases o3 : i.op = 18
   ·rw [if_pos o3] at ha; have := Option.some.inj ha; rw [← this]
    exact ⟨rfl, rfl, rfl, le_of_same rfl, rfl, rfl, rfl, fun _ _ _ _ => rfl, fun _ _ => rfl, fun e => by rw [o3] at e; cases e⟩
   rw [if_neg o3] at ha
   by_cases o4 : i.op = 22
   ·rw [if_pos o4] at ha; have := Option.some.inj ha; rw [← this]
    exact ⟨rfl, rfl, rfl, le_of_same rfl, rfl, rfl, rfl, fun _ _ _ _ => rfl, fun _ _ => rfl, fun e => by rw [o4] at e; cases e⟩
   rw [if_neg o4] at ha
   by_cases o5 : i.op = 27
   ·rw [if_pos o5] at ha; have := Option.some.inj ha; rw [← this]
    exact ⟨rfl, rfl, rfl, le_of_same rfl, rfl, rfl, rfl, fun _ _ _ _ => rfl, fun _ _ => rfl, fun e => by rw [o5] at e; cases e⟩
   rw [if_neg o5] at ha
   by_cases o6 : i.op = 25
   ·rw [if_pos o6] at ha; have := Option.some.inj ha; rw [← this]
    have hm := Ts.remote_same s
    exact ⟨rfl, rfl, hm.ths, fun u => Nat.le_trans (remote_shr s u) (Nat.le_add_right _ _), hm.nb, hm.room, hm.slp, fun _ _ _ a => absurd o6 a, fun _ a => absurd o6 a, fun e => by rw [o6] at e; cases e⟩
   rw [if_neg o6] at ha
   by_cases o7 : i.op = 26
   ·rw [if_pos o7] at ha; have := Option.some.inj ha; rw [← this]
    exact ⟨rfl, rfl, rfl, le_of_same rfl, rfl, rfl, rfl, fun _ _ _ _ => rfl, fun _ _ => rfl, fun e => by rw [o7] at e; cases e⟩
   rw [if_neg o7] at ha
   obtain ⟨v, -, hv⟩ := Option.map_eq_some_iff.1 ha
   rw [← hv]
   exact ⟨rfl, rfl, rfl, le_of_same rfl, rfl, rfl, rfl, fun _ _ _ _ => rfl, fun _ _ => rfl, fun e => absurd (Or.inr (Or.inl e)) c4⟩
  refine ⟨q.1.next, by rw [← hs]; show q.2.ths.set t _ = _; rw [hq.2.2.1], hq.1, .inl ⟨n13, by show q.1.pc + 1 = _; rw [hq.2.1]⟩, fun u => ?_, ?_, ?_, ?_, ?_, ?_, ?_⟩
  ·rw [← hs]; exact hq.2.2.2.1 u
  ·rw [← hs]; exact hq.2.2.2.2.1
  ·rw [← hs]; exact hq.2.2.2.2.2.1
  ·rw [← hs]; exact hq.2.2.2.2.2.2.1
  ·rw [← hs]; exact hq.2.2.2.2.2.2.2.1
  ·rw [← hs]; exact hq.2.2.2.2.2.2.2.2.1
  ·rw [← hs]; exact hq.2.2.2.2.2.2.2.2.2
end Go.Proofs.YtckmkaeopnnbbaaGreatDoor.As
