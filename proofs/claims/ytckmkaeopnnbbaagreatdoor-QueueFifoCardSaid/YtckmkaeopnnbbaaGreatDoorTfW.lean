/- Plain Lean: what TfP asks, with a thread's own sizes. No program in sight. -/
import Derived.Test.YtckmkaeopnnbbaaGreatDoorTfP
import Derived.Test.YtckmkaeopnnbbaaGreatDoorTq7
set_option linter.unusedVariables false
set_option linter.unusedSimpArgs false
namespace Go.Proofs.YtckmkaeopnnbbaaGreatDoor.As.Wf

section
variable {X : Lk} {s : Ts} {f : Nat → Loc} {i : Int × List Nat} {ph : Nat → Nat} {W' : List Nat} {t L js : Nat} {r : Nat → Bool}
theorem V_loc (h : X.Inv s f i) (ht : t < X.T) (eL : X.Lb t = L) (er : X.inR t = r) (ej : X.js t = js) (eh : X.ph = ph) (x : Loc) (hfr : x.fr X.R L) (hI : X.I i.2 s.mem (upF f t x) s.buf) (hin : (r x.j, ph x.j) = (r (f t).j, ph (f t).j)) (hp : x.p = (f t).p) (hj : decide (js < x.j) = decide (js < (f t).j)) : X.Inv (s.upd t (x.th L)) (upF f t x) i := by
  subst eL; subst er; subst ej; subst eh; exact h.loc ht x hfr hI hin hp hj
theorem V_begun (h : X.Inv s f i) (ht : t < X.T) (eL : X.Lb t = L) (er : X.inR t = r) (ej : X.js t = js) (eh : X.ph = ph) (pc v : Int) (h0 : ph (f t).j = 0) (x : Loc) (hfr : x.fr X.R L) (hI : X.I i.2 s.mem (upF f t x) s.buf) (hin : (r x.j, ph x.j) = (r (f t).j, 1)) (hp : x.p = (f t).p) (hj : decide (js < x.j) = decide (js < (f t).j)) : X.Inv ((s.note t ⟨7, 0, pc, 0, v, 0, 0, false⟩).upd t (x.th L)) (upF f t x) i := by
  subst eL; subst er; subst ej; subst eh; exact h.begun ht pc v h0 x hfr hI hin hp hj
theorem V_again (h : X.Inv s f i) (ht : t < X.T) (eL : X.Lb t = L) (er : X.inR t = r) (ej : X.js t = js) (eh : X.ph = ph) (x : Loc) (hfr : x.fr X.R L) (hI : X.I i.2 s.mem (upF f t x) s.buf) (hin : (r x.j, ph x.j) = (r (f t).j, ph (f t).j)) (hp : x.p = (f t).p + 1) (hj : js < (f t).j) (hj0 : x.j = 0) : X.Inv (s.upd t (x.th L)) (upF f t x) i := by
  subst eL; subst er; subst ej; subst eh; exact h.again ht x hfr hI hin hp hj hj0
theorem V_enters (h : X.Inv s f i) (ht : t < X.T) (eL : X.Lb t = L) (er : X.inR t = r) (ej : X.js t = js) (eh : X.ph = ph) (pc : Int) (x : Loc) (hfr : x.fr X.R L) (hW : i.2 = t :: W') (h2 : ph (f t).j = 2) (hI : X.I W' s.mem (upF f t x) s.buf) (hn : ∀ u, u < X.T → X.inR u (f u).j = false) (hin : (r x.j, ph x.j) = (true, 0)) (hp : x.p = (f t).p) (hj : decide (js < x.j) = decide (js < (f t).j)) : X.Inv ((s.note t ⟨7, 0, pc, 0, 0, 0, 1, false⟩).upd t (x.th L)) (upF f t x) ((t : Int), W') := by
  subst eL; subst er; subst ej; subst eh; exact h.enters ht pc x hfr W' hW h2 hI hn hin hp hj
theorem V_leaves (h : X.Inv s f i) (ht : t < X.T) (eL : X.Lb t = L) (er : X.inR t = r) (ej : X.js t = js) (eh : X.ph = ph) (pc v : Int) (x : Loc) (hfr : x.fr X.R L) (hI : X.I i.2 s.mem (upF f t x) s.buf) (h1 : (r (f t).j, ph (f t).j) = (true, 0)) (hin : (r x.j, ph x.j) = (false, 0)) (hp : x.p = (f t).p) (hj : decide (js < x.j) = decide (js < (f t).j)) : X.Inv ((s.note t ⟨7, 0, pc, 0, v, 0, 2, false⟩).upd t (x.th L)) (upF f t x) ((-1 : Int), i.2) := by
  subst eL; subst er; subst ej; subst eh; exact h.leaves ht pc v x hfr hI h1 hin hp hj
theorem V_stored (h : X.Inv s f i) (ht : t < X.T) (eL : X.Lb t = L) (er : X.inR t = r) (ej : X.js t = js) (eh : X.ph = ph) (pc : Int) (a : Nat) (v : Int) (x : Loc) (hfr : x.fr X.R L) (hI : X.I i.2 s.mem (upF f t x) (upF s.buf t (s.buf t ++ [(a, v)]))) (hin : (r x.j, ph x.j) = (r (f t).j, ph (f t).j)) (hp : x.p = (f t).p) (hj : (a ≠ 0 ∧ decide (js < x.j) = decide (js < (f t).j)) ∨ (a = 0 ∧ (f t).j = js ∧ x.j = js + 1)) : X.Inv (((s.store t a v).note t ⟨2, 0, pc, a, v, 0, 0, false⟩).upd t (x.th L)) (upF f t x) i := by
  subst eL; subst er; subst ej; subst eh; exact h.stored ht pc a v x hfr hI hin hp hj
theorem V_swapped (h : X.Inv s f i) (ht : t < X.T) (eL : X.Lb t = L) (er : X.inR t = r) (ej : X.js t = js) (eh : X.ph = ph) (ev : Ev) (hk : ev.kind = 4) (a : Nat) (v : Int) (a0 : a ≠ 0) (x : Loc) (hfr : x.fr X.R L) (hI : X.I (i.2 ++ [t]) (s.mem.set a v) (upF f t x) s.buf) (h1 : ph (f t).j = 1) (hev : ev.addr = 16) (hk0 : ev.k = 0) (hin : (r x.j, ph x.j) = (r (f t).j, 2)) (hp : x.p = (f t).p) (hj : decide (js < x.j) = decide (js < (f t).j)) : X.Inv (((s.swap a v).note t ev).upd t (x.th L)) (upF f t x) (i.1, i.2 ++ [t]) := by
  subst eL; subst er; subst ej; subst eh; exact h.swapped ht ev hk a v a0 x hfr hI h1 hev hk0 hin hp hj
theorem V_swapped0 (h : X.Inv s f i) (ht : t < X.T) (eL : X.Lb t = L) (er : X.inR t = r) (ej : X.js t = js) (eh : X.ph = ph) (ev : Ev) (hk : ev.kind = 4) (a : Nat) (v : Int) (a0 : a ≠ 0) (x : Loc) (hfr : x.fr X.R L) (h0 : ph (f t).j = 0) (hk0 : ev.k = 0) (hI : X.I i.2 (s.mem.set a v) (upF f t x) s.buf) (hin : (r x.j, ph x.j) = (r (f t).j, ph (f t).j)) (hp : x.p = (f t).p) (hj : decide (js < x.j) = decide (js < (f t).j)) : X.Inv (((s.swap a v).note t ev).upd t (x.th L)) (upF f t x) i := by
  subst eL; subst er; subst ej; subst eh; exact h.swapped0 ht ev hk a v a0 x hfr h0 hk0 hI hin hp hj
end
end Go.Proofs.YtckmkaeopnnbbaaGreatDoor.As.Wf
