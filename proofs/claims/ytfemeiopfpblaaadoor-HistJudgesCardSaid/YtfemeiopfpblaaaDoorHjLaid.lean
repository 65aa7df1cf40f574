/- From the row's condition to the table in memory. -/
import Derived.Test.YtfemeiopfpblaaaDoorHjO
set_option linter.unusedVariables false
set_option maxRecDepth 20000
namespace Go.Proofs.YtfemeiopfpblaaaDoor.As
open Go.ChangeShapes Go.WideShapes Go.ChangeAt Go.RowKit

def str (l : B8) : Value := .string ⟨l.toArray⟩
def layG (h : Array Obj) (g : Nat) (cs : Array Value) : Array Obj := h.modify g fun
  | .cells _ t frozen => .cells cs t frozen
  | o => o
def strData {H : Type} (ss : List B8) : DataW H := .agg (ss.map fun s => .lit (.string s))
/-- An array of strings that reads as a table holds the table's strings. -/
theorem cells_of_strs {H : Type} {enc : TypeId × Value → H} {P : Program} {w : World} {base : Nat} {sp : Nat → Bool} {held : Bool} {fuel : Nat} {t e : TypeId} {n : Nat} {cs : List Value} {ss : List B8} {p : List MemPlace}
    (ht : P.underlying t = some (.array n e)) (he : P.underlying e = some .string) (hce : P.cellsOf e = 1) (hct : P.cellsOf t = n)
    (h : DataW.trod enc P w base sp held fuel t cs = some (strData ss, p)) : cs = ss.map str := by
  cases fuel with
  | zero => simp [DataW.trod] at h
  | succ fuel =>
    simp only [DataW.trod, ht, hce, hct, Nat.mul_one] at h
    split at h
    · rename_i hl
      obtain ⟨xs, hm, hx⟩ := Option.map_eq_some_iff.1 h
      have hxs : xs.map (·.1) = ss.map fun s => (DataW.lit (.string s) : DataW H) := by
        have := congrArg Prod.fst hx
        simpa [strData] using this
      have hxl : xs.length = n := by simpa using Lib.mapM_length hm
      have hzl : ss.length = n := by
        have := congrArg List.length hxs
        simp at this
        omega
      apply List.ext_getElem?
      intro i
      by_cases hi : i < n
      · obtain ⟨b, hb, hf⟩ := Lib.mapM_at hm i i (by simp [hi])
        obtain ⟨s, hc, rfl, _⟩ := DataW.trod_string he hf
        have h1 : cs[i]? = some (.string s) := by
          have := congrArg (·[0]?) hc
          simpa [List.getElem?_take, List.getElem?_drop] using this
        have h2 : (xs.map (·.1))[i]? = some (DataW.lit (.string s.data.toList) : DataW H) := by simp [hb]
        rw [hxs] at h2
        simp only [List.getElem?_map, Option.map_eq_some_iff, DataW.lit.injEq, Lit.string.injEq] at h2
        obtain ⟨z', hz', e'⟩ := h2
        rw [h1, List.getElem?_map, hz', e']; rfl
      · rw [List.getElem?_eq_none (by omega), List.getElem?_eq_none (by simp; omega)]
    · cases h
theorem gObj : Tryd.prog.globalNamed "deadlatch/obj.names" = some 0 := by kernel_rfl
def laid1 : List (String × DataW Unit) := [("deadlatch/obj.names", strData kindNames)]
/-- What the row's list gives. -/
theorem tables {W : World} (h : laidMetH Tryd.prog laid1 W) : TabO W := by
  have h' : laidMet Tryd.prog laid1 W := h
  obtain ⟨ps, ⟨g2, t2, cs2, f2, p2, q2, hg2, ht2, hv2, hd2, _, _⟩, _⟩ := h'
  obtain rfl := Option.some.inj (gObj.symm.trans hg2)
  obtain rfl := Option.some.inj ((show (Tryd.prog.globals[0]?).map (·.type) = some 83 by kernel_rfl).symm.trans ht2)
  have e2 := cells_of_strs Tryd.underlying83 Tryd.underlying9 (by kernel_rfl) (by kernel_rfl) hd2
  have k2 := World.var?_cell gObj (show W.var? Tryd.prog "deadlatch/obj.names" = some (kindNames.map str).toArray by rw [hv2, ← e2])
  refine ⟨fun i hi => ?_⟩
  have hl : i < kindNames.length := hi
  rw [k2 i]
  simp [List.getD, hl, str]
end Go.Proofs.YtfemeiopfpblaaaDoor.As
