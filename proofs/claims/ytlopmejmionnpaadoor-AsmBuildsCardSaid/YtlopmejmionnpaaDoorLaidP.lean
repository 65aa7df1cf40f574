/- From a row's list of variables to what the walks need of them; a world that the list fits. -/
import Derived.Test.YtlopmejmionnpaaDoorPaQ
import Derived.ProofKit
import Derived.OpenShut
import Derived.Deep.DeepHandedRow
import Derived.Lib.LaidTab
import Derived.LaidSub
import Derived.Stop.LaidErr
import Derived.Deep.DeepLaidRun
set_option linter.unusedVariables false
set_option maxRecDepth 20000
namespace Go.Proofs.YtlopmejmionnpaaDoor.As
open Go.ChangeShapes Go.WideShapes Go.ChangeAt Go.RowKit

def strData {H : Type} (ss : List B8) : DataW H := .agg (ss.map fun s => .lit (.string s))
/-- An array of strings that reads as a table holds the table's strings. -/
theorem cells_of_strs {H : Type} {enc : TypeId × Value → H} {P : Program} {w : World} {base : Nat} {sp : Nat → Bool} {held : Bool} {fuel : Nat} {t e : TypeId} {n : Nat} {cs : List Value} {ss : List B8} {p : List MemPlace}
    (ht : P.underlying t = some (.array n e)) (he : P.underlying e = some .string) (hce : P.cellsOf e = 1) (hct : P.cellsOf t = n)
    (h : DataW.trod enc P w base sp held fuel t cs = some (strData ss, p)) : cs = ss.map str := by
  cases fuel with
  | zero => simp [DataW.trod] at h
  | succ fuel =>
    simp only [DataW.trod, ht, hce, hct, Nat.mul_one] at h
    split at h
    · rename_i hl
      obtain ⟨xs, hm, hx⟩ := Option.map_eq_some_iff.1 h
      have hxs : xs.map (·.1) = ss.map fun s => (DataW.lit (.string s) : DataW H) := by
        have := congrArg Prod.fst hx
        simpa [strData] using this
      have hxl : xs.length = n := by simpa using Lib.mapM_length hm
      have hzl : ss.length = n := by
        have := congrArg List.length hxs
        simp at this
        omega
      apply List.ext_getElem?
      intro i
      by_cases hi : i < n
      · obtain ⟨b, hb, hf⟩ := Lib.mapM_at hm i i (by simp [hi])
        obtain ⟨s, hc, rfl, _⟩ := DataW.trod_string he hf
        have h1 : cs[i]? = some (.string s) := by
          have := congrArg (·[0]?) hc
          simpa [List.getElem?_take, List.getElem?_drop] using this
        have h2 : (xs.map (·.1))[i]? = some (DataW.lit (.string s.data.toList) : DataW H) := by simp [hb]
        rw [hxs] at h2
        simp only [List.getElem?_map, Option.map_eq_some_iff, DataW.lit.injEq, Lit.string.injEq] at h2
        obtain ⟨z', hz', e'⟩ := h2
        rw [h1, List.getElem?_map, hz', e']; rfl
      · rw [List.getElem?_eq_none (by omega), List.getElem?_eq_none (by simp; omega)]
    · cases h
theorem gUses : Tryd.prog.globalNamed "deadlatch/isa.uses" = some 0 := by kernel_rfl
theorem gSyn : Tryd.prog.globalNamed "strconv.ErrSyntax" = some 8 := by kernel_rfl
theorem gRan : Tryd.prog.globalNamed "strconv.ErrRange" = some 9 := by kernel_rfl
theorem star : "*" ++ "errors.errorString" = "*errors.errorString" := by decide
theorem rowStar (u : TypeId) (h : Tryd.prog.typeName? 3 u = some "*errors.errorString") : u = 156 :=
  typeName_ptr_named (nm := "errors.errorString") (by rw [star]; kernel_rfl) (by kernel_rfl) (by decide) u (by rw [star]; exact h)
def laid9 : List (String × DataW Unit) := Rows.asmParsesRow.laid
theorem pow_tab : (Rows.laid_internal_strconv_uint64pow10 : DataW Unit) = Lib.tabData .u64 Lib.pow10Tab := by kernel_rfl
theorem uses_tab : (Rows.laid_deadlatch_isa_uses : DataW Unit) = Lib.tabData .i64 opUses := by kernel_rfl
theorem names_tab : (Rows.laid_deadlatch_isa_names : DataW Unit) = strData opNames := by kernel_rfl
/-- What a row's list gives. -/
theorem tablesA {W : World} (h : laidMetH Tryd.prog laid9 W) : TabA W ∧ NamesA W := by
  have h' : laidMet Tryd.prog laid9 W := h
  have hu := h'.filter (fun x => x.1 == "deadlatch/isa.uses")
  have hn := h'.filter (fun x => x.1 == "deadlatch/isa.names")
  have hp := h'.filter (fun x => x.1 == "internal/strconv.uint64pow10")
  have hr := h'.filter (fun x => x.1 == "strconv.ErrRange")
  have hs := h'.filter (fun x => x.1 == "strconv.ErrSyntax")
  rw [show laid9.filter (fun x => x.1 == "deadlatch/isa.uses") = [("deadlatch/isa.uses", Rows.laid_deadlatch_isa_uses)] by kernel_rfl, uses_tab] at hu
  rw [show laid9.filter (fun x => x.1 == "deadlatch/isa.names") = [("deadlatch/isa.names", Rows.laid_deadlatch_isa_names)] by kernel_rfl, names_tab] at hn
  rw [show laid9.filter (fun x => x.1 == "internal/strconv.uint64pow10") = [("internal/strconv.uint64pow10", Rows.laid_internal_strconv_uint64pow10)] by kernel_rfl, pow_tab] at hp
  rw [show laid9.filter (fun x => x.1 == "strconv.ErrRange") = [("strconv.ErrRange", Rows.laid_strconv_ErrRange)] by kernel_rfl] at hr
  rw [show laid9.filter (fun x => x.1 == "strconv.ErrSyntax") = [("strconv.ErrSyntax", Rows.laid_strconv_ErrSyntax)] by kernel_rfl] at hs
  clear h h'
  obtain ⟨_, ⟨g0, t0, cs0, f0, p0, q0, hg0, ht0, hv0, hd0, _, _⟩, _⟩ := hu
  obtain ⟨_, ⟨g1, t1, cs1, f1, p1, q1, hg1, ht1, hv1, hd1, _, _⟩, _⟩ := hn
  obtain ⟨_, ⟨g2, t2, cs2, f2, p2, q2, hg2, ht2, hv2, hd2, _, _⟩, _⟩ := hp
  obtain ⟨a3, _, hv3, _⟩ := laid_sentinel hr gRan (show (Tryd.prog.globals[9]?).map (·.type) = some 83 by kernel_rfl) Tryd.underlying83 rowStar Tryd.underlying156 Tryd.underlying158 rfl rfl Tryd.underlying9 (by kernel_rfl) (by kernel_rfl)
  obtain ⟨a4, _, hv4, _⟩ := laid_sentinel hs gSyn (show (Tryd.prog.globals[8]?).map (·.type) = some 83 by kernel_rfl) Tryd.underlying83 rowStar Tryd.underlying156 Tryd.underlying158 rfl rfl Tryd.underlying9 (by kernel_rfl) (by kernel_rfl)
  obtain rfl := Option.some.inj (gUses.symm.trans hg0)
  obtain rfl := Option.some.inj (names_named.symm.trans hg1)
  obtain rfl := Option.some.inj (pow_named.symm.trans hg2)
  obtain rfl := Option.some.inj ((show (Tryd.prog.globals[0]?).map (·.type) = some 96 by kernel_rfl).symm.trans ht0)
  obtain rfl := Option.some.inj ((show (Tryd.prog.globals[1]?).map (·.type) = some 109 by kernel_rfl).symm.trans ht1)
  obtain rfl := Option.some.inj ((show (Tryd.prog.globals[3]?).map (·.type) = some 133 by kernel_rfl).symm.trans ht2)
  have e0 := Lib.cells_of_tab Tryd.underlying96 Tryd.underlying3 (by kernel_rfl) (by kernel_rfl) hd0
  have e1 := cells_of_strs Tryd.underlying109 Tryd.underlying9 (by kernel_rfl) (by kernel_rfl) hd1
  have e2 := Lib.cells_of_tab Tryd.underlying133 Tryd.underlying101 (by kernel_rfl) (by kernel_rfl) hd2
  have N : NamesA W := by show W.var? Tryd.prog "deadlatch/isa.names" = _; rw [hv1, ← e1]
  have k0 := World.var?_cell gUses (show W.var? Tryd.prog "deadlatch/isa.uses" = some (opUses.map fun z => Value.int .i64 z).toArray by rw [hv0, ← e0])
  have k1 := World.var?_cell names_named N
  have hpow : Pow W := by show W.var? Tryd.prog "internal/strconv.uint64pow10" = _; rw [hv2, ← e2]
  have k2 := World.var?_cell pow_named hpow
  have k3 := World.var?_cell gRan hv3
  have k4 := World.var?_cell gSyn hv4
  refine ⟨⟨⟨fun i hi => ?_, fun i hi => ?_⟩, hpow, ⟨156, .pointer (some a4), by have := k4 0; simpa using this⟩, ⟨156, .pointer (some a3), by have := k3 0; simpa using this⟩, ?_⟩, N⟩
  · have hl : i < opNames.length := hi
    rw [k1 i]
    simp [List.getD, hl, str]
  · have hl : i < opUses.length := hi
    rw [k0 i]
    simp [List.getD, hl]
  · have := k2 0
    exact block_lt_of_cell (this.trans (by rfl : _ = some (Value.int .u64 1)))

/-! ### A world that fits -/
def layG (h : Array Obj) (g : Nat) (cs : Array Value) : Array Obj := h.modify g fun
  | .cells _ t frozen => .cells cs t frozen
  | o => o
def litV : DataW Unit → Value
  | .lit (.int k n) => .int k n
  | .lit (.string s) => .string ⟨s.toArray⟩
  | _ => undef
def cells1 : DataW Unit → List Value
  | .agg l => l.map litV
  | _ => []
def cells2 : DataW Unit → List Value
  | .agg l => l.flatMap cells1
  | _ => []
/-- So many blocks has the settled world. -/
noncomputable def low : Nat := (World.holding Tryd.prog default ⟨#[], #[], []⟩).heap.size
noncomputable def laidWorld (os : Os) : World :=
  let w0 := World.holding Tryd.prog os ⟨#[.cells #[.string ⟨#[118, 97, 108, 117, 101, 32, 111, 117, 116, 32, 111, 102, 32, 114, 97, 110, 103, 101]⟩] 158, .cells #[.string ⟨#[105, 110, 118, 97, 108, 105, 100, 32, 115, 121, 110, 116, 97, 120]⟩] 158], #[], []⟩
  { w0 with heap := ([(0, (cells1 Rows.laid_deadlatch_isa_uses).toArray), (1, (cells1 Rows.laid_deadlatch_isa_names).toArray), (6, (cells1 Rows.laid_math_bits_deBruijn32tab).toArray),
      (7, (cells1 Rows.laid_math_bits_deBruijn64tab).toArray), (3, (cells1 Rows.laid_internal_strconv_uint64pow10).toArray), (5, (cells2 Rows.laid_unicode_utf8_acceptRanges).toArray),
      (9, #[.iface 156 (.pointer (some ⟨low, 0, none⟩))]), (8, #[.iface 156 (.pointer (some ⟨low + 1, 0, none⟩))]), (4, (cells1 Rows.laid_unicode_utf8_first).toArray)] : List (Nat × Array Value)).foldl (fun h x => layG h x.1 x.2) w0.heap }
theorem laid_met (os : Os) (args : Array Value) : laidMet Tryd.prog laid9 ((laidWorld os).forCall (fun _ _ => 0) ⟨#[], args, []⟩).memory :=
  laidMet_of_run3 8 (by kernel_rfl) (by kernel_rfl) (by kernel_rfl)
end Go.Proofs.YtlopmejmionnpaaDoor.As
