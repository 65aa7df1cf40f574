/-
  NARROWER THAN 'FOR EVERY INPUT', by the rows' own cells (each row's printed sentence says how): BiasFree: laid · DuoNeeds: laid · SpinOne: laid · BiasOne: laid · DuoOne: laid.
  DERIVED. THE GIVEN ROWS OF THIS SEAT. 5 by the template 'for every input the law returns true; each argument reads behind the call as it read before'; 0 by the template 'total and deterministic' (their statements: YtipepbfpfmadaaaGreatDoorTotals.lean).
  GIVEN WITH THE SEED: the statements are not yours to turn. If you find one false, say at which input.
  Laid BY PROGRAM, IN A SANDBOX (cutbox-rows.mjs): the forced cells as the released guide's own fill.sh prints them over the translation 983016d8c56cf275… (all of the seat's roots in one cut). By AI agents, Wed Nov 11 2026. No macro, syntax, notation, axiom, sorry.
-/
import Derived.Test.YtipepbfpfmadaaaGreatDoorChecked
import GoSem.Claim
import GoSem.ClaimJoined
import GoSem.ClaimMapViews
import Derived.JoinedTies
import Derived.KernelRfl
namespace Go.Proofs.YtipepbfpfmadaaaGreatDoor
/- THE CELL 'sum', in the pinned program and in every row, IS THE sha256 OF THE DUMP (.gsa) THAT YtipepbfpfmadaaaGreatDoorProg.lean LOADS. Nothing in Lean hashes anything: it is a label: what it is worth is what the hold of that sum in a sandbox is worth. -/
noncomputable def Tryz.pinned : Pinned := { name := "ytipepbfpfmadaaagreatdoor", sum := "983016d8c56cf275eb2553cfce5101b02e288c7985f6633f58b363105d130131", checked := Tryz.checked }
namespace Rows
def none {H : Type} : Left H := { results := [], args := [] }

/- WHAT THE LISTED PACKAGE-LEVEL VARIABLES READ AS WHEN THE CALL BEGINS. Each datum BY PROGRAM (the guide's laid-datum.mjs) off the statement by which the dump's own 'gosem.cut.vars' lays the variable. In a bare row this is a premise. The card (YtipepbfpfmadaaaGreatDoorCards.lean) ties it to the program's text. -/
def laid_deadlatch_isa_uses {H : Type} : DataW H := .agg [.lit (.int .i64 0), .lit (.int .i64 17), .lit (.int .i64 3), .lit (.int .i64 7), .lit (.int .i64 7), .lit (.int .i64 7), .lit (.int .i64 7), .lit (.int .i64 7), .lit (.int .i64 7), .lit (.int .i64 7), .lit (.int .i64 7), .lit (.int .i64 7), .lit (.int .i64 7), .lit (.int .i64 32), .lit (.int .i64 33), .lit (.int .i64 33), .lit (.int .i64 25), .lit (.int .i64 25), .lit (.int .i64 0), .lit (.int .i64 25), .lit (.int .i64 25), .lit (.int .i64 29), .lit (.int .i64 1), .lit (.int .i64 25), .lit (.int .i64 25), .lit (.int .i64 0), .lit (.int .i64 0), .lit (.int .i64 17)]
def laid_deadlatch_isa_names {H : Type} : DataW H := .agg [.lit (.string [104, 97, 108, 116]), .lit (.string [115, 101, 116]), .lit (.string [109, 111, 118, 101]), .lit (.string [97, 100, 100]), .lit (.string [115, 117, 98]), .lit (.string [109, 117, 108]), .lit (.string [97, 110, 100]), .lit (.string [111, 114]), .lit (.string [120, 111, 114]), .lit (.string [115, 104, 108]), .lit (.string [115, 104, 114]), .lit (.string [108, 101, 115, 115]), .lit (.string [115, 97, 109, 101]), .lit (.string [106, 117, 109, 112]), .lit (.string [122, 101, 114, 111]), .lit (.string [115, 111, 109, 101]), .lit (.string [108, 111, 97, 100]), .lit (.string [115, 116, 111, 114, 101]), .lit (.string [102, 101, 110, 99, 101]), .lit (.string [115, 119, 97, 112]), .lit (.string [102, 101, 116, 99, 104]), .lit (.string [99, 97, 115]), .lit (.string [111, 117, 116]), .lit (.string [119, 97, 105, 116]), .lit (.string [119, 97, 107, 101]), .lit (.string [114, 101, 109, 111, 116, 101]), .lit (.string [121, 105, 101, 108, 100]), .lit (.string [109, 97, 114, 107])]
def laid_deadlatch_obj_names {H : Type} : DataW H := .agg [.lit (.string []), .lit (.string [116, 97, 115]), .lit (.string [116, 116, 97, 115]), .lit (.string [116, 105, 99, 107, 101, 116]), .lit (.string [109, 99, 115]), .lit (.string [99, 108, 104]), .lit (.string [112, 101, 116, 101, 114, 115, 111, 110]), .lit (.string [100, 101, 107, 107, 101, 114]), .lit (.string [98, 105, 97, 115]), .lit (.string [115, 101, 113]), .lit (.string [109, 117, 116, 101, 120]), .lit (.string [115, 101, 109]), .lit (.string [99, 111, 110, 100]), .lit (.string [98, 97, 114, 114, 105, 101, 114]), .lit (.string [114, 119]), .lit (.string [111, 110, 99, 101])]

/-- 'deadlatchlaw18.BiasFree': WHATEVER THE INPUT: true; the input reads as it did. -/
def biasFreeSpec : ChangeSpec := { name := "biasFree", fn := fun _ => fun
  | [d1, d2] => { results := [.lit (.bool true)], args := [d1, d2] }
  | _ => none }
def biasFreeRow : OpenClaim := { program := "ytipepbfpfmadaaagreatdoor", sum := "983016d8c56cf275eb2553cfce5101b02e288c7985f6633f58b363105d130131", func := "deadlatch/deadlatchlaw18.BiasFree", spec := "biasFree", unfollowed := true, recurses := true, named := ["deadlatch/obj.names", "deadlatch/isa.uses", "deadlatch/isa.names"], apart := false, laid := [("deadlatch/isa.uses", laid_deadlatch_isa_uses), ("deadlatch/isa.names", laid_deadlatch_isa_names), ("deadlatch/obj.names", laid_deadlatch_obj_names)] }
def BiasFreeSaid : Prop := biasFreeRow.holds Tryz.pinned (OpenSpec.ofChange biasFreeSpec)

/-- ITS FALSE NEIGHBOUR: 'it returns false'. Refute it at one input. -/
def biasFreeWrong : ChangeSpec := { name := "biasFree", fn := fun _ => fun
  | [d1, d2] => { results := [.lit (.bool false)], args := [d1, d2] }
  | _ => none }
def BiasFreeWrongFalsely : Prop := biasFreeRow.holds Tryz.pinned (OpenSpec.ofChange biasFreeWrong)

/-- 'deadlatchlaw17.DuoNeeds': WHATEVER THE INPUT: true; the input reads as it did. -/
def duoNeedsSpec : ChangeSpec := { name := "duoNeeds", fn := fun _ => fun
  | [d] => { results := [.lit (.bool true)], args := [d] }
  | _ => none }
def duoNeedsRow : OpenClaim := { program := "ytipepbfpfmadaaagreatdoor", sum := "983016d8c56cf275eb2553cfce5101b02e288c7985f6633f58b363105d130131", func := "deadlatch/deadlatchlaw17.DuoNeeds", spec := "duoNeeds", unfollowed := true, recurses := true, named := ["deadlatch/obj.names", "deadlatch/isa.uses", "deadlatch/isa.names"], apart := false, laid := [("deadlatch/isa.uses", laid_deadlatch_isa_uses), ("deadlatch/isa.names", laid_deadlatch_isa_names), ("deadlatch/obj.names", laid_deadlatch_obj_names)] }
def DuoNeedsSaid : Prop := duoNeedsRow.holds Tryz.pinned (OpenSpec.ofChange duoNeedsSpec)

/-- ITS FALSE NEIGHBOUR: 'it returns false'. Refute it at one input. -/
def duoNeedsWrong : ChangeSpec := { name := "duoNeeds", fn := fun _ => fun
  | [d] => { results := [.lit (.bool false)], args := [d] }
  | _ => none }
def DuoNeedsWrongFalsely : Prop := duoNeedsRow.holds Tryz.pinned (OpenSpec.ofChange duoNeedsWrong)

/-- 'deadlatchlaw15.SpinOne': WHATEVER THE INPUT: true; the input reads as it did. -/
def spinOneSpec : ChangeSpec := { name := "spinOne", fn := fun _ => fun
  | [d1, d2] => { results := [.lit (.bool true)], args := [d1, d2] }
  | _ => none }
def spinOneRow : OpenClaim := { program := "ytipepbfpfmadaaagreatdoor", sum := "983016d8c56cf275eb2553cfce5101b02e288c7985f6633f58b363105d130131", func := "deadlatch/deadlatchlaw15.SpinOne", spec := "spinOne", unfollowed := true, recurses := true, named := ["deadlatch/obj.names", "deadlatch/isa.uses", "deadlatch/isa.names"], apart := false, laid := [("deadlatch/isa.uses", laid_deadlatch_isa_uses), ("deadlatch/isa.names", laid_deadlatch_isa_names), ("deadlatch/obj.names", laid_deadlatch_obj_names)] }
def SpinOneSaid : Prop := spinOneRow.holds Tryz.pinned (OpenSpec.ofChange spinOneSpec)

/-- ITS FALSE NEIGHBOUR: 'it returns false'. Refute it at one input. -/
def spinOneWrong : ChangeSpec := { name := "spinOne", fn := fun _ => fun
  | [d1, d2] => { results := [.lit (.bool false)], args := [d1, d2] }
  | _ => none }
def SpinOneWrongFalsely : Prop := spinOneRow.holds Tryz.pinned (OpenSpec.ofChange spinOneWrong)

/-- 'deadlatchlaw18.BiasOne': WHATEVER THE INPUT: true; the input reads as it did. -/
def biasOneSpec : ChangeSpec := { name := "biasOne", fn := fun _ => fun
  | [d1, d2] => { results := [.lit (.bool true)], args := [d1, d2] }
  | _ => none }
def biasOneRow : OpenClaim := { program := "ytipepbfpfmadaaagreatdoor", sum := "983016d8c56cf275eb2553cfce5101b02e288c7985f6633f58b363105d130131", func := "deadlatch/deadlatchlaw18.BiasOne", spec := "biasOne", unfollowed := true, recurses := true, named := ["deadlatch/obj.names", "deadlatch/isa.uses", "deadlatch/isa.names"], apart := false, laid := [("deadlatch/isa.uses", laid_deadlatch_isa_uses), ("deadlatch/isa.names", laid_deadlatch_isa_names), ("deadlatch/obj.names", laid_deadlatch_obj_names)] }
def BiasOneSaid : Prop := biasOneRow.holds Tryz.pinned (OpenSpec.ofChange biasOneSpec)

/-- ITS FALSE NEIGHBOUR: 'it returns false'. Refute it at one input. -/
def biasOneWrong : ChangeSpec := { name := "biasOne", fn := fun _ => fun
  | [d1, d2] => { results := [.lit (.bool false)], args := [d1, d2] }
  | _ => none }
def BiasOneWrongFalsely : Prop := biasOneRow.holds Tryz.pinned (OpenSpec.ofChange biasOneWrong)

/-- 'deadlatchlaw17.DuoOne': WHATEVER THE INPUT: true; the input reads as it did. -/
def duoOneSpec : ChangeSpec := { name := "duoOne", fn := fun _ => fun
  | [d1, d2] => { results := [.lit (.bool true)], args := [d1, d2] }
  | _ => none }
def duoOneRow : OpenClaim := { program := "ytipepbfpfmadaaagreatdoor", sum := "983016d8c56cf275eb2553cfce5101b02e288c7985f6633f58b363105d130131", func := "deadlatch/deadlatchlaw17.DuoOne", spec := "duoOne", unfollowed := true, recurses := true, named := ["deadlatch/obj.names", "deadlatch/isa.uses", "deadlatch/isa.names"], apart := false, laid := [("deadlatch/isa.uses", laid_deadlatch_isa_uses), ("deadlatch/isa.names", laid_deadlatch_isa_names), ("deadlatch/obj.names", laid_deadlatch_obj_names)] }
def DuoOneSaid : Prop := duoOneRow.holds Tryz.pinned (OpenSpec.ofChange duoOneSpec)

/-- ITS FALSE NEIGHBOUR: 'it returns false'. Refute it at one input. -/
def duoOneWrong : ChangeSpec := { name := "duoOne", fn := fun _ => fun
  | [d1, d2] => { results := [.lit (.bool false)], args := [d1, d2] }
  | _ => none }
def DuoOneWrongFalsely : Prop := duoOneRow.holds Tryz.pinned (OpenSpec.ofChange duoOneWrong)

/- THE SECOND FORM. 'bulk': how many values and letters a reading holds, each counted each time it is reached (what is shared counts as often as it is met; a slice's spare places count too). A statement '..UptoSaid' is the law's where the arguments, and the package variables that the reading takes, are together of bulk at most 1048576: NARROWER than '..Said'. Prove '..Said' where nothing that the law and all that it calls make is longer than what came in: it says more and counts as full. Else prove '..UptoSaid'. A law counts once. -/
mutual
def uptoBulk {H : Type} : DataW H → Nat
  | .lit (.string bytes) => bytes.length + 1
  | .lit _ => 1
  | .nil => 1
  | .ptr d => uptoBulk d + 1
  | .slice elems spare => uptoBulkAll elems + uptoBulkAll spare + 1
  | .agg parts => uptoBulkAll parts + 1
  | .iface _ d => uptoBulk d + 1
  | .map entries => uptoBulkEntries entries + 1
  | .held _ => 1
def uptoBulkAll {H : Type} : List (DataW H) → Nat
  | [] => 0
  | d :: r => uptoBulk d + uptoBulkAll r
def uptoBulkEntries {H : Type} : List (Lit × DataW H) → Nat
  | [] => 0
  | x :: r => uptoBulkEntry x + uptoBulkEntries r
def uptoBulkEntry {H : Type} : Lit × DataW H → Nat
  | (.string bytes, d) => bytes.length + uptoBulk d + 1
  | (_, d) => uptoBulk d + 1
 end
def uptoSmall : (H : Type) → List (DataW H) → Bool := fun _ ds => decide (uptoBulkAll ds ≤ 1048576)
def OpenSpec.upto (s : _root_.Go.ChangeSpec) : _root_.Go.OpenSpec := { _root_.Go.OpenSpec.ofChange s with cond := some uptoSmall }

/-- 'deadlatchlaw18.BiasFree', WHERE WHAT IT READS IS OF BULK AT MOST 1048576: true; the input reads as it did. -/
def biasFreeUptoRow : OpenClaim := { program := "ytipepbfpfmadaaagreatdoor", sum := "983016d8c56cf275eb2553cfce5101b02e288c7985f6633f58b363105d130131", func := "deadlatch/deadlatchlaw18.BiasFree", spec := "biasFree", unfollowed := true, recurses := true, named := ["deadlatch/obj.names", "deadlatch/isa.uses", "deadlatch/isa.names"], apart := false, laid := [("deadlatch/isa.uses", laid_deadlatch_isa_uses), ("deadlatch/isa.names", laid_deadlatch_isa_names), ("deadlatch/obj.names", laid_deadlatch_obj_names)], narrowed := true }
def BiasFreeUptoSaid : Prop := biasFreeUptoRow.holds Tryz.pinned (OpenSpec.upto biasFreeSpec)

/-- 'deadlatchlaw17.DuoNeeds', WHERE WHAT IT READS IS OF BULK AT MOST 1048576: true; the input reads as it did. -/
def duoNeedsUptoRow : OpenClaim := { program := "ytipepbfpfmadaaagreatdoor", sum := "983016d8c56cf275eb2553cfce5101b02e288c7985f6633f58b363105d130131", func := "deadlatch/deadlatchlaw17.DuoNeeds", spec := "duoNeeds", unfollowed := true, recurses := true, named := ["deadlatch/obj.names", "deadlatch/isa.uses", "deadlatch/isa.names"], apart := false, laid := [("deadlatch/isa.uses", laid_deadlatch_isa_uses), ("deadlatch/isa.names", laid_deadlatch_isa_names), ("deadlatch/obj.names", laid_deadlatch_obj_names)], narrowed := true }
def DuoNeedsUptoSaid : Prop := duoNeedsUptoRow.holds Tryz.pinned (OpenSpec.upto duoNeedsSpec)

/-- 'deadlatchlaw15.SpinOne', WHERE WHAT IT READS IS OF BULK AT MOST 1048576: true; the input reads as it did. -/
def spinOneUptoRow : OpenClaim := { program := "ytipepbfpfmadaaagreatdoor", sum := "983016d8c56cf275eb2553cfce5101b02e288c7985f6633f58b363105d130131", func := "deadlatch/deadlatchlaw15.SpinOne", spec := "spinOne", unfollowed := true, recurses := true, named := ["deadlatch/obj.names", "deadlatch/isa.uses", "deadlatch/isa.names"], apart := false, laid := [("deadlatch/isa.uses", laid_deadlatch_isa_uses), ("deadlatch/isa.names", laid_deadlatch_isa_names), ("deadlatch/obj.names", laid_deadlatch_obj_names)], narrowed := true }
def SpinOneUptoSaid : Prop := spinOneUptoRow.holds Tryz.pinned (OpenSpec.upto spinOneSpec)

/-- 'deadlatchlaw18.BiasOne', WHERE WHAT IT READS IS OF BULK AT MOST 1048576: true; the input reads as it did. -/
def biasOneUptoRow : OpenClaim := { program := "ytipepbfpfmadaaagreatdoor", sum := "983016d8c56cf275eb2553cfce5101b02e288c7985f6633f58b363105d130131", func := "deadlatch/deadlatchlaw18.BiasOne", spec := "biasOne", unfollowed := true, recurses := true, named := ["deadlatch/obj.names", "deadlatch/isa.uses", "deadlatch/isa.names"], apart := false, laid := [("deadlatch/isa.uses", laid_deadlatch_isa_uses), ("deadlatch/isa.names", laid_deadlatch_isa_names), ("deadlatch/obj.names", laid_deadlatch_obj_names)], narrowed := true }
def BiasOneUptoSaid : Prop := biasOneUptoRow.holds Tryz.pinned (OpenSpec.upto biasOneSpec)

/-- 'deadlatchlaw17.DuoOne', WHERE WHAT IT READS IS OF BULK AT MOST 1048576: true; the input reads as it did. -/
def duoOneUptoRow : OpenClaim := { program := "ytipepbfpfmadaaagreatdoor", sum := "983016d8c56cf275eb2553cfce5101b02e288c7985f6633f58b363105d130131", func := "deadlatch/deadlatchlaw17.DuoOne", spec := "duoOne", unfollowed := true, recurses := true, named := ["deadlatch/obj.names", "deadlatch/isa.uses", "deadlatch/isa.names"], apart := false, laid := [("deadlatch/isa.uses", laid_deadlatch_isa_uses), ("deadlatch/isa.names", laid_deadlatch_isa_names), ("deadlatch/obj.names", laid_deadlatch_obj_names)], narrowed := true }
def DuoOneUptoSaid : Prop := duoOneUptoRow.holds Tryz.pinned (OpenSpec.upto duoOneSpec)

end Rows
end Go.Proofs.YtipepbfpfmadaaaGreatDoor
