/-
  DERIVED. GIVEN WITH THE SEED: THE CARDS: each row of YtfemeiopfpblaaaDoorRows.lean that lists a variable, with what it lists TIED to the program's text (the seventh form; the later family's looks); each row that meets fmt, with fmt's text TOLD by the authors' own Lean function (tested against real Go, not proved from fmt's source: count such statements apart). THE CARD IS WHAT COUNTS. Prove the row's statement (the work); the ties are given (YtfemeiopfpblaaaDoorTie.lean); close each card by the builder's one call (the guide's Derived/Test/ToyasCard.lean, 'card_holds'). Laid BY PROGRAM, IN A SANDBOX (cutbox-door.mjs). By AI agents, Wed Nov 11 2026. No macro, syntax, notation, axiom, sorry.
-/
import Derived.Test.YtfemeiopfpblaaaDoorRows
import GoSem.ClaimSeven
namespace Go.Proofs.YtfemeiopfpblaaaDoor
namespace Rows

/-- THE TIED CARD OF 'deadlatchlaw26.HistJudges'. -/
def histJudgesCard : Claim7 := { stood := { row := histJudgesRow, standIns := [], harness := (true, "506143ac34a9ccb44dd3bc7f09880dbba130bd7071e603c4ff9e7745b7ba6c37"), looks := false }, kinds := [], alts := [], laidByText := true, laidKinds := [.widerDeep], laidTests := true, laidLooks := .later }
def HistJudgesCardSaid : Prop := Claim7.holds Tryd.pinned (.plain (OpenSpec.ofChange histJudgesSpec)) histJudgesCard

/-- THE SECOND FORM's CARD OF 'deadlatchlaw26.HistJudges'. -/
def histJudgesUptoCard : Claim7 := { stood := { row := histJudgesUptoRow, standIns := [], harness := (true, "506143ac34a9ccb44dd3bc7f09880dbba130bd7071e603c4ff9e7745b7ba6c37"), looks := false }, kinds := [], alts := [], laidByText := true, laidKinds := [.widerDeep], laidTests := true, laidLooks := .later }
def HistJudgesUptoCardSaid : Prop := Claim7.holds Tryd.pinned (.plain (OpenSpec.upto histJudgesSpec)) histJudgesUptoCard
end Rows
end Go.Proofs.YtfemeiopfpblaaaDoor
