/-
  DERIVED. GIVEN WITH THE SEED: THE CARDS: each row of YtcnmhgblbikfkaaGreatDoorRows.lean that lists a variable, with what it lists TIED to the program's text (the seventh form; the later family's looks); each row that meets fmt, with fmt's text TOLD by the authors' own Lean function (tested against real Go, not proved from fmt's source: count such statements apart). THE CARD IS WHAT COUNTS. Prove the row's statement (the work); the ties are given (YtcnmhgblbikfkaaGreatDoorTie.lean); close each card by the builder's one call (the guide's Derived/Test/ToyasCard.lean, 'card_holds'). Laid BY PROGRAM, IN A SANDBOX (cutbox-door.mjs). By AI agents, Wed Nov 11 2026. No macro, syntax, notation, axiom, sorry.
-/
import Derived.Test.YtcnmhgblbikfkaaGreatDoorRows
import GoSem.ClaimSeven
namespace Go.Proofs.YtcnmhgblbikfkaaGreatDoor
namespace Rows

/-- THE TIED CARD OF 'deadlatchlaw20.MutexCode'. -/
def mutexCodeCard : Claim7 := { stood := { row := mutexCodeRow, standIns := [], harness := (true, "f05a72e83c38bc3174378dcfb321efda41096c9bca5a8557510d1e6bd1003915"), looks := true }, kinds := [], alts := [], laidByText := true, laidKinds := [.data, .data, .widerDeep], laidTests := true, laidLooks := .later }
def MutexCodeCardSaid : Prop := Claim7.holds Tryz.pinned (.plain (OpenSpec.ofChange mutexCodeSpec)) mutexCodeCard

/-- THE TIED CARD OF 'deadlatchlaw20.MutexSem'. -/
def mutexSemCard : Claim7 := { stood := { row := mutexSemRow, standIns := [], harness := (true, "f05a72e83c38bc3174378dcfb321efda41096c9bca5a8557510d1e6bd1003915"), looks := true }, kinds := [], alts := [], laidByText := true, laidKinds := [.data, .data, .widerDeep], laidTests := true, laidLooks := .later }
def MutexSemCardSaid : Prop := Claim7.holds Tryz.pinned (.plain (OpenSpec.ofChange mutexSemSpec)) mutexSemCard

/-- THE TIED CARD OF 'deadlatchlaw20.MutexOne'. -/
def mutexOneCard : Claim7 := { stood := { row := mutexOneRow, standIns := [], harness := (true, "f05a72e83c38bc3174378dcfb321efda41096c9bca5a8557510d1e6bd1003915"), looks := true }, kinds := [], alts := [], laidByText := true, laidKinds := [.data, .data, .widerDeep], laidTests := true, laidLooks := .later }
def MutexOneCardSaid : Prop := Claim7.holds Tryz.pinned (.plain (OpenSpec.ofChange mutexOneSpec)) mutexOneCard

/-- THE TIED CARD OF 'deadlatchlaw20.MutexGives'. -/
def mutexGivesCard : Claim7 := { stood := { row := mutexGivesRow, standIns := [], harness := (true, "f05a72e83c38bc3174378dcfb321efda41096c9bca5a8557510d1e6bd1003915"), looks := true }, kinds := [], alts := [], laidByText := true, laidKinds := [.data, .data, .widerDeep], laidTests := true, laidLooks := .later }
def MutexGivesCardSaid : Prop := Claim7.holds Tryz.pinned (.plain (OpenSpec.ofChange mutexGivesSpec)) mutexGivesCard

/-- THE TIED CARD OF 'deadlatchlaw20.MutexAlone'. -/
def mutexAloneCard : Claim7 := { stood := { row := mutexAloneRow, standIns := [], harness := (true, "f05a72e83c38bc3174378dcfb321efda41096c9bca5a8557510d1e6bd1003915"), looks := true }, kinds := [], alts := [], laidByText := true, laidKinds := [.data, .data, .widerDeep], laidTests := true, laidLooks := .later }
def MutexAloneCardSaid : Prop := Claim7.holds Tryz.pinned (.plain (OpenSpec.ofChange mutexAloneSpec)) mutexAloneCard

/-- THE TIED CARD OF 'deadlatchlaw20.MutexEnds'. -/
def mutexEndsCard : Claim7 := { stood := { row := mutexEndsRow, standIns := [], harness := (true, "f05a72e83c38bc3174378dcfb321efda41096c9bca5a8557510d1e6bd1003915"), looks := true }, kinds := [], alts := [], laidByText := true, laidKinds := [.data, .data, .widerDeep], laidTests := true, laidLooks := .later }
def MutexEndsCardSaid : Prop := Claim7.holds Tryz.pinned (.plain (OpenSpec.ofChange mutexEndsSpec)) mutexEndsCard

/-- THE SECOND FORM's CARD OF 'deadlatchlaw20.MutexCode'. -/
def mutexCodeUptoCard : Claim7 := { stood := { row := mutexCodeUptoRow, standIns := [], harness := (true, "f05a72e83c38bc3174378dcfb321efda41096c9bca5a8557510d1e6bd1003915"), looks := true }, kinds := [], alts := [], laidByText := true, laidKinds := [.data, .data, .widerDeep], laidTests := true, laidLooks := .later }
def MutexCodeUptoCardSaid : Prop := Claim7.holds Tryz.pinned (.plain (OpenSpec.upto mutexCodeSpec)) mutexCodeUptoCard

/-- THE SECOND FORM's CARD OF 'deadlatchlaw20.MutexSem'. -/
def mutexSemUptoCard : Claim7 := { stood := { row := mutexSemUptoRow, standIns := [], harness := (true, "f05a72e83c38bc3174378dcfb321efda41096c9bca5a8557510d1e6bd1003915"), looks := true }, kinds := [], alts := [], laidByText := true, laidKinds := [.data, .data, .widerDeep], laidTests := true, laidLooks := .later }
def MutexSemUptoCardSaid : Prop := Claim7.holds Tryz.pinned (.plain (OpenSpec.upto mutexSemSpec)) mutexSemUptoCard

/-- THE SECOND FORM's CARD OF 'deadlatchlaw20.MutexOne'. -/
def mutexOneUptoCard : Claim7 := { stood := { row := mutexOneUptoRow, standIns := [], harness := (true, "f05a72e83c38bc3174378dcfb321efda41096c9bca5a8557510d1e6bd1003915"), looks := true }, kinds := [], alts := [], laidByText := true, laidKinds := [.data, .data, .widerDeep], laidTests := true, laidLooks := .later }
def MutexOneUptoCardSaid : Prop := Claim7.holds Tryz.pinned (.plain (OpenSpec.upto mutexOneSpec)) mutexOneUptoCard

/-- THE SECOND FORM's CARD OF 'deadlatchlaw20.MutexGives'. -/
def mutexGivesUptoCard : Claim7 := { stood := { row := mutexGivesUptoRow, standIns := [], harness := (true, "f05a72e83c38bc3174378dcfb321efda41096c9bca5a8557510d1e6bd1003915"), looks := true }, kinds := [], alts := [], laidByText := true, laidKinds := [.data, .data, .widerDeep], laidTests := true, laidLooks := .later }
def MutexGivesUptoCardSaid : Prop := Claim7.holds Tryz.pinned (.plain (OpenSpec.upto mutexGivesSpec)) mutexGivesUptoCard

/-- THE SECOND FORM's CARD OF 'deadlatchlaw20.MutexAlone'. -/
def mutexAloneUptoCard : Claim7 := { stood := { row := mutexAloneUptoRow, standIns := [], harness := (true, "f05a72e83c38bc3174378dcfb321efda41096c9bca5a8557510d1e6bd1003915"), looks := true }, kinds := [], alts := [], laidByText := true, laidKinds := [.data, .data, .widerDeep], laidTests := true, laidLooks := .later }
def MutexAloneUptoCardSaid : Prop := Claim7.holds Tryz.pinned (.plain (OpenSpec.upto mutexAloneSpec)) mutexAloneUptoCard

/-- THE SECOND FORM's CARD OF 'deadlatchlaw20.MutexEnds'. -/
def mutexEndsUptoCard : Claim7 := { stood := { row := mutexEndsUptoRow, standIns := [], harness := (true, "f05a72e83c38bc3174378dcfb321efda41096c9bca5a8557510d1e6bd1003915"), looks := true }, kinds := [], alts := [], laidByText := true, laidKinds := [.data, .data, .widerDeep], laidTests := true, laidLooks := .later }
def MutexEndsUptoCardSaid : Prop := Claim7.holds Tryz.pinned (.plain (OpenSpec.upto mutexEndsSpec)) mutexEndsUptoCard
end Rows
end Go.Proofs.YtcnmhgblbikfkaaGreatDoor
