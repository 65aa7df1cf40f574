/-
  DERIVED. GIVEN WITH THE SEED: THE CARDS: each row of YtackbadmcgjncaaGreatDoorRows.lean that lists a variable, with what it lists TIED to the program's text (the seventh form; the later family's looks); each row that meets fmt, with fmt's text TOLD by the authors' own Lean function (tested against real Go, not proved from fmt's source: count such statements apart). THE CARD IS WHAT COUNTS. Prove the row's statement (the work); the ties are given (YtackbadmcgjncaaGreatDoorTie.lean); close each card by the builder's one call (the guide's Derived/Test/ToyasCard.lean, 'card_holds'). Laid BY PROGRAM, IN A SANDBOX (cutbox-door.mjs). By AI agents, Wed Nov 11 2026. No macro, syntax, notation, axiom, sorry.
-/
import Derived.Test.YtackbadmcgjncaaGreatDoorRows
import GoSem.ClaimSeven
namespace Go.Proofs.YtackbadmcgjncaaGreatDoor
namespace Rows

/-- THE TIED CARD OF 'deadlatchlaw16.QueueAlone'. -/
def queueAloneCard : Claim7 := { stood := { row := queueAloneRow, standIns := [], harness := (true, "5ee4eea8c465e414950f8fc2df5035bc591bb2ac9c80616474a6d4ab77424091"), looks := false }, kinds := [], alts := [], laidByText := true, laidKinds := [.data, .data, .widerDeep], laidTests := true, laidLooks := .later }
def QueueAloneCardSaid : Prop := Claim7.holds Tryz.pinned (.plain (OpenSpec.ofChange queueAloneSpec)) queueAloneCard

/-- THE TIED CARD OF 'deadlatchlaw17.DuoNeeds'. -/
def duoNeedsCard : Claim7 := { stood := { row := duoNeedsRow, standIns := [], harness := (true, "5ee4eea8c465e414950f8fc2df5035bc591bb2ac9c80616474a6d4ab77424091"), looks := false }, kinds := [], alts := [], laidByText := true, laidKinds := [.data, .data, .widerDeep], laidTests := true, laidLooks := .later }
def DuoNeedsCardSaid : Prop := Claim7.holds Tryz.pinned (.plain (OpenSpec.ofChange duoNeedsSpec)) duoNeedsCard

/-- THE SECOND FORM's CARD OF 'deadlatchlaw16.QueueAlone'. -/
def queueAloneUptoCard : Claim7 := { stood := { row := queueAloneUptoRow, standIns := [], harness := (true, "5ee4eea8c465e414950f8fc2df5035bc591bb2ac9c80616474a6d4ab77424091"), looks := false }, kinds := [], alts := [], laidByText := true, laidKinds := [.data, .data, .widerDeep], laidTests := true, laidLooks := .later }
def QueueAloneUptoCardSaid : Prop := Claim7.holds Tryz.pinned (.plain (OpenSpec.upto queueAloneSpec)) queueAloneUptoCard

/-- THE SECOND FORM's CARD OF 'deadlatchlaw17.DuoNeeds'. -/
def duoNeedsUptoCard : Claim7 := { stood := { row := duoNeedsUptoRow, standIns := [], harness := (true, "5ee4eea8c465e414950f8fc2df5035bc591bb2ac9c80616474a6d4ab77424091"), looks := false }, kinds := [], alts := [], laidByText := true, laidKinds := [.data, .data, .widerDeep], laidTests := true, laidLooks := .later }
def DuoNeedsUptoCardSaid : Prop := Claim7.holds Tryz.pinned (.plain (OpenSpec.upto duoNeedsSpec)) duoNeedsUptoCard
end Rows
end Go.Proofs.YtackbadmcgjncaaGreatDoor
