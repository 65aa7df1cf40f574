/-
  DERIVED. GIVEN WITH THE SEED: THE CARDS: each row of YtipepbfpfmadaaaGreatDoorRows.lean that lists a variable, with what it lists TIED to the program's text (the seventh form; the later family's looks); each row that meets fmt, with fmt's text TOLD by the authors' own Lean function (tested against real Go, not proved from fmt's source: count such statements apart). THE CARD IS WHAT COUNTS. Prove the row's statement (the work); the ties are given (YtipepbfpfmadaaaGreatDoorTie.lean); close each card by the builder's one call (the guide's Derived/Test/ToyasCard.lean, 'card_holds'). Laid BY PROGRAM, IN A SANDBOX (cutbox-door.mjs). By AI agents, Wed Nov 11 2026. No macro, syntax, notation, axiom, sorry.
-/
import Derived.Test.YtipepbfpfmadaaaGreatDoorRows
import GoSem.ClaimSeven
namespace Go.Proofs.YtipepbfpfmadaaaGreatDoor
namespace Rows

/-- THE TIED CARD OF 'deadlatchlaw18.BiasFree'. -/
def biasFreeCard : Claim7 := { stood := { row := biasFreeRow, standIns := [], harness := (true, "81e2b36dc802b069c5007ffb141b3ed2d49fb25809dff5cf7ae6d8fe9bca65d3"), looks := false }, kinds := [], alts := [], laidByText := true, laidKinds := [.data, .data, .widerDeep], laidTests := true, laidLooks := .later }
def BiasFreeCardSaid : Prop := Claim7.holds Tryz.pinned (.plain (OpenSpec.ofChange biasFreeSpec)) biasFreeCard

/-- THE TIED CARD OF 'deadlatchlaw17.DuoNeeds'. -/
def duoNeedsCard : Claim7 := { stood := { row := duoNeedsRow, standIns := [], harness := (true, "81e2b36dc802b069c5007ffb141b3ed2d49fb25809dff5cf7ae6d8fe9bca65d3"), looks := false }, kinds := [], alts := [], laidByText := true, laidKinds := [.data, .data, .widerDeep], laidTests := true, laidLooks := .later }
def DuoNeedsCardSaid : Prop := Claim7.holds Tryz.pinned (.plain (OpenSpec.ofChange duoNeedsSpec)) duoNeedsCard

/-- THE TIED CARD OF 'deadlatchlaw15.SpinOne'. -/
def spinOneCard : Claim7 := { stood := { row := spinOneRow, standIns := [], harness := (true, "81e2b36dc802b069c5007ffb141b3ed2d49fb25809dff5cf7ae6d8fe9bca65d3"), looks := false }, kinds := [], alts := [], laidByText := true, laidKinds := [.data, .data, .widerDeep], laidTests := true, laidLooks := .later }
def SpinOneCardSaid : Prop := Claim7.holds Tryz.pinned (.plain (OpenSpec.ofChange spinOneSpec)) spinOneCard

/-- THE TIED CARD OF 'deadlatchlaw18.BiasOne'. -/
def biasOneCard : Claim7 := { stood := { row := biasOneRow, standIns := [], harness := (true, "81e2b36dc802b069c5007ffb141b3ed2d49fb25809dff5cf7ae6d8fe9bca65d3"), looks := false }, kinds := [], alts := [], laidByText := true, laidKinds := [.data, .data, .widerDeep], laidTests := true, laidLooks := .later }
def BiasOneCardSaid : Prop := Claim7.holds Tryz.pinned (.plain (OpenSpec.ofChange biasOneSpec)) biasOneCard

/-- THE TIED CARD OF 'deadlatchlaw17.DuoOne'. -/
def duoOneCard : Claim7 := { stood := { row := duoOneRow, standIns := [], harness := (true, "81e2b36dc802b069c5007ffb141b3ed2d49fb25809dff5cf7ae6d8fe9bca65d3"), looks := false }, kinds := [], alts := [], laidByText := true, laidKinds := [.data, .data, .widerDeep], laidTests := true, laidLooks := .later }
def DuoOneCardSaid : Prop := Claim7.holds Tryz.pinned (.plain (OpenSpec.ofChange duoOneSpec)) duoOneCard

/-- THE SECOND FORM's CARD OF 'deadlatchlaw18.BiasFree'. -/
def biasFreeUptoCard : Claim7 := { stood := { row := biasFreeUptoRow, standIns := [], harness := (true, "81e2b36dc802b069c5007ffb141b3ed2d49fb25809dff5cf7ae6d8fe9bca65d3"), looks := false }, kinds := [], alts := [], laidByText := true, laidKinds := [.data, .data, .widerDeep], laidTests := true, laidLooks := .later }
def BiasFreeUptoCardSaid : Prop := Claim7.holds Tryz.pinned (.plain (OpenSpec.upto biasFreeSpec)) biasFreeUptoCard

/-- THE SECOND FORM's CARD OF 'deadlatchlaw17.DuoNeeds'. -/
def duoNeedsUptoCard : Claim7 := { stood := { row := duoNeedsUptoRow, standIns := [], harness := (true, "81e2b36dc802b069c5007ffb141b3ed2d49fb25809dff5cf7ae6d8fe9bca65d3"), looks := false }, kinds := [], alts := [], laidByText := true, laidKinds := [.data, .data, .widerDeep], laidTests := true, laidLooks := .later }
def DuoNeedsUptoCardSaid : Prop := Claim7.holds Tryz.pinned (.plain (OpenSpec.upto duoNeedsSpec)) duoNeedsUptoCard

/-- THE SECOND FORM's CARD OF 'deadlatchlaw15.SpinOne'. -/
def spinOneUptoCard : Claim7 := { stood := { row := spinOneUptoRow, standIns := [], harness := (true, "81e2b36dc802b069c5007ffb141b3ed2d49fb25809dff5cf7ae6d8fe9bca65d3"), looks := false }, kinds := [], alts := [], laidByText := true, laidKinds := [.data, .data, .widerDeep], laidTests := true, laidLooks := .later }
def SpinOneUptoCardSaid : Prop := Claim7.holds Tryz.pinned (.plain (OpenSpec.upto spinOneSpec)) spinOneUptoCard

/-- THE SECOND FORM's CARD OF 'deadlatchlaw18.BiasOne'. -/
def biasOneUptoCard : Claim7 := { stood := { row := biasOneUptoRow, standIns := [], harness := (true, "81e2b36dc802b069c5007ffb141b3ed2d49fb25809dff5cf7ae6d8fe9bca65d3"), looks := false }, kinds := [], alts := [], laidByText := true, laidKinds := [.data, .data, .widerDeep], laidTests := true, laidLooks := .later }
def BiasOneUptoCardSaid : Prop := Claim7.holds Tryz.pinned (.plain (OpenSpec.upto biasOneSpec)) biasOneUptoCard

/-- THE SECOND FORM's CARD OF 'deadlatchlaw17.DuoOne'. -/
def duoOneUptoCard : Claim7 := { stood := { row := duoOneUptoRow, standIns := [], harness := (true, "81e2b36dc802b069c5007ffb141b3ed2d49fb25809dff5cf7ae6d8fe9bca65d3"), looks := false }, kinds := [], alts := [], laidByText := true, laidKinds := [.data, .data, .widerDeep], laidTests := true, laidLooks := .later }
def DuoOneUptoCardSaid : Prop := Claim7.holds Tryz.pinned (.plain (OpenSpec.upto duoOneSpec)) duoOneUptoCard
end Rows
end Go.Proofs.YtipepbfpfmadaaaGreatDoor
