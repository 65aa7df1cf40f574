/-
  DERIVED. GIVEN WITH THE SEED: THE CARDS: each row of YtmohjegcecimfaaDoorRows.lean that lists a variable, with what it lists TIED to the program's text (the seventh form; the later family's looks); each row that meets fmt, with fmt's text TOLD by the authors' own Lean function (tested against real Go, not proved from fmt's source: count such statements apart). THE CARD IS WHAT COUNTS. Prove the row's statement (the work); the ties are given (YtmohjegcecimfaaDoorTie.lean); close each card by the builder's one call (the guide's Derived/Test/ToyasCard.lean, 'card_holds'). Laid BY PROGRAM, IN A SANDBOX (cutbox-door.mjs). By AI agents, Wed Nov 11 2026. No macro, syntax, notation, axiom, sorry.
-/
import Derived.Test.YtmohjegcecimfaaDoorRows
import GoSem.ClaimSeven
namespace Go.Proofs.YtmohjegcecimfaaDoor
namespace Rows

/-- THE TIED CARD OF 'deadlatchlaw15.SpinCode'. -/
def spinCodeCard : Claim7 := { stood := { row := spinCodeRow, standIns := [], harness := (true, "3378c89452e17d6a22335255f91e9dfeb2a594204d7b94fca53529d87245b632"), looks := false }, kinds := [], alts := [], laidByText := true, laidKinds := [.data, .data, .widerDeep], laidTests := true, laidLooks := .later }
def SpinCodeCardSaid : Prop := Claim7.holds Tryd.pinned (.plain (OpenSpec.ofChange spinCodeSpec)) spinCodeCard

/-- THE TIED CARD OF 'deadlatchlaw15.SpinParts'. -/
def spinPartsCard : Claim7 := { stood := { row := spinPartsRow, standIns := [], harness := (true, "3378c89452e17d6a22335255f91e9dfeb2a594204d7b94fca53529d87245b632"), looks := false }, kinds := [], alts := [], laidByText := true, laidKinds := [.data, .data, .widerDeep], laidTests := true, laidLooks := .later }
def SpinPartsCardSaid : Prop := Claim7.holds Tryd.pinned (.plain (OpenSpec.ofChange spinPartsSpec)) spinPartsCard

/-- THE TIED CARD OF 'deadlatchlaw18.BiasCode'. -/
def biasCodeCard : Claim7 := { stood := { row := biasCodeRow, standIns := [], harness := (true, "3378c89452e17d6a22335255f91e9dfeb2a594204d7b94fca53529d87245b632"), looks := false }, kinds := [], alts := [], laidByText := true, laidKinds := [.data, .data, .widerDeep], laidTests := true, laidLooks := .later }
def BiasCodeCardSaid : Prop := Claim7.holds Tryd.pinned (.plain (OpenSpec.ofChange biasCodeSpec)) biasCodeCard

/-- THE TIED CARD OF 'deadlatchlaw17.DuoCode'. -/
def duoCodeCard : Claim7 := { stood := { row := duoCodeRow, standIns := [], harness := (true, "3378c89452e17d6a22335255f91e9dfeb2a594204d7b94fca53529d87245b632"), looks := false }, kinds := [], alts := [], laidByText := true, laidKinds := [.data, .data, .widerDeep], laidTests := true, laidLooks := .later }
def DuoCodeCardSaid : Prop := Claim7.holds Tryd.pinned (.plain (OpenSpec.ofChange duoCodeSpec)) duoCodeCard

/-- THE TIED CARD OF 'deadlatchlaw17.DuoWeak'. -/
def duoWeakCard : Claim7 := { stood := { row := duoWeakRow, standIns := [], harness := (true, "3378c89452e17d6a22335255f91e9dfeb2a594204d7b94fca53529d87245b632"), looks := false }, kinds := [], alts := [], laidByText := true, laidKinds := [.data, .data, .widerDeep], laidTests := true, laidLooks := .later }
def DuoWeakCardSaid : Prop := Claim7.holds Tryd.pinned (.plain (OpenSpec.ofChange duoWeakSpec)) duoWeakCard

/-- THE TIED CARD OF 'deadlatchlaw16.QueueCode'. -/
def queueCodeCard : Claim7 := { stood := { row := queueCodeRow, standIns := [], harness := (true, "3378c89452e17d6a22335255f91e9dfeb2a594204d7b94fca53529d87245b632"), looks := false }, kinds := [], alts := [], laidByText := true, laidKinds := [.data, .data, .widerDeep], laidTests := true, laidLooks := .later }
def QueueCodeCardSaid : Prop := Claim7.holds Tryd.pinned (.plain (OpenSpec.ofChange queueCodeSpec)) queueCodeCard

/-- THE SECOND FORM's CARD OF 'deadlatchlaw15.SpinCode'. -/
def spinCodeUptoCard : Claim7 := { stood := { row := spinCodeUptoRow, standIns := [], harness := (true, "3378c89452e17d6a22335255f91e9dfeb2a594204d7b94fca53529d87245b632"), looks := false }, kinds := [], alts := [], laidByText := true, laidKinds := [.data, .data, .widerDeep], laidTests := true, laidLooks := .later }
def SpinCodeUptoCardSaid : Prop := Claim7.holds Tryd.pinned (.plain (OpenSpec.upto spinCodeSpec)) spinCodeUptoCard

/-- THE SECOND FORM's CARD OF 'deadlatchlaw15.SpinParts'. -/
def spinPartsUptoCard : Claim7 := { stood := { row := spinPartsUptoRow, standIns := [], harness := (true, "3378c89452e17d6a22335255f91e9dfeb2a594204d7b94fca53529d87245b632"), looks := false }, kinds := [], alts := [], laidByText := true, laidKinds := [.data, .data, .widerDeep], laidTests := true, laidLooks := .later }
def SpinPartsUptoCardSaid : Prop := Claim7.holds Tryd.pinned (.plain (OpenSpec.upto spinPartsSpec)) spinPartsUptoCard

/-- THE SECOND FORM's CARD OF 'deadlatchlaw18.BiasCode'. -/
def biasCodeUptoCard : Claim7 := { stood := { row := biasCodeUptoRow, standIns := [], harness := (true, "3378c89452e17d6a22335255f91e9dfeb2a594204d7b94fca53529d87245b632"), looks := false }, kinds := [], alts := [], laidByText := true, laidKinds := [.data, .data, .widerDeep], laidTests := true, laidLooks := .later }
def BiasCodeUptoCardSaid : Prop := Claim7.holds Tryd.pinned (.plain (OpenSpec.upto biasCodeSpec)) biasCodeUptoCard

/-- THE SECOND FORM's CARD OF 'deadlatchlaw17.DuoCode'. -/
def duoCodeUptoCard : Claim7 := { stood := { row := duoCodeUptoRow, standIns := [], harness := (true, "3378c89452e17d6a22335255f91e9dfeb2a594204d7b94fca53529d87245b632"), looks := false }, kinds := [], alts := [], laidByText := true, laidKinds := [.data, .data, .widerDeep], laidTests := true, laidLooks := .later }
def DuoCodeUptoCardSaid : Prop := Claim7.holds Tryd.pinned (.plain (OpenSpec.upto duoCodeSpec)) duoCodeUptoCard

/-- THE SECOND FORM's CARD OF 'deadlatchlaw17.DuoWeak'. -/
def duoWeakUptoCard : Claim7 := { stood := { row := duoWeakUptoRow, standIns := [], harness := (true, "3378c89452e17d6a22335255f91e9dfeb2a594204d7b94fca53529d87245b632"), looks := false }, kinds := [], alts := [], laidByText := true, laidKinds := [.data, .data, .widerDeep], laidTests := true, laidLooks := .later }
def DuoWeakUptoCardSaid : Prop := Claim7.holds Tryd.pinned (.plain (OpenSpec.upto duoWeakSpec)) duoWeakUptoCard

/-- THE SECOND FORM's CARD OF 'deadlatchlaw16.QueueCode'. -/
def queueCodeUptoCard : Claim7 := { stood := { row := queueCodeUptoRow, standIns := [], harness := (true, "3378c89452e17d6a22335255f91e9dfeb2a594204d7b94fca53529d87245b632"), looks := false }, kinds := [], alts := [], laidByText := true, laidKinds := [.data, .data, .widerDeep], laidTests := true, laidLooks := .later }
def QueueCodeUptoCardSaid : Prop := Claim7.holds Tryd.pinned (.plain (OpenSpec.upto queueCodeSpec)) queueCodeUptoCard
end Rows
end Go.Proofs.YtmohjegcecimfaaDoor
