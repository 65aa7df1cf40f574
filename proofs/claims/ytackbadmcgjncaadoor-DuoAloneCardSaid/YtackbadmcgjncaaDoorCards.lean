/-
  DERIVED. GIVEN WITH THE SEED: THE CARDS: each row of YtackbadmcgjncaaDoorRows.lean that lists a variable, with what it lists TIED to the program's text (the seventh form; the later family's looks); each row that meets fmt, with fmt's text TOLD by the authors' own Lean function (tested against real Go, not proved from fmt's source: count such statements apart). THE CARD IS WHAT COUNTS. Prove the row's statement (the work); the ties are given (YtackbadmcgjncaaDoorTie.lean); close each card by the builder's one call (the guide's Derived/Test/ToyasCard.lean, 'card_holds'). Laid BY PROGRAM, IN A SANDBOX (cutbox-door.mjs). By AI agents, Wed Nov 11 2026. No macro, syntax, notation, axiom, sorry.
-/
import Derived.Test.YtackbadmcgjncaaDoorRows
import GoSem.ClaimSeven
namespace Go.Proofs.YtackbadmcgjncaaDoor
namespace Rows

/-- THE TIED CARD OF 'deadlatchlaw15.SpinAlone'. -/
def spinAloneCard : Claim7 := { stood := { row := spinAloneRow, standIns := [], harness := (true, "47bfb38f77783049df7428bcda99db380832d7db33e7837df64c9668f50680b1"), looks := false }, kinds := [], alts := [], laidByText := true, laidKinds := [.data, .data, .widerDeep], laidTests := true, laidLooks := .later }
def SpinAloneCardSaid : Prop := Claim7.holds Tryd.pinned (.plain (OpenSpec.ofChange spinAloneSpec)) spinAloneCard

/-- THE TIED CARD OF 'deadlatchlaw18.BiasAlone'. -/
def biasAloneCard : Claim7 := { stood := { row := biasAloneRow, standIns := [], harness := (true, "47bfb38f77783049df7428bcda99db380832d7db33e7837df64c9668f50680b1"), looks := false }, kinds := [], alts := [], laidByText := true, laidKinds := [.data, .data, .widerDeep], laidTests := true, laidLooks := .later }
def BiasAloneCardSaid : Prop := Claim7.holds Tryd.pinned (.plain (OpenSpec.ofChange biasAloneSpec)) biasAloneCard

/-- THE TIED CARD OF 'deadlatchlaw17.DuoAlone'. -/
def duoAloneCard : Claim7 := { stood := { row := duoAloneRow, standIns := [], harness := (true, "47bfb38f77783049df7428bcda99db380832d7db33e7837df64c9668f50680b1"), looks := false }, kinds := [], alts := [], laidByText := true, laidKinds := [.data, .data, .widerDeep], laidTests := true, laidLooks := .later }
def DuoAloneCardSaid : Prop := Claim7.holds Tryd.pinned (.plain (OpenSpec.ofChange duoAloneSpec)) duoAloneCard

/-- THE SECOND FORM's CARD OF 'deadlatchlaw15.SpinAlone'. -/
def spinAloneUptoCard : Claim7 := { stood := { row := spinAloneUptoRow, standIns := [], harness := (true, "47bfb38f77783049df7428bcda99db380832d7db33e7837df64c9668f50680b1"), looks := false }, kinds := [], alts := [], laidByText := true, laidKinds := [.data, .data, .widerDeep], laidTests := true, laidLooks := .later }
def SpinAloneUptoCardSaid : Prop := Claim7.holds Tryd.pinned (.plain (OpenSpec.upto spinAloneSpec)) spinAloneUptoCard

/-- THE SECOND FORM's CARD OF 'deadlatchlaw18.BiasAlone'. -/
def biasAloneUptoCard : Claim7 := { stood := { row := biasAloneUptoRow, standIns := [], harness := (true, "47bfb38f77783049df7428bcda99db380832d7db33e7837df64c9668f50680b1"), looks := false }, kinds := [], alts := [], laidByText := true, laidKinds := [.data, .data, .widerDeep], laidTests := true, laidLooks := .later }
def BiasAloneUptoCardSaid : Prop := Claim7.holds Tryd.pinned (.plain (OpenSpec.upto biasAloneSpec)) biasAloneUptoCard

/-- THE SECOND FORM's CARD OF 'deadlatchlaw17.DuoAlone'. -/
def duoAloneUptoCard : Claim7 := { stood := { row := duoAloneUptoRow, standIns := [], harness := (true, "47bfb38f77783049df7428bcda99db380832d7db33e7837df64c9668f50680b1"), looks := false }, kinds := [], alts := [], laidByText := true, laidKinds := [.data, .data, .widerDeep], laidTests := true, laidLooks := .later }
def DuoAloneUptoCardSaid : Prop := Claim7.holds Tryd.pinned (.plain (OpenSpec.upto duoAloneSpec)) duoAloneUptoCard
end Rows
end Go.Proofs.YtackbadmcgjncaaDoor
