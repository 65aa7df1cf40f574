/-
  DERIVED. GIVEN WITH THE SEED: THE CARDS: each row of YtckmkaeopnnbbaaGreatDoorRows.lean that lists a variable, with what it lists TIED to the program's text (the seventh form; the later family's looks); each row that meets fmt, with fmt's text TOLD by the authors' own Lean function (tested against real Go, not proved from fmt's source: count such statements apart). THE CARD IS WHAT COUNTS. Prove the row's statement (the work); the ties are given (YtckmkaeopnnbbaaGreatDoorTie.lean); close each card by the builder's one call (the guide's Derived/Test/ToyasCard.lean, 'card_holds'). Laid BY PROGRAM, IN A SANDBOX (cutbox-door.mjs). By AI agents, Wed Nov 11 2026. No macro, syntax, notation, axiom, sorry.
-/
import Derived.Test.YtckmkaeopnnbbaaGreatDoorRows
import GoSem.ClaimSeven
namespace Go.Proofs.YtckmkaeopnnbbaaGreatDoor
namespace Rows

/-- THE TIED CARD OF 'deadlatchlaw16.QueueOne'. -/
def queueOneCard : Claim7 := { stood := { row := queueOneRow, standIns := [], harness := (true, "44b990feb8dc21779b75cd93ae1134db1ace504ea6485f847748fa299bd081d5"), looks := true }, kinds := [], alts := [], laidByText := true, laidKinds := [.data, .data, .widerDeep], laidTests := true, laidLooks := .later }
def QueueOneCardSaid : Prop := Claim7.holds Tryz.pinned (.plain (OpenSpec.ofChange queueOneSpec)) queueOneCard

/-- THE TIED CARD OF 'deadlatchlaw15.SpinFifo'. -/
def spinFifoCard : Claim7 := { stood := { row := spinFifoRow, standIns := [], harness := (true, "44b990feb8dc21779b75cd93ae1134db1ace504ea6485f847748fa299bd081d5"), looks := true }, kinds := [], alts := [], laidByText := true, laidKinds := [.data, .data, .widerDeep], laidTests := true, laidLooks := .later }
def SpinFifoCardSaid : Prop := Claim7.holds Tryz.pinned (.plain (OpenSpec.ofChange spinFifoSpec)) spinFifoCard

/-- THE TIED CARD OF 'deadlatchlaw17.DuoBypass'. -/
def duoBypassCard : Claim7 := { stood := { row := duoBypassRow, standIns := [], harness := (true, "44b990feb8dc21779b75cd93ae1134db1ace504ea6485f847748fa299bd081d5"), looks := true }, kinds := [], alts := [], laidByText := true, laidKinds := [.data, .data, .widerDeep], laidTests := true, laidLooks := .later }
def DuoBypassCardSaid : Prop := Claim7.holds Tryz.pinned (.plain (OpenSpec.ofChange duoBypassSpec)) duoBypassCard

/-- THE TIED CARD OF 'deadlatchlaw16.QueueFifo'. -/
def queueFifoCard : Claim7 := { stood := { row := queueFifoRow, standIns := [], harness := (true, "44b990feb8dc21779b75cd93ae1134db1ace504ea6485f847748fa299bd081d5"), looks := true }, kinds := [], alts := [], laidByText := true, laidKinds := [.data, .data, .widerDeep], laidTests := true, laidLooks := .later }
def QueueFifoCardSaid : Prop := Claim7.holds Tryz.pinned (.plain (OpenSpec.ofChange queueFifoSpec)) queueFifoCard

/-- THE TIED CARD OF 'deadlatchlaw15.SpinEnds'. -/
def spinEndsCard : Claim7 := { stood := { row := spinEndsRow, standIns := [], harness := (true, "44b990feb8dc21779b75cd93ae1134db1ace504ea6485f847748fa299bd081d5"), looks := true }, kinds := [], alts := [], laidByText := true, laidKinds := [.data, .data, .widerDeep], laidTests := true, laidLooks := .later }
def SpinEndsCardSaid : Prop := Claim7.holds Tryz.pinned (.plain (OpenSpec.ofChange spinEndsSpec)) spinEndsCard

/-- THE TIED CARD OF 'deadlatchlaw18.BiasEnds'. -/
def biasEndsCard : Claim7 := { stood := { row := biasEndsRow, standIns := [], harness := (true, "44b990feb8dc21779b75cd93ae1134db1ace504ea6485f847748fa299bd081d5"), looks := true }, kinds := [], alts := [], laidByText := true, laidKinds := [.data, .data, .widerDeep], laidTests := true, laidLooks := .later }
def BiasEndsCardSaid : Prop := Claim7.holds Tryz.pinned (.plain (OpenSpec.ofChange biasEndsSpec)) biasEndsCard

/-- THE TIED CARD OF 'deadlatchlaw17.DuoEnds'. -/
def duoEndsCard : Claim7 := { stood := { row := duoEndsRow, standIns := [], harness := (true, "44b990feb8dc21779b75cd93ae1134db1ace504ea6485f847748fa299bd081d5"), looks := true }, kinds := [], alts := [], laidByText := true, laidKinds := [.data, .data, .widerDeep], laidTests := true, laidLooks := .later }
def DuoEndsCardSaid : Prop := Claim7.holds Tryz.pinned (.plain (OpenSpec.ofChange duoEndsSpec)) duoEndsCard

/-- THE TIED CARD OF 'deadlatchlaw16.QueueEnds'. -/
def queueEndsCard : Claim7 := { stood := { row := queueEndsRow, standIns := [], harness := (true, "44b990feb8dc21779b75cd93ae1134db1ace504ea6485f847748fa299bd081d5"), looks := true }, kinds := [], alts := [], laidByText := true, laidKinds := [.data, .data, .widerDeep], laidTests := true, laidLooks := .later }
def QueueEndsCardSaid : Prop := Claim7.holds Tryz.pinned (.plain (OpenSpec.ofChange queueEndsSpec)) queueEndsCard

/-- THE SECOND FORM's CARD OF 'deadlatchlaw16.QueueOne'. -/
def queueOneUptoCard : Claim7 := { stood := { row := queueOneUptoRow, standIns := [], harness := (true, "44b990feb8dc21779b75cd93ae1134db1ace504ea6485f847748fa299bd081d5"), looks := true }, kinds := [], alts := [], laidByText := true, laidKinds := [.data, .data, .widerDeep], laidTests := true, laidLooks := .later }
def QueueOneUptoCardSaid : Prop := Claim7.holds Tryz.pinned (.plain (OpenSpec.upto queueOneSpec)) queueOneUptoCard

/-- THE SECOND FORM's CARD OF 'deadlatchlaw15.SpinFifo'. -/
def spinFifoUptoCard : Claim7 := { stood := { row := spinFifoUptoRow, standIns := [], harness := (true, "44b990feb8dc21779b75cd93ae1134db1ace504ea6485f847748fa299bd081d5"), looks := true }, kinds := [], alts := [], laidByText := true, laidKinds := [.data, .data, .widerDeep], laidTests := true, laidLooks := .later }
def SpinFifoUptoCardSaid : Prop := Claim7.holds Tryz.pinned (.plain (OpenSpec.upto spinFifoSpec)) spinFifoUptoCard

/-- THE SECOND FORM's CARD OF 'deadlatchlaw17.DuoBypass'. -/
def duoBypassUptoCard : Claim7 := { stood := { row := duoBypassUptoRow, standIns := [], harness := (true, "44b990feb8dc21779b75cd93ae1134db1ace504ea6485f847748fa299bd081d5"), looks := true }, kinds := [], alts := [], laidByText := true, laidKinds := [.data, .data, .widerDeep], laidTests := true, laidLooks := .later }
def DuoBypassUptoCardSaid : Prop := Claim7.holds Tryz.pinned (.plain (OpenSpec.upto duoBypassSpec)) duoBypassUptoCard

/-- THE SECOND FORM's CARD OF 'deadlatchlaw16.QueueFifo'. -/
def queueFifoUptoCard : Claim7 := { stood := { row := queueFifoUptoRow, standIns := [], harness := (true, "44b990feb8dc21779b75cd93ae1134db1ace504ea6485f847748fa299bd081d5"), looks := true }, kinds := [], alts := [], laidByText := true, laidKinds := [.data, .data, .widerDeep], laidTests := true, laidLooks := .later }
def QueueFifoUptoCardSaid : Prop := Claim7.holds Tryz.pinned (.plain (OpenSpec.upto queueFifoSpec)) queueFifoUptoCard

/-- THE SECOND FORM's CARD OF 'deadlatchlaw15.SpinEnds'. -/
def spinEndsUptoCard : Claim7 := { stood := { row := spinEndsUptoRow, standIns := [], harness := (true, "44b990feb8dc21779b75cd93ae1134db1ace504ea6485f847748fa299bd081d5"), looks := true }, kinds := [], alts := [], laidByText := true, laidKinds := [.data, .data, .widerDeep], laidTests := true, laidLooks := .later }
def SpinEndsUptoCardSaid : Prop := Claim7.holds Tryz.pinned (.plain (OpenSpec.upto spinEndsSpec)) spinEndsUptoCard

/-- THE SECOND FORM's CARD OF 'deadlatchlaw18.BiasEnds'. -/
def biasEndsUptoCard : Claim7 := { stood := { row := biasEndsUptoRow, standIns := [], harness := (true, "44b990feb8dc21779b75cd93ae1134db1ace504ea6485f847748fa299bd081d5"), looks := true }, kinds := [], alts := [], laidByText := true, laidKinds := [.data, .data, .widerDeep], laidTests := true, laidLooks := .later }
def BiasEndsUptoCardSaid : Prop := Claim7.holds Tryz.pinned (.plain (OpenSpec.upto biasEndsSpec)) biasEndsUptoCard

/-- THE SECOND FORM's CARD OF 'deadlatchlaw17.DuoEnds'. -/
def duoEndsUptoCard : Claim7 := { stood := { row := duoEndsUptoRow, standIns := [], harness := (true, "44b990feb8dc21779b75cd93ae1134db1ace504ea6485f847748fa299bd081d5"), looks := true }, kinds := [], alts := [], laidByText := true, laidKinds := [.data, .data, .widerDeep], laidTests := true, laidLooks := .later }
def DuoEndsUptoCardSaid : Prop := Claim7.holds Tryz.pinned (.plain (OpenSpec.upto duoEndsSpec)) duoEndsUptoCard

/-- THE SECOND FORM's CARD OF 'deadlatchlaw16.QueueEnds'. -/
def queueEndsUptoCard : Claim7 := { stood := { row := queueEndsUptoRow, standIns := [], harness := (true, "44b990feb8dc21779b75cd93ae1134db1ace504ea6485f847748fa299bd081d5"), looks := true }, kinds := [], alts := [], laidByText := true, laidKinds := [.data, .data, .widerDeep], laidTests := true, laidLooks := .later }
def QueueEndsUptoCardSaid : Prop := Claim7.holds Tryz.pinned (.plain (OpenSpec.upto queueEndsSpec)) queueEndsUptoCard
end Rows
end Go.Proofs.YtckmkaeopnnbbaaGreatDoor
