/-
  DERIVED. GIVEN WITH THE SEED: THE CARDS: each row of YtpoplpohbpfbmaaGreatDoorRows.lean that lists a variable, with what it lists TIED to the program's text (the seventh form; the later family's looks); each row that meets fmt, with fmt's text TOLD by the authors' own Lean function (tested against real Go, not proved from fmt's source: count such statements apart). THE CARD IS WHAT COUNTS. Prove the row's statement (the work); the ties are given (YtpoplpohbpfbmaaGreatDoorTie.lean); close each card by the builder's one call (the guide's Derived/Test/ToyasCard.lean, 'card_holds'). Laid BY PROGRAM, IN A SANDBOX (cutbox-door.mjs). By AI agents, Wed Nov 11 2026. No macro, syntax, notation, axiom, sorry.
-/
import Derived.Test.YtpoplpohbpfbmaaGreatDoorRows
import GoSem.ClaimSeven
namespace Go.Proofs.YtpoplpohbpfbmaaGreatDoor
namespace Rows

/-- THE TIED CARD OF 'selfstablaw35.WaveVisits'. -/
def waveVisitsCard : Claim7 := { stood := { row := waveVisitsRow, standIns := [], harness := (true, "608c09d8ba33eab98931a36c63befa3ceaed180b5c80a2fe58f72e783de36a54"), looks := true }, kinds := [], alts := [], laidByText := true, laidKinds := [.data], laidTests := true, laidLooks := .later }
def WaveVisitsCardSaid : Prop := Claim7.holds Tryz.pinned (.plain (OpenSpec.ofChange waveVisitsSpec)) waveVisitsCard

/-- THE SECOND FORM's CARD OF 'selfstablaw35.WaveVisits'. -/
def waveVisitsUptoCard : Claim7 := { stood := { row := waveVisitsUptoRow, standIns := [], harness := (true, "608c09d8ba33eab98931a36c63befa3ceaed180b5c80a2fe58f72e783de36a54"), looks := true }, kinds := [], alts := [], laidByText := true, laidKinds := [.data], laidTests := true, laidLooks := .later }
def WaveVisitsUptoCardSaid : Prop := Claim7.holds Tryz.pinned (.plain (OpenSpec.upto waveVisitsSpec)) waveVisitsUptoCard
end Rows
end Go.Proofs.YtpoplpohbpfbmaaGreatDoor
