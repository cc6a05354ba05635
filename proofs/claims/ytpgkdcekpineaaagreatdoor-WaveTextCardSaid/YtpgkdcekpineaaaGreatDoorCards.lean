/-
  DERIVED. GIVEN WITH THE SEED: THE CARDS: each row of YtpgkdcekpineaaaGreatDoorRows.lean that lists a variable, with what it lists TIED to the program's text (the seventh form; the later family's looks); each row that meets fmt, with fmt's text TOLD by the authors' own Lean function (tested against real Go, not proved from fmt's source: count such statements apart). THE CARD IS WHAT COUNTS. Prove the row's statement (the work); the ties are given (YtpgkdcekpineaaaGreatDoorTie.lean); close each card by the builder's one call (the guide's Derived/Test/ToyasCard.lean, 'card_holds'). Laid BY PROGRAM, IN A SANDBOX (cutbox-door.mjs). By AI agents, Wed Nov 11 2026. No macro, syntax, notation, axiom, sorry.
-/
import Derived.Test.YtpgkdcekpineaaaGreatDoorRows
import GoSem.ClaimSeven
namespace Go.Proofs.YtpgkdcekpineaaaGreatDoor
namespace Rows

/-- THE TIED CARD OF 'selfstablaw35.WaveText'. -/
def waveTextCard : Claim7 := { stood := { row := waveTextRow, standIns := [], harness := (true, "bd89d946fbed1858d8dc735b33fec7f8389dcbd7021d94613330404c2590aa31"), looks := true }, kinds := [], alts := [], laidByText := true, laidKinds := [.data], laidTests := true, laidLooks := .later }
def WaveTextCardSaid : Prop := Claim7.holds Tryz.pinned (.plain (OpenSpec.ofChange waveTextSpec)) waveTextCard

/-- THE TIED CARD OF 'selfstablaw35.WaveJudges'. -/
def waveJudgesCard : Claim7 := { stood := { row := waveJudgesRow, standIns := [], harness := (true, "bd89d946fbed1858d8dc735b33fec7f8389dcbd7021d94613330404c2590aa31"), looks := true }, kinds := [], alts := [], laidByText := true, laidKinds := [.data], laidTests := true, laidLooks := .later }
def WaveJudgesCardSaid : Prop := Claim7.holds Tryz.pinned (.plain (OpenSpec.ofChange waveJudgesSpec)) waveJudgesCard

/-- THE TIED CARD OF 'selfstablaw35.WaveReaches'. -/
def waveReachesCard : Claim7 := { stood := { row := waveReachesRow, standIns := [], harness := (true, "bd89d946fbed1858d8dc735b33fec7f8389dcbd7021d94613330404c2590aa31"), looks := true }, kinds := [], alts := [], laidByText := true, laidKinds := [.data], laidTests := true, laidLooks := .later }
def WaveReachesCardSaid : Prop := Claim7.holds Tryz.pinned (.plain (OpenSpec.ofChange waveReachesSpec)) waveReachesCard

/-- THE SECOND FORM's CARD OF 'selfstablaw35.WaveText'. -/
def waveTextUptoCard : Claim7 := { stood := { row := waveTextUptoRow, standIns := [], harness := (true, "bd89d946fbed1858d8dc735b33fec7f8389dcbd7021d94613330404c2590aa31"), looks := true }, kinds := [], alts := [], laidByText := true, laidKinds := [.data], laidTests := true, laidLooks := .later }
def WaveTextUptoCardSaid : Prop := Claim7.holds Tryz.pinned (.plain (OpenSpec.upto waveTextSpec)) waveTextUptoCard

/-- THE SECOND FORM's CARD OF 'selfstablaw35.WaveJudges'. -/
def waveJudgesUptoCard : Claim7 := { stood := { row := waveJudgesUptoRow, standIns := [], harness := (true, "bd89d946fbed1858d8dc735b33fec7f8389dcbd7021d94613330404c2590aa31"), looks := true }, kinds := [], alts := [], laidByText := true, laidKinds := [.data], laidTests := true, laidLooks := .later }
def WaveJudgesUptoCardSaid : Prop := Claim7.holds Tryz.pinned (.plain (OpenSpec.upto waveJudgesSpec)) waveJudgesUptoCard

/-- THE SECOND FORM's CARD OF 'selfstablaw35.WaveReaches'. -/
def waveReachesUptoCard : Claim7 := { stood := { row := waveReachesUptoRow, standIns := [], harness := (true, "bd89d946fbed1858d8dc735b33fec7f8389dcbd7021d94613330404c2590aa31"), looks := true }, kinds := [], alts := [], laidByText := true, laidKinds := [.data], laidTests := true, laidLooks := .later }
def WaveReachesUptoCardSaid : Prop := Claim7.holds Tryz.pinned (.plain (OpenSpec.upto waveReachesSpec)) waveReachesUptoCard
end Rows
end Go.Proofs.YtpgkdcekpineaaaGreatDoor
