/-
  DERIVED. GIVEN WITH THE SEED: THE CARDS: each row of YtjadlpflhmooaaaDoorRows.lean that lists a variable, with what it lists TIED to the program's text (the seventh form; the later family's looks); each row that meets fmt, with fmt's text TOLD by the authors' own Lean function (tested against real Go, not proved from fmt's source: count such statements apart). THE CARD IS WHAT COUNTS. Prove the row's statement (the work); the ties are given (YtjadlpflhmooaaaDoorTie.lean); close each card by the builder's one call (the guide's Derived/Test/ToyasCard.lean, 'card_holds'). Laid BY PROGRAM, IN A SANDBOX (cutbox-door.mjs). By AI agents, Wed Nov 11 2026. No macro, syntax, notation, axiom, sorry.
-/
import Derived.Test.YtjadlpflhmooaaaDoorRows
import GoSem.ClaimSeven
namespace Go.Proofs.YtjadlpflhmooaaaDoor
namespace Rows

/-- THE TIED CARD OF 'selfstablaw15.DaemonChooses'. -/
def daemonChoosesCard : Claim7 := { stood := { row := daemonChoosesRow, standIns := [], harness := (true, "17f6cde2f1828f6ab95789f91c312b5dcde5fa99be9cc1c4426dd76269762235"), looks := false }, kinds := [], alts := [], laidByText := true, laidKinds := [.data], laidTests := true, laidLooks := .later }
def DaemonChoosesCardSaid : Prop := Claim7.holds Tryd.pinned (.plain (OpenSpec.ofChange daemonChoosesSpec)) daemonChoosesCard

/-- THE TIED CARD OF 'selfstablaw15.DaemonGreedyIsMaximal'. -/
def daemonGreedyIsMaximalCard : Claim7 := { stood := { row := daemonGreedyIsMaximalRow, standIns := [], harness := (true, "17f6cde2f1828f6ab95789f91c312b5dcde5fa99be9cc1c4426dd76269762235"), looks := false }, kinds := [], alts := [], laidByText := true, laidKinds := [.data], laidTests := true, laidLooks := .later }
def DaemonGreedyIsMaximalCardSaid : Prop := Claim7.holds Tryd.pinned (.plain (OpenSpec.ofChange daemonGreedyIsMaximalSpec)) daemonGreedyIsMaximalCard

/-- THE TIED CARD OF 'selfstablaw15.DaemonListsWhatItPermits'. -/
def daemonListsWhatItPermitsCard : Claim7 := { stood := { row := daemonListsWhatItPermitsRow, standIns := [], harness := (true, "17f6cde2f1828f6ab95789f91c312b5dcde5fa99be9cc1c4426dd76269762235"), looks := false }, kinds := [], alts := [], laidByText := true, laidKinds := [.data], laidTests := true, laidLooks := .later }
def DaemonListsWhatItPermitsCardSaid : Prop := Claim7.holds Tryd.pinned (.plain (OpenSpec.ofChange daemonListsWhatItPermitsSpec)) daemonListsWhatItPermitsCard

/-- THE TIED CARD OF 'selfstablaw15.DaemonResolvesToPermitted'. -/
def daemonResolvesToPermittedCard : Claim7 := { stood := { row := daemonResolvesToPermittedRow, standIns := [], harness := (true, "17f6cde2f1828f6ab95789f91c312b5dcde5fa99be9cc1c4426dd76269762235"), looks := false }, kinds := [], alts := [], laidByText := true, laidKinds := [.data], laidTests := true, laidLooks := .later }
def DaemonResolvesToPermittedCardSaid : Prop := Claim7.holds Tryd.pinned (.plain (OpenSpec.ofChange daemonResolvesToPermittedSpec)) daemonResolvesToPermittedCard

/-- THE TIED CARD OF 'selfstablaw15.DaemonPermitsParts'. -/
def daemonPermitsPartsCard : Claim7 := { stood := { row := daemonPermitsPartsRow, standIns := [], harness := (true, "17f6cde2f1828f6ab95789f91c312b5dcde5fa99be9cc1c4426dd76269762235"), looks := false }, kinds := [], alts := [], laidByText := true, laidKinds := [.data], laidTests := true, laidLooks := .later }
def DaemonPermitsPartsCardSaid : Prop := Claim7.holds Tryd.pinned (.plain (OpenSpec.ofChange daemonPermitsPartsSpec)) daemonPermitsPartsCard

/-- THE TIED CARD OF 'selfstablaw15.DaemonPermits'. -/
def daemonPermitsCard : Claim7 := { stood := { row := daemonPermitsRow, standIns := [], harness := (true, "17f6cde2f1828f6ab95789f91c312b5dcde5fa99be9cc1c4426dd76269762235"), looks := false }, kinds := [], alts := [], laidByText := true, laidKinds := [.data], laidTests := true, laidLooks := .later }
def DaemonPermitsCardSaid : Prop := Claim7.holds Tryd.pinned (.plain (OpenSpec.ofChange daemonPermitsSpec)) daemonPermitsCard

/-- THE TIED CARD OF 'selfstablaw15.DaemonIsWithin'. -/
def daemonIsWithinCard : Claim7 := { stood := { row := daemonIsWithinRow, standIns := [], harness := (true, "17f6cde2f1828f6ab95789f91c312b5dcde5fa99be9cc1c4426dd76269762235"), looks := false }, kinds := [], alts := [], laidByText := true, laidKinds := [.data], laidTests := true, laidLooks := .later }
def DaemonIsWithinCardSaid : Prop := Claim7.holds Tryd.pinned (.plain (OpenSpec.ofChange daemonIsWithinSpec)) daemonIsWithinCard

/-- THE SECOND FORM's CARD OF 'selfstablaw15.DaemonChooses'. -/
def daemonChoosesUptoCard : Claim7 := { stood := { row := daemonChoosesUptoRow, standIns := [], harness := (true, "17f6cde2f1828f6ab95789f91c312b5dcde5fa99be9cc1c4426dd76269762235"), looks := false }, kinds := [], alts := [], laidByText := true, laidKinds := [.data], laidTests := true, laidLooks := .later }
def DaemonChoosesUptoCardSaid : Prop := Claim7.holds Tryd.pinned (.plain (OpenSpec.upto daemonChoosesSpec)) daemonChoosesUptoCard

/-- THE SECOND FORM's CARD OF 'selfstablaw15.DaemonGreedyIsMaximal'. -/
def daemonGreedyIsMaximalUptoCard : Claim7 := { stood := { row := daemonGreedyIsMaximalUptoRow, standIns := [], harness := (true, "17f6cde2f1828f6ab95789f91c312b5dcde5fa99be9cc1c4426dd76269762235"), looks := false }, kinds := [], alts := [], laidByText := true, laidKinds := [.data], laidTests := true, laidLooks := .later }
def DaemonGreedyIsMaximalUptoCardSaid : Prop := Claim7.holds Tryd.pinned (.plain (OpenSpec.upto daemonGreedyIsMaximalSpec)) daemonGreedyIsMaximalUptoCard

/-- THE SECOND FORM's CARD OF 'selfstablaw15.DaemonListsWhatItPermits'. -/
def daemonListsWhatItPermitsUptoCard : Claim7 := { stood := { row := daemonListsWhatItPermitsUptoRow, standIns := [], harness := (true, "17f6cde2f1828f6ab95789f91c312b5dcde5fa99be9cc1c4426dd76269762235"), looks := false }, kinds := [], alts := [], laidByText := true, laidKinds := [.data], laidTests := true, laidLooks := .later }
def DaemonListsWhatItPermitsUptoCardSaid : Prop := Claim7.holds Tryd.pinned (.plain (OpenSpec.upto daemonListsWhatItPermitsSpec)) daemonListsWhatItPermitsUptoCard

/-- THE SECOND FORM's CARD OF 'selfstablaw15.DaemonResolvesToPermitted'. -/
def daemonResolvesToPermittedUptoCard : Claim7 := { stood := { row := daemonResolvesToPermittedUptoRow, standIns := [], harness := (true, "17f6cde2f1828f6ab95789f91c312b5dcde5fa99be9cc1c4426dd76269762235"), looks := false }, kinds := [], alts := [], laidByText := true, laidKinds := [.data], laidTests := true, laidLooks := .later }
def DaemonResolvesToPermittedUptoCardSaid : Prop := Claim7.holds Tryd.pinned (.plain (OpenSpec.upto daemonResolvesToPermittedSpec)) daemonResolvesToPermittedUptoCard

/-- THE SECOND FORM's CARD OF 'selfstablaw15.DaemonPermitsParts'. -/
def daemonPermitsPartsUptoCard : Claim7 := { stood := { row := daemonPermitsPartsUptoRow, standIns := [], harness := (true, "17f6cde2f1828f6ab95789f91c312b5dcde5fa99be9cc1c4426dd76269762235"), looks := false }, kinds := [], alts := [], laidByText := true, laidKinds := [.data], laidTests := true, laidLooks := .later }
def DaemonPermitsPartsUptoCardSaid : Prop := Claim7.holds Tryd.pinned (.plain (OpenSpec.upto daemonPermitsPartsSpec)) daemonPermitsPartsUptoCard

/-- THE SECOND FORM's CARD OF 'selfstablaw15.DaemonPermits'. -/
def daemonPermitsUptoCard : Claim7 := { stood := { row := daemonPermitsUptoRow, standIns := [], harness := (true, "17f6cde2f1828f6ab95789f91c312b5dcde5fa99be9cc1c4426dd76269762235"), looks := false }, kinds := [], alts := [], laidByText := true, laidKinds := [.data], laidTests := true, laidLooks := .later }
def DaemonPermitsUptoCardSaid : Prop := Claim7.holds Tryd.pinned (.plain (OpenSpec.upto daemonPermitsSpec)) daemonPermitsUptoCard

/-- THE SECOND FORM's CARD OF 'selfstablaw15.DaemonIsWithin'. -/
def daemonIsWithinUptoCard : Claim7 := { stood := { row := daemonIsWithinUptoRow, standIns := [], harness := (true, "17f6cde2f1828f6ab95789f91c312b5dcde5fa99be9cc1c4426dd76269762235"), looks := false }, kinds := [], alts := [], laidByText := true, laidKinds := [.data], laidTests := true, laidLooks := .later }
def DaemonIsWithinUptoCardSaid : Prop := Claim7.holds Tryd.pinned (.plain (OpenSpec.upto daemonIsWithinSpec)) daemonIsWithinUptoCard
end Rows
end Go.Proofs.YtjadlpflhmooaaaDoor
