/-
  DERIVED. GIVEN WITH THE SEED: THE CARDS: each row of YtkimongfladmfaaGreatDoorRows.lean that lists a variable, with what it lists TIED to the program's text (the seventh form; the later family's looks); each row that meets fmt, with fmt's text TOLD by the authors' own Lean function (tested against real Go, not proved from fmt's source: count such statements apart). THE CARD IS WHAT COUNTS. Prove the row's statement (the work); the ties are given (YtkimongfladmfaaGreatDoorTie.lean); close each card by the builder's one call (the guide's Derived/Test/ToyasCard.lean, 'card_holds'). Laid BY PROGRAM, IN A SANDBOX (cutbox-door.mjs). By AI agents, Wed Nov 11 2026. No macro, syntax, notation, axiom, sorry.
-/
import Derived.Test.YtkimongfladmfaaGreatDoorRows
import GoSem.ClaimSeven
namespace Go.Proofs.YtkimongfladmfaaGreatDoor
namespace Rows

/-- THE TIED CARD OF 'selfstablaw34.ClusterReaches'. -/
def clusterReachesCard : Claim7 := { stood := { row := clusterReachesRow, standIns := [], harness := (true, "9dc1013339121b27139282590f5604dad128e44bb5f4423b1d7b9a617f1f8bd8"), looks := true }, kinds := [], alts := [], laidByText := true, laidKinds := [.data], laidTests := true, laidLooks := .later }
def ClusterReachesCardSaid : Prop := Claim7.holds Tryz.pinned (.plain (OpenSpec.ofChange clusterReachesSpec)) clusterReachesCard

/-- THE TIED CARD OF 'selfstablaw34.ClusterRests'. -/
def clusterRestsCard : Claim7 := { stood := { row := clusterRestsRow, standIns := [], harness := (true, "9dc1013339121b27139282590f5604dad128e44bb5f4423b1d7b9a617f1f8bd8"), looks := true }, kinds := [], alts := [], laidByText := true, laidKinds := [.data], laidTests := true, laidLooks := .later }
def ClusterRestsCardSaid : Prop := Claim7.holds Tryz.pinned (.plain (OpenSpec.ofChange clusterRestsSpec)) clusterRestsCard

/-- THE TIED CARD OF 'selfstablaw34.ClusterCovers'. -/
def clusterCoversCard : Claim7 := { stood := { row := clusterCoversRow, standIns := [], harness := (true, "9dc1013339121b27139282590f5604dad128e44bb5f4423b1d7b9a617f1f8bd8"), looks := true }, kinds := [], alts := [], laidByText := true, laidKinds := [.data], laidTests := true, laidLooks := .later }
def ClusterCoversCardSaid : Prop := Claim7.holds Tryz.pinned (.plain (OpenSpec.ofChange clusterCoversSpec)) clusterCoversCard

/-- THE TIED CARD OF 'selfstablaw36.ClockReaches'. -/
def clockReachesCard : Claim7 := { stood := { row := clockReachesRow, standIns := [], harness := (true, "9dc1013339121b27139282590f5604dad128e44bb5f4423b1d7b9a617f1f8bd8"), looks := true }, kinds := [], alts := [], laidByText := true, laidKinds := [.data], laidTests := true, laidLooks := .later }
def ClockReachesCardSaid : Prop := Claim7.holds Tryz.pinned (.plain (OpenSpec.ofChange clockReachesSpec)) clockReachesCard

/-- THE TIED CARD OF 'selfstablaw36.ClockPhases'. -/
def clockPhasesCard : Claim7 := { stood := { row := clockPhasesRow, standIns := [], harness := (true, "9dc1013339121b27139282590f5604dad128e44bb5f4423b1d7b9a617f1f8bd8"), looks := true }, kinds := [], alts := [], laidByText := true, laidKinds := [.data], laidTests := true, laidLooks := .later }
def ClockPhasesCardSaid : Prop := Claim7.holds Tryz.pinned (.plain (OpenSpec.ofChange clockPhasesSpec)) clockPhasesCard

/-- THE TIED CARD OF 'selfstablaw36.ClockTicks'. -/
def clockTicksCard : Claim7 := { stood := { row := clockTicksRow, standIns := [], harness := (true, "9dc1013339121b27139282590f5604dad128e44bb5f4423b1d7b9a617f1f8bd8"), looks := true }, kinds := [], alts := [], laidByText := true, laidKinds := [.data], laidTests := true, laidLooks := .later }
def ClockTicksCardSaid : Prop := Claim7.holds Tryz.pinned (.plain (OpenSpec.ofChange clockTicksSpec)) clockTicksCard

/-- THE SECOND FORM's CARD OF 'selfstablaw34.ClusterReaches'. -/
def clusterReachesUptoCard : Claim7 := { stood := { row := clusterReachesUptoRow, standIns := [], harness := (true, "9dc1013339121b27139282590f5604dad128e44bb5f4423b1d7b9a617f1f8bd8"), looks := true }, kinds := [], alts := [], laidByText := true, laidKinds := [.data], laidTests := true, laidLooks := .later }
def ClusterReachesUptoCardSaid : Prop := Claim7.holds Tryz.pinned (.plain (OpenSpec.upto clusterReachesSpec)) clusterReachesUptoCard

/-- THE SECOND FORM's CARD OF 'selfstablaw34.ClusterRests'. -/
def clusterRestsUptoCard : Claim7 := { stood := { row := clusterRestsUptoRow, standIns := [], harness := (true, "9dc1013339121b27139282590f5604dad128e44bb5f4423b1d7b9a617f1f8bd8"), looks := true }, kinds := [], alts := [], laidByText := true, laidKinds := [.data], laidTests := true, laidLooks := .later }
def ClusterRestsUptoCardSaid : Prop := Claim7.holds Tryz.pinned (.plain (OpenSpec.upto clusterRestsSpec)) clusterRestsUptoCard

/-- THE SECOND FORM's CARD OF 'selfstablaw34.ClusterCovers'. -/
def clusterCoversUptoCard : Claim7 := { stood := { row := clusterCoversUptoRow, standIns := [], harness := (true, "9dc1013339121b27139282590f5604dad128e44bb5f4423b1d7b9a617f1f8bd8"), looks := true }, kinds := [], alts := [], laidByText := true, laidKinds := [.data], laidTests := true, laidLooks := .later }
def ClusterCoversUptoCardSaid : Prop := Claim7.holds Tryz.pinned (.plain (OpenSpec.upto clusterCoversSpec)) clusterCoversUptoCard

/-- THE SECOND FORM's CARD OF 'selfstablaw36.ClockReaches'. -/
def clockReachesUptoCard : Claim7 := { stood := { row := clockReachesUptoRow, standIns := [], harness := (true, "9dc1013339121b27139282590f5604dad128e44bb5f4423b1d7b9a617f1f8bd8"), looks := true }, kinds := [], alts := [], laidByText := true, laidKinds := [.data], laidTests := true, laidLooks := .later }
def ClockReachesUptoCardSaid : Prop := Claim7.holds Tryz.pinned (.plain (OpenSpec.upto clockReachesSpec)) clockReachesUptoCard

/-- THE SECOND FORM's CARD OF 'selfstablaw36.ClockPhases'. -/
def clockPhasesUptoCard : Claim7 := { stood := { row := clockPhasesUptoRow, standIns := [], harness := (true, "9dc1013339121b27139282590f5604dad128e44bb5f4423b1d7b9a617f1f8bd8"), looks := true }, kinds := [], alts := [], laidByText := true, laidKinds := [.data], laidTests := true, laidLooks := .later }
def ClockPhasesUptoCardSaid : Prop := Claim7.holds Tryz.pinned (.plain (OpenSpec.upto clockPhasesSpec)) clockPhasesUptoCard

/-- THE SECOND FORM's CARD OF 'selfstablaw36.ClockTicks'. -/
def clockTicksUptoCard : Claim7 := { stood := { row := clockTicksUptoRow, standIns := [], harness := (true, "9dc1013339121b27139282590f5604dad128e44bb5f4423b1d7b9a617f1f8bd8"), looks := true }, kinds := [], alts := [], laidByText := true, laidKinds := [.data], laidTests := true, laidLooks := .later }
def ClockTicksUptoCardSaid : Prop := Claim7.holds Tryz.pinned (.plain (OpenSpec.upto clockTicksSpec)) clockTicksUptoCard
end Rows
end Go.Proofs.YtkimongfladmfaaGreatDoor
