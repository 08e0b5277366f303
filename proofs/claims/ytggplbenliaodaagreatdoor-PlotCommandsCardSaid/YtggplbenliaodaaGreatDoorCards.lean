/-
  DERIVED. GIVEN WITH THE SEED: THE CARDS: each row of YtggplbenliaodaaGreatDoorRows.lean that lists a variable, with what it lists TIED to the program's text (the seventh form; the later family's looks); each row that meets fmt, with fmt's text TOLD by the authors' own Lean function (tested against real Go, not proved from fmt's source: count such statements apart). THE CARD IS WHAT COUNTS. Prove the row's statement (the work); the ties are given (YtggplbenliaodaaGreatDoorTie.lean); close each card by the builder's one call (the guide's Derived/Test/ToyasCard.lean, 'card_holds'). Laid BY PROGRAM, IN A SANDBOX (cutbox-door.mjs). By AI agents, Wed Nov 11 2026. No macro, syntax, notation, axiom, sorry.
-/
import Derived.Test.YtggplbenliaodaaGreatDoorRows
import GoSem.ClaimSeven
namespace Go.Proofs.YtggplbenliaodaaGreatDoor
namespace Rows

/-- THE TIED CARD OF 'etchantlaw36.PlotWrites'. -/
def plotWritesCard : Claim7 := { stood := { row := plotWritesRow, standIns := [], harness := (true, "e67032c844a1b5eb970d2f62ef734c7dd7c74cf2efce4d5c4acc2ecf2d612272"), looks := false }, kinds := [], alts := [], laidByText := true, laidKinds := [.data, .data, .data], laidTests := true, laidLooks := .later }
def PlotWritesCardSaid : Prop := Claim7.holds Tryz.pinned (.plain (OpenSpec.ofChange plotWritesSpec)) plotWritesCard

/-- THE TIED CARD OF 'etchantlaw36.PlotCommands'. -/
def plotCommandsCard : Claim7 := { stood := { row := plotCommandsRow, standIns := [], harness := (true, "e67032c844a1b5eb970d2f62ef734c7dd7c74cf2efce4d5c4acc2ecf2d612272"), looks := false }, kinds := [], alts := [], laidByText := true, laidKinds := [.data, .data, .data], laidTests := true, laidLooks := .later }
def PlotCommandsCardSaid : Prop := Claim7.holds Tryz.pinned (.plain (OpenSpec.ofChange plotCommandsSpec)) plotCommandsCard

/-- THE TIED CARD OF 'etchantlaw36.PlotDiffers'. -/
def plotDiffersCard : Claim7 := { stood := { row := plotDiffersRow, standIns := [], harness := (true, "e67032c844a1b5eb970d2f62ef734c7dd7c74cf2efce4d5c4acc2ecf2d612272"), looks := false }, kinds := [], alts := [], laidByText := true, laidKinds := [.data, .data, .data], laidTests := true, laidLooks := .later }
def PlotDiffersCardSaid : Prop := Claim7.holds Tryz.pinned (.plain (OpenSpec.ofChange plotDiffersSpec)) plotDiffersCard

/-- THE TIED CARD OF 'etchantlaw36.PlotMoves'. -/
def plotMovesCard : Claim7 := { stood := { row := plotMovesRow, standIns := [], harness := (true, "e67032c844a1b5eb970d2f62ef734c7dd7c74cf2efce4d5c4acc2ecf2d612272"), looks := false }, kinds := [], alts := [], laidByText := true, laidKinds := [.data, .data, .data], laidTests := true, laidLooks := .later }
def PlotMovesCardSaid : Prop := Claim7.holds Tryz.pinned (.plain (OpenSpec.ofChange plotMovesSpec)) plotMovesCard

/-- THE SECOND FORM's CARD OF 'etchantlaw36.PlotWrites'. -/
def plotWritesUptoCard : Claim7 := { stood := { row := plotWritesUptoRow, standIns := [], harness := (true, "e67032c844a1b5eb970d2f62ef734c7dd7c74cf2efce4d5c4acc2ecf2d612272"), looks := false }, kinds := [], alts := [], laidByText := true, laidKinds := [.data, .data, .data], laidTests := true, laidLooks := .later }
def PlotWritesUptoCardSaid : Prop := Claim7.holds Tryz.pinned (.plain (OpenSpec.upto plotWritesSpec)) plotWritesUptoCard

/-- THE SECOND FORM's CARD OF 'etchantlaw36.PlotCommands'. -/
def plotCommandsUptoCard : Claim7 := { stood := { row := plotCommandsUptoRow, standIns := [], harness := (true, "e67032c844a1b5eb970d2f62ef734c7dd7c74cf2efce4d5c4acc2ecf2d612272"), looks := false }, kinds := [], alts := [], laidByText := true, laidKinds := [.data, .data, .data], laidTests := true, laidLooks := .later }
def PlotCommandsUptoCardSaid : Prop := Claim7.holds Tryz.pinned (.plain (OpenSpec.upto plotCommandsSpec)) plotCommandsUptoCard

/-- THE SECOND FORM's CARD OF 'etchantlaw36.PlotDiffers'. -/
def plotDiffersUptoCard : Claim7 := { stood := { row := plotDiffersUptoRow, standIns := [], harness := (true, "e67032c844a1b5eb970d2f62ef734c7dd7c74cf2efce4d5c4acc2ecf2d612272"), looks := false }, kinds := [], alts := [], laidByText := true, laidKinds := [.data, .data, .data], laidTests := true, laidLooks := .later }
def PlotDiffersUptoCardSaid : Prop := Claim7.holds Tryz.pinned (.plain (OpenSpec.upto plotDiffersSpec)) plotDiffersUptoCard

/-- THE SECOND FORM's CARD OF 'etchantlaw36.PlotMoves'. -/
def plotMovesUptoCard : Claim7 := { stood := { row := plotMovesUptoRow, standIns := [], harness := (true, "e67032c844a1b5eb970d2f62ef734c7dd7c74cf2efce4d5c4acc2ecf2d612272"), looks := false }, kinds := [], alts := [], laidByText := true, laidKinds := [.data, .data, .data], laidTests := true, laidLooks := .later }
def PlotMovesUptoCardSaid : Prop := Claim7.holds Tryz.pinned (.plain (OpenSpec.upto plotMovesSpec)) plotMovesUptoCard
end Rows
end Go.Proofs.YtggplbenliaodaaGreatDoor
