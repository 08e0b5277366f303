/-
  DERIVED. GIVEN WITH THE SEED: THE CARDS: each row of YtljjbdbgedmadaaGreatDoorRows.lean that lists a variable, with what it lists TIED to the program's text (the seventh form; the later family's looks); each row that meets fmt, with fmt's text TOLD by the authors' own Lean function (tested against real Go, not proved from fmt's source: count such statements apart). THE CARD IS WHAT COUNTS. Prove the row's statement (the work); the ties are given (YtljjbdbgedmadaaGreatDoorTie.lean); close each card by the builder's one call (the guide's Derived/Test/ToyasCard.lean, 'card_holds'). Laid BY PROGRAM, IN A SANDBOX (cutbox-door.mjs). By AI agents, Wed Nov 11 2026. No macro, syntax, notation, axiom, sorry.
-/
import Derived.Test.YtljjbdbgedmadaaGreatDoorRows
import GoSem.ClaimSeven
namespace Go.Proofs.YtljjbdbgedmadaaGreatDoor
namespace Rows

/-- THE TIED CARD OF 'etchantlaw38.DrillReads'. -/
def drillReadsCard : Claim7 := { stood := { row := drillReadsRow, standIns := [], harness := (true, "623eb398c08899d195d5c54c7f3ae3f8f3dab2dff1427779530895eb4a20ea92"), looks := true }, kinds := [], alts := [], laidByText := true, laidKinds := [.data, .data, .data, .data, .sentinel, .sentinel, .pinned], laidTests := true, laidLooks := .later }
def DrillReadsCardSaid : Prop := Claim7.holds Tryz.pinned (.plain (OpenSpec.ofChange drillReadsSpec)) drillReadsCard

/-- THE TIED CARD OF 'etchantlaw38.DrillRaw'. -/
def drillRawCard : Claim7 := { stood := { row := drillRawRow, standIns := [], harness := (true, "623eb398c08899d195d5c54c7f3ae3f8f3dab2dff1427779530895eb4a20ea92"), looks := true }, kinds := [], alts := [], laidByText := true, laidKinds := [.data, .data, .data, .data, .sentinel, .sentinel, .pinned], laidTests := true, laidLooks := .later }
def DrillRawCardSaid : Prop := Claim7.holds Tryz.pinned (.plain (OpenSpec.ofChange drillRawSpec)) drillRawCard

/-- THE TIED CARD OF 'etchantlaw38.DrillInverts'. -/
def drillInvertsCard : Claim7 := { stood := { row := drillInvertsRow, standIns := [], harness := (true, "623eb398c08899d195d5c54c7f3ae3f8f3dab2dff1427779530895eb4a20ea92"), looks := true }, kinds := [], alts := [], laidByText := true, laidKinds := [.data, .data, .data, .data, .sentinel, .sentinel, .pinned], laidTests := true, laidLooks := .later }
def DrillInvertsCardSaid : Prop := Claim7.holds Tryz.pinned (.plain (OpenSpec.ofChange drillInvertsSpec)) drillInvertsCard

/-- THE TIED CARD OF 'etchantlaw38.DrillMoves'. -/
def drillMovesCard : Claim7 := { stood := { row := drillMovesRow, standIns := [], harness := (true, "623eb398c08899d195d5c54c7f3ae3f8f3dab2dff1427779530895eb4a20ea92"), looks := true }, kinds := [], alts := [], laidByText := true, laidKinds := [.data, .data, .data, .data, .sentinel, .sentinel, .pinned], laidTests := true, laidLooks := .later }
def DrillMovesCardSaid : Prop := Claim7.holds Tryz.pinned (.plain (OpenSpec.ofChange drillMovesSpec)) drillMovesCard

/-- THE TIED CARD OF 'etchantlaw38.DrillWrites'. -/
def drillWritesCard : Claim7 := { stood := { row := drillWritesRow, standIns := [], harness := (true, "623eb398c08899d195d5c54c7f3ae3f8f3dab2dff1427779530895eb4a20ea92"), looks := true }, kinds := [], alts := [], laidByText := true, laidKinds := [.data, .data, .data, .data, .sentinel, .sentinel, .pinned], laidTests := true, laidLooks := .later }
def DrillWritesCardSaid : Prop := Claim7.holds Tryz.pinned (.plain (OpenSpec.ofChange drillWritesSpec)) drillWritesCard

/-- THE TIED CARD OF 'etchantlaw38.DrillNorms'. -/
def drillNormsCard : Claim7 := { stood := { row := drillNormsRow, standIns := [], harness := (true, "623eb398c08899d195d5c54c7f3ae3f8f3dab2dff1427779530895eb4a20ea92"), looks := true }, kinds := [], alts := [], laidByText := true, laidKinds := [.data, .data, .data, .data, .sentinel, .sentinel, .pinned], laidTests := true, laidLooks := .later }
def DrillNormsCardSaid : Prop := Claim7.holds Tryz.pinned (.plain (OpenSpec.ofChange drillNormsSpec)) drillNormsCard

/-- THE TIED CARD OF 'etchantlaw38.DrillBoards'. -/
def drillBoardsCard : Claim7 := { stood := { row := drillBoardsRow, standIns := [], harness := (true, "623eb398c08899d195d5c54c7f3ae3f8f3dab2dff1427779530895eb4a20ea92"), looks := true }, kinds := [], alts := [], laidByText := true, laidKinds := [.data, .data, .data, .data, .sentinel, .sentinel, .pinned], laidTests := true, laidLooks := .later }
def DrillBoardsCardSaid : Prop := Claim7.holds Tryz.pinned (.plain (OpenSpec.ofChange drillBoardsSpec)) drillBoardsCard

/-- THE SECOND FORM's CARD OF 'etchantlaw38.DrillReads'. -/
def drillReadsUptoCard : Claim7 := { stood := { row := drillReadsUptoRow, standIns := [], harness := (true, "623eb398c08899d195d5c54c7f3ae3f8f3dab2dff1427779530895eb4a20ea92"), looks := true }, kinds := [], alts := [], laidByText := true, laidKinds := [.data, .data, .data, .data, .sentinel, .sentinel, .pinned], laidTests := true, laidLooks := .later }
def DrillReadsUptoCardSaid : Prop := Claim7.holds Tryz.pinned (.plain (OpenSpec.upto drillReadsSpec)) drillReadsUptoCard

/-- THE SECOND FORM's CARD OF 'etchantlaw38.DrillRaw'. -/
def drillRawUptoCard : Claim7 := { stood := { row := drillRawUptoRow, standIns := [], harness := (true, "623eb398c08899d195d5c54c7f3ae3f8f3dab2dff1427779530895eb4a20ea92"), looks := true }, kinds := [], alts := [], laidByText := true, laidKinds := [.data, .data, .data, .data, .sentinel, .sentinel, .pinned], laidTests := true, laidLooks := .later }
def DrillRawUptoCardSaid : Prop := Claim7.holds Tryz.pinned (.plain (OpenSpec.upto drillRawSpec)) drillRawUptoCard

/-- THE SECOND FORM's CARD OF 'etchantlaw38.DrillInverts'. -/
def drillInvertsUptoCard : Claim7 := { stood := { row := drillInvertsUptoRow, standIns := [], harness := (true, "623eb398c08899d195d5c54c7f3ae3f8f3dab2dff1427779530895eb4a20ea92"), looks := true }, kinds := [], alts := [], laidByText := true, laidKinds := [.data, .data, .data, .data, .sentinel, .sentinel, .pinned], laidTests := true, laidLooks := .later }
def DrillInvertsUptoCardSaid : Prop := Claim7.holds Tryz.pinned (.plain (OpenSpec.upto drillInvertsSpec)) drillInvertsUptoCard

/-- THE SECOND FORM's CARD OF 'etchantlaw38.DrillMoves'. -/
def drillMovesUptoCard : Claim7 := { stood := { row := drillMovesUptoRow, standIns := [], harness := (true, "623eb398c08899d195d5c54c7f3ae3f8f3dab2dff1427779530895eb4a20ea92"), looks := true }, kinds := [], alts := [], laidByText := true, laidKinds := [.data, .data, .data, .data, .sentinel, .sentinel, .pinned], laidTests := true, laidLooks := .later }
def DrillMovesUptoCardSaid : Prop := Claim7.holds Tryz.pinned (.plain (OpenSpec.upto drillMovesSpec)) drillMovesUptoCard

/-- THE SECOND FORM's CARD OF 'etchantlaw38.DrillWrites'. -/
def drillWritesUptoCard : Claim7 := { stood := { row := drillWritesUptoRow, standIns := [], harness := (true, "623eb398c08899d195d5c54c7f3ae3f8f3dab2dff1427779530895eb4a20ea92"), looks := true }, kinds := [], alts := [], laidByText := true, laidKinds := [.data, .data, .data, .data, .sentinel, .sentinel, .pinned], laidTests := true, laidLooks := .later }
def DrillWritesUptoCardSaid : Prop := Claim7.holds Tryz.pinned (.plain (OpenSpec.upto drillWritesSpec)) drillWritesUptoCard

/-- THE SECOND FORM's CARD OF 'etchantlaw38.DrillNorms'. -/
def drillNormsUptoCard : Claim7 := { stood := { row := drillNormsUptoRow, standIns := [], harness := (true, "623eb398c08899d195d5c54c7f3ae3f8f3dab2dff1427779530895eb4a20ea92"), looks := true }, kinds := [], alts := [], laidByText := true, laidKinds := [.data, .data, .data, .data, .sentinel, .sentinel, .pinned], laidTests := true, laidLooks := .later }
def DrillNormsUptoCardSaid : Prop := Claim7.holds Tryz.pinned (.plain (OpenSpec.upto drillNormsSpec)) drillNormsUptoCard

/-- THE SECOND FORM's CARD OF 'etchantlaw38.DrillBoards'. -/
def drillBoardsUptoCard : Claim7 := { stood := { row := drillBoardsUptoRow, standIns := [], harness := (true, "623eb398c08899d195d5c54c7f3ae3f8f3dab2dff1427779530895eb4a20ea92"), looks := true }, kinds := [], alts := [], laidByText := true, laidKinds := [.data, .data, .data, .data, .sentinel, .sentinel, .pinned], laidTests := true, laidLooks := .later }
def DrillBoardsUptoCardSaid : Prop := Claim7.holds Tryz.pinned (.plain (OpenSpec.upto drillBoardsSpec)) drillBoardsUptoCard
end Rows
end Go.Proofs.YtljjbdbgedmadaaGreatDoor
