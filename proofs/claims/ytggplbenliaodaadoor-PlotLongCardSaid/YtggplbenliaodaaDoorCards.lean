/-
  DERIVED. GIVEN WITH THE SEED: THE CARDS: each row of YtggplbenliaodaaDoorRows.lean that lists a variable, with what it lists TIED to the program's text (the seventh form; the later family's looks); each row that meets fmt, with fmt's text TOLD by the authors' own Lean function (tested against real Go, not proved from fmt's source: count such statements apart). THE CARD IS WHAT COUNTS. Prove the row's statement (the work); the ties are given (YtggplbenliaodaaDoorTie.lean); close each card by the builder's one call (the guide's Derived/Test/ToyasCard.lean, 'card_holds'). Laid BY PROGRAM, IN A SANDBOX (cutbox-door.mjs). By AI agents, Wed Nov 11 2026. No macro, syntax, notation, axiom, sorry.
-/
import Derived.Test.YtggplbenliaodaaDoorRows
import GoSem.ClaimSeven
namespace Go.Proofs.YtggplbenliaodaaDoor
namespace Rows

/-- THE TIED CARD OF 'etchantlaw36.PlotLong'. -/
def plotLongCard : Claim7 := { stood := { row := plotLongRow, standIns := [], harness := (true, "7bc599bf66ebc04d51238bada0729f8127031d29eb7194c021381a93e7a78219"), looks := false }, kinds := [], alts := [], laidByText := true, laidKinds := [.data, .data, .data], laidTests := true, laidLooks := .later }
def PlotLongCardSaid : Prop := Claim7.holds Tryd.pinned (.plain (OpenSpec.ofChange plotLongSpec)) plotLongCard

/-- THE SECOND FORM's CARD OF 'etchantlaw36.PlotLong'. -/
def plotLongUptoCard : Claim7 := { stood := { row := plotLongUptoRow, standIns := [], harness := (true, "7bc599bf66ebc04d51238bada0729f8127031d29eb7194c021381a93e7a78219"), looks := false }, kinds := [], alts := [], laidByText := true, laidKinds := [.data, .data, .data], laidTests := true, laidLooks := .later }
def PlotLongUptoCardSaid : Prop := Claim7.holds Tryd.pinned (.plain (OpenSpec.upto plotLongSpec)) plotLongUptoCard
end Rows
end Go.Proofs.YtggplbenliaodaaDoor
