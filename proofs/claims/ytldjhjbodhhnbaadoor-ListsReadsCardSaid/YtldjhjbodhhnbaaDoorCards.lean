/-
  DERIVED. GIVEN WITH THE SEED: THE CARDS: each row of YtldjhjbodhhnbaaDoorRows.lean that lists a variable, with what it lists TIED to the program's text (the seventh form; the later family's looks); each row that meets fmt, with fmt's text TOLD by the authors' own Lean function (tested against real Go, not proved from fmt's source: count such statements apart). THE CARD IS WHAT COUNTS. Prove the row's statement (the work); the ties are given (YtldjhjbodhhnbaaDoorTie.lean); close each card by the builder's one call (the guide's Derived/Test/ToyasCard.lean, 'card_holds'). Laid BY PROGRAM, IN A SANDBOX (cutbox-door.mjs). By AI agents, Wed Nov 11 2026. No macro, syntax, notation, axiom, sorry.
-/
import Derived.Test.YtldjhjbodhhnbaaDoorRows
import GoSem.ClaimSeven
namespace Go.Proofs.YtldjhjbodhhnbaaDoor
namespace Rows

/-- THE TIED CARD OF 'etchantlaw39.ListsWrites'. -/
def listsWritesCard : Claim7 := { stood := { row := listsWritesRow, standIns := [], harness := (true, "633f9dbe85674003dbe2cd5409be43472ca93fe64142b5da04892f3cde40cb82"), looks := true }, kinds := [], alts := [], laidByText := true, laidKinds := [.data, .data, .data, .sentinel, .sentinel], laidTests := true, laidLooks := .later }
def ListsWritesCardSaid : Prop := Claim7.holds Tryd.pinned (.plain (OpenSpec.ofChange listsWritesSpec)) listsWritesCard

/-- THE TIED CARD OF 'etchantlaw39.ListsLine'. -/
def listsLineCard : Claim7 := { stood := { row := listsLineRow, standIns := [], harness := (true, "633f9dbe85674003dbe2cd5409be43472ca93fe64142b5da04892f3cde40cb82"), looks := true }, kinds := [], alts := [], laidByText := true, laidKinds := [.data, .data, .data, .sentinel, .sentinel], laidTests := true, laidLooks := .later }
def ListsLineCardSaid : Prop := Claim7.holds Tryd.pinned (.plain (OpenSpec.ofChange listsLineSpec)) listsLineCard

/-- THE TIED CARD OF 'etchantlaw39.ListsReads'. -/
def listsReadsCard : Claim7 := { stood := { row := listsReadsRow, standIns := [], harness := (true, "633f9dbe85674003dbe2cd5409be43472ca93fe64142b5da04892f3cde40cb82"), looks := true }, kinds := [], alts := [], laidByText := true, laidKinds := [.data, .data, .data, .sentinel, .sentinel], laidTests := true, laidLooks := .later }
def ListsReadsCardSaid : Prop := Claim7.holds Tryd.pinned (.plain (OpenSpec.ofChange listsReadsSpec)) listsReadsCard

/-- THE TIED CARD OF 'etchantlaw39.ListsInverse'. -/
def listsInverseCard : Claim7 := { stood := { row := listsInverseRow, standIns := [], harness := (true, "633f9dbe85674003dbe2cd5409be43472ca93fe64142b5da04892f3cde40cb82"), looks := true }, kinds := [], alts := [], laidByText := true, laidKinds := [.data, .data, .data, .sentinel, .sentinel], laidTests := true, laidLooks := .later }
def ListsInverseCardSaid : Prop := Claim7.holds Tryd.pinned (.plain (OpenSpec.ofChange listsInverseSpec)) listsInverseCard

/-- THE TIED CARD OF 'etchantlaw39.ListsCanonical'. -/
def listsCanonicalCard : Claim7 := { stood := { row := listsCanonicalRow, standIns := [], harness := (true, "633f9dbe85674003dbe2cd5409be43472ca93fe64142b5da04892f3cde40cb82"), looks := true }, kinds := [], alts := [], laidByText := true, laidKinds := [.data, .data, .data, .sentinel, .sentinel], laidTests := true, laidLooks := .later }
def ListsCanonicalCardSaid : Prop := Claim7.holds Tryd.pinned (.plain (OpenSpec.ofChange listsCanonicalSpec)) listsCanonicalCard

/-- THE SECOND FORM's CARD OF 'etchantlaw39.ListsWrites'. -/
def listsWritesUptoCard : Claim7 := { stood := { row := listsWritesUptoRow, standIns := [], harness := (true, "633f9dbe85674003dbe2cd5409be43472ca93fe64142b5da04892f3cde40cb82"), looks := true }, kinds := [], alts := [], laidByText := true, laidKinds := [.data, .data, .data, .sentinel, .sentinel], laidTests := true, laidLooks := .later }
def ListsWritesUptoCardSaid : Prop := Claim7.holds Tryd.pinned (.plain (OpenSpec.upto listsWritesSpec)) listsWritesUptoCard

/-- THE SECOND FORM's CARD OF 'etchantlaw39.ListsLine'. -/
def listsLineUptoCard : Claim7 := { stood := { row := listsLineUptoRow, standIns := [], harness := (true, "633f9dbe85674003dbe2cd5409be43472ca93fe64142b5da04892f3cde40cb82"), looks := true }, kinds := [], alts := [], laidByText := true, laidKinds := [.data, .data, .data, .sentinel, .sentinel], laidTests := true, laidLooks := .later }
def ListsLineUptoCardSaid : Prop := Claim7.holds Tryd.pinned (.plain (OpenSpec.upto listsLineSpec)) listsLineUptoCard

/-- THE SECOND FORM's CARD OF 'etchantlaw39.ListsReads'. -/
def listsReadsUptoCard : Claim7 := { stood := { row := listsReadsUptoRow, standIns := [], harness := (true, "633f9dbe85674003dbe2cd5409be43472ca93fe64142b5da04892f3cde40cb82"), looks := true }, kinds := [], alts := [], laidByText := true, laidKinds := [.data, .data, .data, .sentinel, .sentinel], laidTests := true, laidLooks := .later }
def ListsReadsUptoCardSaid : Prop := Claim7.holds Tryd.pinned (.plain (OpenSpec.upto listsReadsSpec)) listsReadsUptoCard

/-- THE SECOND FORM's CARD OF 'etchantlaw39.ListsInverse'. -/
def listsInverseUptoCard : Claim7 := { stood := { row := listsInverseUptoRow, standIns := [], harness := (true, "633f9dbe85674003dbe2cd5409be43472ca93fe64142b5da04892f3cde40cb82"), looks := true }, kinds := [], alts := [], laidByText := true, laidKinds := [.data, .data, .data, .sentinel, .sentinel], laidTests := true, laidLooks := .later }
def ListsInverseUptoCardSaid : Prop := Claim7.holds Tryd.pinned (.plain (OpenSpec.upto listsInverseSpec)) listsInverseUptoCard

/-- THE SECOND FORM's CARD OF 'etchantlaw39.ListsCanonical'. -/
def listsCanonicalUptoCard : Claim7 := { stood := { row := listsCanonicalUptoRow, standIns := [], harness := (true, "633f9dbe85674003dbe2cd5409be43472ca93fe64142b5da04892f3cde40cb82"), looks := true }, kinds := [], alts := [], laidByText := true, laidKinds := [.data, .data, .data, .sentinel, .sentinel], laidTests := true, laidLooks := .later }
def ListsCanonicalUptoCardSaid : Prop := Claim7.holds Tryd.pinned (.plain (OpenSpec.upto listsCanonicalSpec)) listsCanonicalUptoCard
end Rows
end Go.Proofs.YtldjhjbodhhnbaaDoor
