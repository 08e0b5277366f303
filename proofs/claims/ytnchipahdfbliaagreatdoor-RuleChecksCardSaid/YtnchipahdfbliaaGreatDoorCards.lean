/-
  DERIVED. GIVEN WITH THE SEED: THE CARDS: each row of YtnchipahdfbliaaGreatDoorRows.lean that lists a variable, with what it lists TIED to the program's text (the seventh form; the later family's looks); each row that meets fmt, with fmt's text TOLD by the authors' own Lean function (tested against real Go, not proved from fmt's source: count such statements apart). THE CARD IS WHAT COUNTS. Prove the row's statement (the work); the ties are given (YtnchipahdfbliaaGreatDoorTie.lean); close each card by the builder's one call (the guide's Derived/Test/ToyasCard.lean, 'card_holds'). Laid BY PROGRAM, IN A SANDBOX (cutbox-door.mjs). By AI agents, Wed Nov 11 2026. No macro, syntax, notation, axiom, sorry.
-/
import Derived.Test.YtnchipahdfbliaaGreatDoorRows
import GoSem.ClaimSeven
namespace Go.Proofs.YtnchipahdfbliaaGreatDoor
namespace Rows

/-- THE TIED CARD OF 'etchantlaw20.RuleChecks'. -/
def ruleChecksCard : Claim7 := { stood := { row := ruleChecksRow, standIns := [], harness := (true, "d126f9cdb3bc30c11472ed5ff85c2a45cb3c5159ef880dcf32245fc64880bbd8"), looks := true }, kinds := [], alts := [], laidByText := true, laidKinds := [.data, .data, .data, .data, .sentinel, .sentinel, .pinned], laidTests := true, laidLooks := .later }
def RuleChecksCardSaid : Prop := Claim7.holds Tryz.pinned (.plain (OpenSpec.ofChange ruleChecksSpec)) ruleChecksCard

/-- THE TIED CARD OF 'etchantlaw20.RuleParses'. -/
def ruleParsesCard : Claim7 := { stood := { row := ruleParsesRow, standIns := [], harness := (true, "d126f9cdb3bc30c11472ed5ff85c2a45cb3c5159ef880dcf32245fc64880bbd8"), looks := true }, kinds := [], alts := [], laidByText := true, laidKinds := [.data, .data, .data, .data, .sentinel, .sentinel, .pinned], laidTests := true, laidLooks := .later }
def RuleParsesCardSaid : Prop := Claim7.holds Tryz.pinned (.plain (OpenSpec.ofChange ruleParsesSpec)) ruleParsesCard

/-- THE TIED CARD OF 'etchantlaw20.RuleWords'. -/
def ruleWordsCard : Claim7 := { stood := { row := ruleWordsRow, standIns := [], harness := (true, "d126f9cdb3bc30c11472ed5ff85c2a45cb3c5159ef880dcf32245fc64880bbd8"), looks := true }, kinds := [], alts := [], laidByText := true, laidKinds := [.data, .data, .data, .data, .sentinel, .sentinel, .pinned], laidTests := true, laidLooks := .later }
def RuleWordsCardSaid : Prop := Claim7.holds Tryz.pinned (.plain (OpenSpec.ofChange ruleWordsSpec)) ruleWordsCard

/-- THE TIED CARD OF 'etchantlaw20.RuleBack'. -/
def ruleBackCard : Claim7 := { stood := { row := ruleBackRow, standIns := [], harness := (true, "d126f9cdb3bc30c11472ed5ff85c2a45cb3c5159ef880dcf32245fc64880bbd8"), looks := true }, kinds := [], alts := [], laidByText := true, laidKinds := [.data, .data, .data, .data, .sentinel, .sentinel, .pinned], laidTests := true, laidLooks := .later }
def RuleBackCardSaid : Prop := Claim7.holds Tryz.pinned (.plain (OpenSpec.ofChange ruleBackSpec)) ruleBackCard

/-- THE TIED CARD OF 'etchantlaw20.RuleBrackets'. -/
def ruleBracketsCard : Claim7 := { stood := { row := ruleBracketsRow, standIns := [], harness := (true, "d126f9cdb3bc30c11472ed5ff85c2a45cb3c5159ef880dcf32245fc64880bbd8"), looks := true }, kinds := [], alts := [], laidByText := true, laidKinds := [.data, .data, .data, .data, .sentinel, .sentinel, .pinned], laidTests := true, laidLooks := .later }
def RuleBracketsCardSaid : Prop := Claim7.holds Tryz.pinned (.plain (OpenSpec.ofChange ruleBracketsSpec)) ruleBracketsCard

/-- THE TIED CARD OF 'etchantlaw20.RuleLines'. -/
def ruleLinesCard : Claim7 := { stood := { row := ruleLinesRow, standIns := [], harness := (true, "d126f9cdb3bc30c11472ed5ff85c2a45cb3c5159ef880dcf32245fc64880bbd8"), looks := true }, kinds := [], alts := [], laidByText := true, laidKinds := [.data, .data, .data, .data, .sentinel, .sentinel, .pinned], laidTests := true, laidLooks := .later }
def RuleLinesCardSaid : Prop := Claim7.holds Tryz.pinned (.plain (OpenSpec.ofChange ruleLinesSpec)) ruleLinesCard

/-- THE SECOND FORM's CARD OF 'etchantlaw20.RuleChecks'. -/
def ruleChecksUptoCard : Claim7 := { stood := { row := ruleChecksUptoRow, standIns := [], harness := (true, "d126f9cdb3bc30c11472ed5ff85c2a45cb3c5159ef880dcf32245fc64880bbd8"), looks := true }, kinds := [], alts := [], laidByText := true, laidKinds := [.data, .data, .data, .data, .sentinel, .sentinel, .pinned], laidTests := true, laidLooks := .later }
def RuleChecksUptoCardSaid : Prop := Claim7.holds Tryz.pinned (.plain (OpenSpec.upto ruleChecksSpec)) ruleChecksUptoCard

/-- THE SECOND FORM's CARD OF 'etchantlaw20.RuleParses'. -/
def ruleParsesUptoCard : Claim7 := { stood := { row := ruleParsesUptoRow, standIns := [], harness := (true, "d126f9cdb3bc30c11472ed5ff85c2a45cb3c5159ef880dcf32245fc64880bbd8"), looks := true }, kinds := [], alts := [], laidByText := true, laidKinds := [.data, .data, .data, .data, .sentinel, .sentinel, .pinned], laidTests := true, laidLooks := .later }
def RuleParsesUptoCardSaid : Prop := Claim7.holds Tryz.pinned (.plain (OpenSpec.upto ruleParsesSpec)) ruleParsesUptoCard

/-- THE SECOND FORM's CARD OF 'etchantlaw20.RuleWords'. -/
def ruleWordsUptoCard : Claim7 := { stood := { row := ruleWordsUptoRow, standIns := [], harness := (true, "d126f9cdb3bc30c11472ed5ff85c2a45cb3c5159ef880dcf32245fc64880bbd8"), looks := true }, kinds := [], alts := [], laidByText := true, laidKinds := [.data, .data, .data, .data, .sentinel, .sentinel, .pinned], laidTests := true, laidLooks := .later }
def RuleWordsUptoCardSaid : Prop := Claim7.holds Tryz.pinned (.plain (OpenSpec.upto ruleWordsSpec)) ruleWordsUptoCard

/-- THE SECOND FORM's CARD OF 'etchantlaw20.RuleBack'. -/
def ruleBackUptoCard : Claim7 := { stood := { row := ruleBackUptoRow, standIns := [], harness := (true, "d126f9cdb3bc30c11472ed5ff85c2a45cb3c5159ef880dcf32245fc64880bbd8"), looks := true }, kinds := [], alts := [], laidByText := true, laidKinds := [.data, .data, .data, .data, .sentinel, .sentinel, .pinned], laidTests := true, laidLooks := .later }
def RuleBackUptoCardSaid : Prop := Claim7.holds Tryz.pinned (.plain (OpenSpec.upto ruleBackSpec)) ruleBackUptoCard

/-- THE SECOND FORM's CARD OF 'etchantlaw20.RuleBrackets'. -/
def ruleBracketsUptoCard : Claim7 := { stood := { row := ruleBracketsUptoRow, standIns := [], harness := (true, "d126f9cdb3bc30c11472ed5ff85c2a45cb3c5159ef880dcf32245fc64880bbd8"), looks := true }, kinds := [], alts := [], laidByText := true, laidKinds := [.data, .data, .data, .data, .sentinel, .sentinel, .pinned], laidTests := true, laidLooks := .later }
def RuleBracketsUptoCardSaid : Prop := Claim7.holds Tryz.pinned (.plain (OpenSpec.upto ruleBracketsSpec)) ruleBracketsUptoCard

/-- THE SECOND FORM's CARD OF 'etchantlaw20.RuleLines'. -/
def ruleLinesUptoCard : Claim7 := { stood := { row := ruleLinesUptoRow, standIns := [], harness := (true, "d126f9cdb3bc30c11472ed5ff85c2a45cb3c5159ef880dcf32245fc64880bbd8"), looks := true }, kinds := [], alts := [], laidByText := true, laidKinds := [.data, .data, .data, .data, .sentinel, .sentinel, .pinned], laidTests := true, laidLooks := .later }
def RuleLinesUptoCardSaid : Prop := Claim7.holds Tryz.pinned (.plain (OpenSpec.upto ruleLinesSpec)) ruleLinesUptoCard
end Rows
end Go.Proofs.YtnchipahdfbliaaGreatDoor
