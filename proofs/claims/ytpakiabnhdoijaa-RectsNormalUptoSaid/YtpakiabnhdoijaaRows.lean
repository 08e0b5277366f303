/-
  No cell of these rows narrows 'for every input' (looked for: loops, veiled, ifaces, maps, wideKeys, modest, calm, conditions, laid).
  DERIVED. THE GIVEN ROWS OF THIS SEAT. 6 by the template 'for every input the law returns true; each argument reads behind the call as it read before'; 0 by the template 'total and deterministic' (their statements: YtpakiabnhdoijaaTotals.lean).
  GIVEN WITH THE SEED: the statements are not yours to turn. If you find one false, say at which input.
  Laid BY PROGRAM, IN A SANDBOX (cutbox-rows.mjs): the forced cells as the released guide's own fill.sh prints them over the translation 7dd089d6934df21e… (all of the seat's roots in one cut). By AI agents, Wed Nov 11 2026. No macro, syntax, notation, axiom, sorry.
-/
import Derived.Test.YtpakiabnhdoijaaChecked
import GoSem.Claim
import GoSem.ClaimJoined
import GoSem.ClaimMapViews
import Derived.JoinedTies
import Derived.KernelRfl
namespace Go.Proofs.Ytpakiabnhdoijaa
/- THE CELL 'sum', in the pinned program and in every row, IS THE sha256 OF THE DUMP (.gsa) THAT YtpakiabnhdoijaaProg.lean LOADS. Nothing in Lean hashes anything: it is a label: what it is worth is what the hold of that sum in a sandbox is worth. -/
noncomputable def Try.pinned : Pinned := { name := "ytpakiabnhdoijaa", sum := "7dd089d6934df21ed2bd74003100f157cb27b1f0cc3e794899cafd995f27b2ce", checked := Try.checked }
namespace Rows
def none {H : Type} : Left H := { results := [], args := [] }

/-- 'etchantlaw11.RectsNorms': WHATEVER THE INPUT: true; the input reads as it did. -/
def rectsNormsSpec : ChangeSpec := { name := "rectsNorms", fn := fun _ => fun
  | [d1, d2, d3] => { results := [.lit (.bool true)], args := [d1, d2, d3] }
  | _ => none }
def rectsNormsRow : OpenClaim := { program := "ytpakiabnhdoijaa", sum := "7dd089d6934df21ed2bd74003100f157cb27b1f0cc3e794899cafd995f27b2ce", func := "etchant/etchantlaw11.RectsNorms", spec := "rectsNorms", unfollowed := true, recurses := true, apart := false }
def RectsNormsSaid : Prop := rectsNormsRow.holds Try.pinned (OpenSpec.ofChange rectsNormsSpec)

/-- ITS FALSE NEIGHBOUR: 'it returns false'. Refute it at one input. -/
def rectsNormsWrong : ChangeSpec := { name := "rectsNorms", fn := fun _ => fun
  | [d1, d2, d3] => { results := [.lit (.bool false)], args := [d1, d2, d3] }
  | _ => none }
def RectsNormsWrongFalsely : Prop := rectsNormsRow.holds Try.pinned (OpenSpec.ofChange rectsNormsWrong)

/-- 'etchantlaw11.RectsCombines': WHATEVER THE INPUT: true; the input reads as it did. -/
def rectsCombinesSpec : ChangeSpec := { name := "rectsCombines", fn := fun _ => fun
  | [d1, d2, d3] => { results := [.lit (.bool true)], args := [d1, d2, d3] }
  | _ => none }
def rectsCombinesRow : OpenClaim := { program := "ytpakiabnhdoijaa", sum := "7dd089d6934df21ed2bd74003100f157cb27b1f0cc3e794899cafd995f27b2ce", func := "etchant/etchantlaw11.RectsCombines", spec := "rectsCombines", unfollowed := true, recurses := true, apart := false }
def RectsCombinesSaid : Prop := rectsCombinesRow.holds Try.pinned (OpenSpec.ofChange rectsCombinesSpec)

/-- ITS FALSE NEIGHBOUR: 'it returns false'. Refute it at one input. -/
def rectsCombinesWrong : ChangeSpec := { name := "rectsCombines", fn := fun _ => fun
  | [d1, d2, d3] => { results := [.lit (.bool false)], args := [d1, d2, d3] }
  | _ => none }
def RectsCombinesWrongFalsely : Prop := rectsCombinesRow.holds Try.pinned (OpenSpec.ofChange rectsCombinesWrong)

/-- 'etchantlaw11.RectsSquares': WHATEVER THE INPUT: true; the input reads as it did. -/
def rectsSquaresSpec : ChangeSpec := { name := "rectsSquares", fn := fun _ => fun
  | [d1, d2] => { results := [.lit (.bool true)], args := [d1, d2] }
  | _ => none }
def rectsSquaresRow : OpenClaim := { program := "ytpakiabnhdoijaa", sum := "7dd089d6934df21ed2bd74003100f157cb27b1f0cc3e794899cafd995f27b2ce", func := "etchant/etchantlaw11.RectsSquares", spec := "rectsSquares", unfollowed := true, recurses := true, apart := false }
def RectsSquaresSaid : Prop := rectsSquaresRow.holds Try.pinned (OpenSpec.ofChange rectsSquaresSpec)

/-- ITS FALSE NEIGHBOUR: 'it returns false'. Refute it at one input. -/
def rectsSquaresWrong : ChangeSpec := { name := "rectsSquares", fn := fun _ => fun
  | [d1, d2] => { results := [.lit (.bool false)], args := [d1, d2] }
  | _ => none }
def RectsSquaresWrongFalsely : Prop := rectsSquaresRow.holds Try.pinned (OpenSpec.ofChange rectsSquaresWrong)

/-- 'etchantlaw11.RectsNormal': WHATEVER THE INPUT: true; the input reads as it did. -/
def rectsNormalSpec : ChangeSpec := { name := "rectsNormal", fn := fun _ => fun
  | [d1, d2] => { results := [.lit (.bool true)], args := [d1, d2] }
  | _ => none }
def rectsNormalRow : OpenClaim := { program := "ytpakiabnhdoijaa", sum := "7dd089d6934df21ed2bd74003100f157cb27b1f0cc3e794899cafd995f27b2ce", func := "etchant/etchantlaw11.RectsNormal", spec := "rectsNormal", unfollowed := true, recurses := true, apart := false }
def RectsNormalSaid : Prop := rectsNormalRow.holds Try.pinned (OpenSpec.ofChange rectsNormalSpec)

/-- ITS FALSE NEIGHBOUR: 'it returns false'. Refute it at one input. -/
def rectsNormalWrong : ChangeSpec := { name := "rectsNormal", fn := fun _ => fun
  | [d1, d2] => { results := [.lit (.bool false)], args := [d1, d2] }
  | _ => none }
def RectsNormalWrongFalsely : Prop := rectsNormalRow.holds Try.pinned (OpenSpec.ofChange rectsNormalWrong)

/-- 'etchantlaw11.RectsPieces': WHATEVER THE INPUT: true; the input reads as it did. -/
def rectsPiecesSpec : ChangeSpec := { name := "rectsPieces", fn := fun _ => fun
  | [d] => { results := [.lit (.bool true)], args := [d] }
  | _ => none }
def rectsPiecesRow : OpenClaim := { program := "ytpakiabnhdoijaa", sum := "7dd089d6934df21ed2bd74003100f157cb27b1f0cc3e794899cafd995f27b2ce", func := "etchant/etchantlaw11.RectsPieces", spec := "rectsPieces", unfollowed := true, recurses := true, apart := false }
def RectsPiecesSaid : Prop := rectsPiecesRow.holds Try.pinned (OpenSpec.ofChange rectsPiecesSpec)

/-- ITS FALSE NEIGHBOUR: 'it returns false'. Refute it at one input. -/
def rectsPiecesWrong : ChangeSpec := { name := "rectsPieces", fn := fun _ => fun
  | [d] => { results := [.lit (.bool false)], args := [d] }
  | _ => none }
def RectsPiecesWrongFalsely : Prop := rectsPiecesRow.holds Try.pinned (OpenSpec.ofChange rectsPiecesWrong)

/-- 'etchantlaw11.RectsMoves': WHATEVER THE INPUT: true; the input reads as it did. -/
def rectsMovesSpec : ChangeSpec := { name := "rectsMoves", fn := fun _ => fun
  | [d1, d2, d3] => { results := [.lit (.bool true)], args := [d1, d2, d3] }
  | _ => none }
def rectsMovesRow : OpenClaim := { program := "ytpakiabnhdoijaa", sum := "7dd089d6934df21ed2bd74003100f157cb27b1f0cc3e794899cafd995f27b2ce", func := "etchant/etchantlaw11.RectsMoves", spec := "rectsMoves", unfollowed := true, recurses := true, apart := false }
def RectsMovesSaid : Prop := rectsMovesRow.holds Try.pinned (OpenSpec.ofChange rectsMovesSpec)

/-- ITS FALSE NEIGHBOUR: 'it returns false'. Refute it at one input. -/
def rectsMovesWrong : ChangeSpec := { name := "rectsMoves", fn := fun _ => fun
  | [d1, d2, d3] => { results := [.lit (.bool false)], args := [d1, d2, d3] }
  | _ => none }
def RectsMovesWrongFalsely : Prop := rectsMovesRow.holds Try.pinned (OpenSpec.ofChange rectsMovesWrong)

/- THE SECOND FORM. 'bulk': how many values and letters a reading holds, each counted each time it is reached (what is shared counts as often as it is met; a slice's spare places count too). A statement '..UptoSaid' is the law's where the arguments, and the package variables that the reading takes, are together of bulk at most 1048576: NARROWER than '..Said'. Prove '..Said' where nothing that the law and all that it calls make is longer than what came in: it says more and counts as full. Else prove '..UptoSaid'. A law counts once. -/
mutual
def uptoBulk {H : Type} : DataW H → Nat
  | .lit (.string bytes) => bytes.length + 1
  | .lit _ => 1
  | .nil => 1
  | .ptr d => uptoBulk d + 1
  | .slice elems spare => uptoBulkAll elems + uptoBulkAll spare + 1
  | .agg parts => uptoBulkAll parts + 1
  | .iface _ d => uptoBulk d + 1
  | .map entries => uptoBulkEntries entries + 1
  | .held _ => 1
def uptoBulkAll {H : Type} : List (DataW H) → Nat
  | [] => 0
  | d :: r => uptoBulk d + uptoBulkAll r
def uptoBulkEntries {H : Type} : List (Lit × DataW H) → Nat
  | [] => 0
  | x :: r => uptoBulkEntry x + uptoBulkEntries r
def uptoBulkEntry {H : Type} : Lit × DataW H → Nat
  | (.string bytes, d) => bytes.length + uptoBulk d + 1
  | (_, d) => uptoBulk d + 1
 end
def uptoSmall : (H : Type) → List (DataW H) → Bool := fun _ ds => decide (uptoBulkAll ds ≤ 1048576)
def OpenSpec.upto (s : _root_.Go.ChangeSpec) : _root_.Go.OpenSpec := { _root_.Go.OpenSpec.ofChange s with cond := some uptoSmall }

/-- 'etchantlaw11.RectsNorms', WHERE WHAT IT READS IS OF BULK AT MOST 1048576: true; the input reads as it did. -/
def rectsNormsUptoRow : OpenClaim := { program := "ytpakiabnhdoijaa", sum := "7dd089d6934df21ed2bd74003100f157cb27b1f0cc3e794899cafd995f27b2ce", func := "etchant/etchantlaw11.RectsNorms", spec := "rectsNorms", unfollowed := true, recurses := true, apart := false, narrowed := true }
def RectsNormsUptoSaid : Prop := rectsNormsUptoRow.holds Try.pinned (OpenSpec.upto rectsNormsSpec)

/-- 'etchantlaw11.RectsCombines', WHERE WHAT IT READS IS OF BULK AT MOST 1048576: true; the input reads as it did. -/
def rectsCombinesUptoRow : OpenClaim := { program := "ytpakiabnhdoijaa", sum := "7dd089d6934df21ed2bd74003100f157cb27b1f0cc3e794899cafd995f27b2ce", func := "etchant/etchantlaw11.RectsCombines", spec := "rectsCombines", unfollowed := true, recurses := true, apart := false, narrowed := true }
def RectsCombinesUptoSaid : Prop := rectsCombinesUptoRow.holds Try.pinned (OpenSpec.upto rectsCombinesSpec)

/-- 'etchantlaw11.RectsSquares', WHERE WHAT IT READS IS OF BULK AT MOST 1048576: true; the input reads as it did. -/
def rectsSquaresUptoRow : OpenClaim := { program := "ytpakiabnhdoijaa", sum := "7dd089d6934df21ed2bd74003100f157cb27b1f0cc3e794899cafd995f27b2ce", func := "etchant/etchantlaw11.RectsSquares", spec := "rectsSquares", unfollowed := true, recurses := true, apart := false, narrowed := true }
def RectsSquaresUptoSaid : Prop := rectsSquaresUptoRow.holds Try.pinned (OpenSpec.upto rectsSquaresSpec)

/-- 'etchantlaw11.RectsNormal', WHERE WHAT IT READS IS OF BULK AT MOST 1048576: true; the input reads as it did. -/
def rectsNormalUptoRow : OpenClaim := { program := "ytpakiabnhdoijaa", sum := "7dd089d6934df21ed2bd74003100f157cb27b1f0cc3e794899cafd995f27b2ce", func := "etchant/etchantlaw11.RectsNormal", spec := "rectsNormal", unfollowed := true, recurses := true, apart := false, narrowed := true }
def RectsNormalUptoSaid : Prop := rectsNormalUptoRow.holds Try.pinned (OpenSpec.upto rectsNormalSpec)

/-- 'etchantlaw11.RectsPieces', WHERE WHAT IT READS IS OF BULK AT MOST 1048576: true; the input reads as it did. -/
def rectsPiecesUptoRow : OpenClaim := { program := "ytpakiabnhdoijaa", sum := "7dd089d6934df21ed2bd74003100f157cb27b1f0cc3e794899cafd995f27b2ce", func := "etchant/etchantlaw11.RectsPieces", spec := "rectsPieces", unfollowed := true, recurses := true, apart := false, narrowed := true }
def RectsPiecesUptoSaid : Prop := rectsPiecesUptoRow.holds Try.pinned (OpenSpec.upto rectsPiecesSpec)

/-- 'etchantlaw11.RectsMoves', WHERE WHAT IT READS IS OF BULK AT MOST 1048576: true; the input reads as it did. -/
def rectsMovesUptoRow : OpenClaim := { program := "ytpakiabnhdoijaa", sum := "7dd089d6934df21ed2bd74003100f157cb27b1f0cc3e794899cafd995f27b2ce", func := "etchant/etchantlaw11.RectsMoves", spec := "rectsMoves", unfollowed := true, recurses := true, apart := false, narrowed := true }
def RectsMovesUptoSaid : Prop := rectsMovesUptoRow.holds Try.pinned (OpenSpec.upto rectsMovesSpec)

end Rows
end Go.Proofs.Ytpakiabnhdoijaa
