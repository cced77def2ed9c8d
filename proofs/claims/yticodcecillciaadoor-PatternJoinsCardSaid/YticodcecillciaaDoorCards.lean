/-
  DERIVED. GIVEN WITH THE SEED: THE CARDS: each row of YticodcecillciaaDoorRows.lean that lists a variable, with what it lists TIED to the program's text (the seventh form; the later family's looks); each row that meets fmt, with fmt's text TOLD by the authors' own Lean function (tested against real Go, not proved from fmt's source: count such statements apart). THE CARD IS WHAT COUNTS. Prove the row's statement (the work); the ties are given (YticodcecillciaaDoorTie.lean); close each card by the builder's one call (the guide's Derived/Test/ToyasCard.lean, 'card_holds'). Laid BY PROGRAM, IN A SANDBOX (cutbox-door.mjs). By AI agents, Wed Nov 11 2026. No macro, syntax, notation, axiom, sorry.
-/
import Derived.Test.YticodcecillciaaDoorRows
import GoSem.ClaimSeven
namespace Go.Proofs.YticodcecillciaaDoor
namespace Rows

/-- THE TIED CARD OF 'tabardlaw13.PatternShapes'. -/
def patternShapesCard : Claim7 := { stood := { row := patternShapesRow, standIns := [], harness := (true, "0b24f32359f53f77003832d5f2669884450be66d3872ad1353fe2814e9b78e6d"), looks := true }, kinds := [], alts := [], laidByText := true, laidKinds := [.data, .pinned], laidTests := true, laidLooks := .later }
def PatternShapesCardSaid : Prop := Claim7.holds Tryd.pinned (.plain (OpenSpec.ofChange patternShapesSpec)) patternShapesCard

/-- THE TIED CARD OF 'tabardlaw13.PatternPrints'. -/
def patternPrintsCard : Claim7 := { stood := { row := patternPrintsRow, standIns := [], harness := (true, "0b24f32359f53f77003832d5f2669884450be66d3872ad1353fe2814e9b78e6d"), looks := true }, kinds := [], alts := [], laidByText := true, laidKinds := [.data, .pinned], laidTests := true, laidLooks := .later }
def PatternPrintsCardSaid : Prop := Claim7.holds Tryd.pinned (.plain (OpenSpec.ofChange patternPrintsSpec)) patternPrintsCard

/-- THE TIED CARD OF 'tabardlaw13.PatternJoins'. -/
def patternJoinsCard : Claim7 := { stood := { row := patternJoinsRow, standIns := [], harness := (true, "0b24f32359f53f77003832d5f2669884450be66d3872ad1353fe2814e9b78e6d"), looks := true }, kinds := [], alts := [], laidByText := true, laidKinds := [.data, .pinned], laidTests := true, laidLooks := .later }
def PatternJoinsCardSaid : Prop := Claim7.holds Tryd.pinned (.plain (OpenSpec.ofChange patternJoinsSpec)) patternJoinsCard

/-- THE SECOND FORM's CARD OF 'tabardlaw13.PatternShapes'. -/
def patternShapesUptoCard : Claim7 := { stood := { row := patternShapesUptoRow, standIns := [], harness := (true, "0b24f32359f53f77003832d5f2669884450be66d3872ad1353fe2814e9b78e6d"), looks := true }, kinds := [], alts := [], laidByText := true, laidKinds := [.data, .pinned], laidTests := true, laidLooks := .later }
def PatternShapesUptoCardSaid : Prop := Claim7.holds Tryd.pinned (.plain (OpenSpec.upto patternShapesSpec)) patternShapesUptoCard

/-- THE SECOND FORM's CARD OF 'tabardlaw13.PatternPrints'. -/
def patternPrintsUptoCard : Claim7 := { stood := { row := patternPrintsUptoRow, standIns := [], harness := (true, "0b24f32359f53f77003832d5f2669884450be66d3872ad1353fe2814e9b78e6d"), looks := true }, kinds := [], alts := [], laidByText := true, laidKinds := [.data, .pinned], laidTests := true, laidLooks := .later }
def PatternPrintsUptoCardSaid : Prop := Claim7.holds Tryd.pinned (.plain (OpenSpec.upto patternPrintsSpec)) patternPrintsUptoCard

/-- THE SECOND FORM's CARD OF 'tabardlaw13.PatternJoins'. -/
def patternJoinsUptoCard : Claim7 := { stood := { row := patternJoinsUptoRow, standIns := [], harness := (true, "0b24f32359f53f77003832d5f2669884450be66d3872ad1353fe2814e9b78e6d"), looks := true }, kinds := [], alts := [], laidByText := true, laidKinds := [.data, .pinned], laidTests := true, laidLooks := .later }
def PatternJoinsUptoCardSaid : Prop := Claim7.holds Tryd.pinned (.plain (OpenSpec.upto patternJoinsSpec)) patternJoinsUptoCard
end Rows
end Go.Proofs.YticodcecillciaaDoor
