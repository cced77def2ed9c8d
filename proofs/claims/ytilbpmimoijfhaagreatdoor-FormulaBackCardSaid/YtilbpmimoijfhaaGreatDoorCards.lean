/-
  DERIVED. GIVEN WITH THE SEED: THE CARDS: each row of YtilbpmimoijfhaaGreatDoorRows.lean that lists a variable, with what it lists TIED to the program's text (the seventh form; the later family's looks); each row that meets fmt, with fmt's text TOLD by the authors' own Lean function (tested against real Go, not proved from fmt's source: count such statements apart). THE CARD IS WHAT COUNTS. Prove the row's statement (the work); the ties are given (YtilbpmimoijfhaaGreatDoorTie.lean); close each card by the builder's one call (the guide's Derived/Test/ToyasCard.lean, 'card_holds'). Laid BY PROGRAM, IN A SANDBOX (cutbox-door.mjs). By AI agents, Wed Nov 11 2026. No macro, syntax, notation, axiom, sorry.
-/
import Derived.Test.YtilbpmimoijfhaaGreatDoorRows
import GoSem.ClaimSeven
namespace Go.Proofs.YtilbpmimoijfhaaGreatDoor
namespace Rows

/-- THE TIED CARD OF 'tabardlaw16.FormulaSizes'. -/
def formulaSizesCard : Claim7 := { stood := { row := formulaSizesRow, standIns := [], harness := (true, "79edd657e8e1f0ec52501b963d319c37a8f6410406a5b9b00e248875d34638fe"), looks := true }, kinds := [], alts := [], laidByText := true, laidKinds := [.data, .data, .data, .data, .sentinel, .sentinel, .data, .data, .pinned], laidTests := true, laidLooks := .later }
def FormulaSizesCardSaid : Prop := Claim7.holds Tryz.pinned (.plain (OpenSpec.ofChange formulaSizesSpec)) formulaSizesCard

/-- THE TIED CARD OF 'tabardlaw16.FormulaPrints'. -/
def formulaPrintsCard : Claim7 := { stood := { row := formulaPrintsRow, standIns := [], harness := (true, "79edd657e8e1f0ec52501b963d319c37a8f6410406a5b9b00e248875d34638fe"), looks := true }, kinds := [], alts := [], laidByText := true, laidKinds := [.data, .data, .data, .data, .sentinel, .sentinel, .data, .data, .pinned], laidTests := true, laidLooks := .later }
def FormulaPrintsCardSaid : Prop := Claim7.holds Tryz.pinned (.plain (OpenSpec.ofChange formulaPrintsSpec)) formulaPrintsCard

/-- THE TIED CARD OF 'tabardlaw16.FormulaBack'. -/
def formulaBackCard : Claim7 := { stood := { row := formulaBackRow, standIns := [], harness := (true, "79edd657e8e1f0ec52501b963d319c37a8f6410406a5b9b00e248875d34638fe"), looks := true }, kinds := [], alts := [], laidByText := true, laidKinds := [.data, .data, .data, .data, .sentinel, .sentinel, .data, .data, .pinned], laidTests := true, laidLooks := .later }
def FormulaBackCardSaid : Prop := Claim7.holds Tryz.pinned (.plain (OpenSpec.ofChange formulaBackSpec)) formulaBackCard

/-- THE TIED CARD OF 'tabardlaw16.FormulaLocales'. -/
def formulaLocalesCard : Claim7 := { stood := { row := formulaLocalesRow, standIns := [], harness := (true, "79edd657e8e1f0ec52501b963d319c37a8f6410406a5b9b00e248875d34638fe"), looks := true }, kinds := [], alts := [], laidByText := true, laidKinds := [.data, .data, .data, .data, .sentinel, .sentinel, .data, .data, .pinned], laidTests := true, laidLooks := .later }
def FormulaLocalesCardSaid : Prop := Claim7.holds Tryz.pinned (.plain (OpenSpec.ofChange formulaLocalesSpec)) formulaLocalesCard

/-- THE TIED CARD OF 'tabardlaw16.FormulaBrackets'. -/
def formulaBracketsCard : Claim7 := { stood := { row := formulaBracketsRow, standIns := [], harness := (true, "79edd657e8e1f0ec52501b963d319c37a8f6410406a5b9b00e248875d34638fe"), looks := true }, kinds := [], alts := [], laidByText := true, laidKinds := [.data, .data, .data, .data, .sentinel, .sentinel, .data, .data, .pinned], laidTests := true, laidLooks := .later }
def FormulaBracketsCardSaid : Prop := Claim7.holds Tryz.pinned (.plain (OpenSpec.ofChange formulaBracketsSpec)) formulaBracketsCard

/-- THE SECOND FORM's CARD OF 'tabardlaw16.FormulaSizes'. -/
def formulaSizesUptoCard : Claim7 := { stood := { row := formulaSizesUptoRow, standIns := [], harness := (true, "79edd657e8e1f0ec52501b963d319c37a8f6410406a5b9b00e248875d34638fe"), looks := true }, kinds := [], alts := [], laidByText := true, laidKinds := [.data, .data, .data, .data, .sentinel, .sentinel, .data, .data, .pinned], laidTests := true, laidLooks := .later }
def FormulaSizesUptoCardSaid : Prop := Claim7.holds Tryz.pinned (.plain (OpenSpec.upto formulaSizesSpec)) formulaSizesUptoCard

/-- THE SECOND FORM's CARD OF 'tabardlaw16.FormulaPrints'. -/
def formulaPrintsUptoCard : Claim7 := { stood := { row := formulaPrintsUptoRow, standIns := [], harness := (true, "79edd657e8e1f0ec52501b963d319c37a8f6410406a5b9b00e248875d34638fe"), looks := true }, kinds := [], alts := [], laidByText := true, laidKinds := [.data, .data, .data, .data, .sentinel, .sentinel, .data, .data, .pinned], laidTests := true, laidLooks := .later }
def FormulaPrintsUptoCardSaid : Prop := Claim7.holds Tryz.pinned (.plain (OpenSpec.upto formulaPrintsSpec)) formulaPrintsUptoCard

/-- THE SECOND FORM's CARD OF 'tabardlaw16.FormulaBack'. -/
def formulaBackUptoCard : Claim7 := { stood := { row := formulaBackUptoRow, standIns := [], harness := (true, "79edd657e8e1f0ec52501b963d319c37a8f6410406a5b9b00e248875d34638fe"), looks := true }, kinds := [], alts := [], laidByText := true, laidKinds := [.data, .data, .data, .data, .sentinel, .sentinel, .data, .data, .pinned], laidTests := true, laidLooks := .later }
def FormulaBackUptoCardSaid : Prop := Claim7.holds Tryz.pinned (.plain (OpenSpec.upto formulaBackSpec)) formulaBackUptoCard

/-- THE SECOND FORM's CARD OF 'tabardlaw16.FormulaLocales'. -/
def formulaLocalesUptoCard : Claim7 := { stood := { row := formulaLocalesUptoRow, standIns := [], harness := (true, "79edd657e8e1f0ec52501b963d319c37a8f6410406a5b9b00e248875d34638fe"), looks := true }, kinds := [], alts := [], laidByText := true, laidKinds := [.data, .data, .data, .data, .sentinel, .sentinel, .data, .data, .pinned], laidTests := true, laidLooks := .later }
def FormulaLocalesUptoCardSaid : Prop := Claim7.holds Tryz.pinned (.plain (OpenSpec.upto formulaLocalesSpec)) formulaLocalesUptoCard

/-- THE SECOND FORM's CARD OF 'tabardlaw16.FormulaBrackets'. -/
def formulaBracketsUptoCard : Claim7 := { stood := { row := formulaBracketsUptoRow, standIns := [], harness := (true, "79edd657e8e1f0ec52501b963d319c37a8f6410406a5b9b00e248875d34638fe"), looks := true }, kinds := [], alts := [], laidByText := true, laidKinds := [.data, .data, .data, .data, .sentinel, .sentinel, .data, .data, .pinned], laidTests := true, laidLooks := .later }
def FormulaBracketsUptoCardSaid : Prop := Claim7.holds Tryz.pinned (.plain (OpenSpec.upto formulaBracketsSpec)) formulaBracketsUptoCard
end Rows
end Go.Proofs.YtilbpmimoijfhaaGreatDoor
