/-
  DERIVED. GIVEN WITH THE SEED: THE CARDS: each row of YtbbeeglfgnabmaaDoorRows.lean that lists a variable, with what it lists TIED to the program's text (the seventh form; the later family's looks); each row that meets fmt, with fmt's text TOLD by the authors' own Lean function (tested against real Go, not proved from fmt's source: count such statements apart). THE CARD IS WHAT COUNTS. Prove the row's statement (the work); the ties are given (YtbbeeglfgnabmaaDoorTie.lean); close each card by the builder's one call (the guide's Derived/Test/ToyasCard.lean, 'card_holds'). Laid BY PROGRAM, IN A SANDBOX (cutbox-door.mjs). By AI agents, Wed Nov 11 2026. No macro, syntax, notation, axiom, sorry.
-/
import Derived.Test.YtbbeeglfgnabmaaDoorRows
import GoSem.ClaimSeven
namespace Go.Proofs.YtbbeeglfgnabmaaDoor
namespace Rows

/-- THE TIED CARD OF 'tabardlaw15.CellTexts'. -/
def cellTextsCard : Claim7 := { stood := { row := cellTextsRow, standIns := [], harness := (true, "dc9863e2ba059cbbf7586f893a78f3389b86f709c42da59d6de8932d3c97c6f0"), looks := true }, kinds := [], alts := [], laidByText := true, laidKinds := [.data, .data, .data, .sentinel, .sentinel], laidTests := true, laidLooks := .later }
def CellTextsCardSaid : Prop := Claim7.holds Tryd.pinned (.plain (OpenSpec.ofChange cellTextsSpec)) cellTextsCard

/-- THE TIED CARD OF 'tabardlaw15.CellMoves'. -/
def cellMovesCard : Claim7 := { stood := { row := cellMovesRow, standIns := [], harness := (true, "dc9863e2ba059cbbf7586f893a78f3389b86f709c42da59d6de8932d3c97c6f0"), looks := true }, kinds := [], alts := [], laidByText := true, laidKinds := [.data, .data, .data, .sentinel, .sentinel], laidTests := true, laidLooks := .later }
def CellMovesCardSaid : Prop := Claim7.holds Tryd.pinned (.plain (OpenSpec.ofChange cellMovesSpec)) cellMovesCard

/-- THE TIED CARD OF 'tabardlaw15.CellBack'. -/
def cellBackCard : Claim7 := { stood := { row := cellBackRow, standIns := [], harness := (true, "dc9863e2ba059cbbf7586f893a78f3389b86f709c42da59d6de8932d3c97c6f0"), looks := true }, kinds := [], alts := [], laidByText := true, laidKinds := [.data, .data, .data, .sentinel, .sentinel], laidTests := true, laidLooks := .later }
def CellBackCardSaid : Prop := Claim7.holds Tryd.pinned (.plain (OpenSpec.ofChange cellBackSpec)) cellBackCard

/-- THE TIED CARD OF 'tabardlaw15.CellThere'. -/
def cellThereCard : Claim7 := { stood := { row := cellThereRow, standIns := [], harness := (true, "dc9863e2ba059cbbf7586f893a78f3389b86f709c42da59d6de8932d3c97c6f0"), looks := true }, kinds := [], alts := [], laidByText := true, laidKinds := [.data, .data, .data, .sentinel, .sentinel], laidTests := true, laidLooks := .later }
def CellThereCardSaid : Prop := Claim7.holds Tryd.pinned (.plain (OpenSpec.ofChange cellThereSpec)) cellThereCard

/-- THE TIED CARD OF 'tabardlaw15.CellAreas'. -/
def cellAreasCard : Claim7 := { stood := { row := cellAreasRow, standIns := [], harness := (true, "dc9863e2ba059cbbf7586f893a78f3389b86f709c42da59d6de8932d3c97c6f0"), looks := true }, kinds := [], alts := [], laidByText := true, laidKinds := [.data, .data, .data, .sentinel, .sentinel], laidTests := true, laidLooks := .later }
def CellAreasCardSaid : Prop := Claim7.holds Tryd.pinned (.plain (OpenSpec.ofChange cellAreasSpec)) cellAreasCard

/-- THE TIED CARD OF 'tabardlaw15.CellCovers'. -/
def cellCoversCard : Claim7 := { stood := { row := cellCoversRow, standIns := [], harness := (true, "dc9863e2ba059cbbf7586f893a78f3389b86f709c42da59d6de8932d3c97c6f0"), looks := true }, kinds := [], alts := [], laidByText := true, laidKinds := [.data, .data, .data, .sentinel, .sentinel], laidTests := true, laidLooks := .later }
def CellCoversCardSaid : Prop := Claim7.holds Tryd.pinned (.plain (OpenSpec.ofChange cellCoversSpec)) cellCoversCard

/-- THE SECOND FORM's CARD OF 'tabardlaw15.CellTexts'. -/
def cellTextsUptoCard : Claim7 := { stood := { row := cellTextsUptoRow, standIns := [], harness := (true, "dc9863e2ba059cbbf7586f893a78f3389b86f709c42da59d6de8932d3c97c6f0"), looks := true }, kinds := [], alts := [], laidByText := true, laidKinds := [.data, .data, .data, .sentinel, .sentinel], laidTests := true, laidLooks := .later }
def CellTextsUptoCardSaid : Prop := Claim7.holds Tryd.pinned (.plain (OpenSpec.upto cellTextsSpec)) cellTextsUptoCard

/-- THE SECOND FORM's CARD OF 'tabardlaw15.CellMoves'. -/
def cellMovesUptoCard : Claim7 := { stood := { row := cellMovesUptoRow, standIns := [], harness := (true, "dc9863e2ba059cbbf7586f893a78f3389b86f709c42da59d6de8932d3c97c6f0"), looks := true }, kinds := [], alts := [], laidByText := true, laidKinds := [.data, .data, .data, .sentinel, .sentinel], laidTests := true, laidLooks := .later }
def CellMovesUptoCardSaid : Prop := Claim7.holds Tryd.pinned (.plain (OpenSpec.upto cellMovesSpec)) cellMovesUptoCard

/-- THE SECOND FORM's CARD OF 'tabardlaw15.CellBack'. -/
def cellBackUptoCard : Claim7 := { stood := { row := cellBackUptoRow, standIns := [], harness := (true, "dc9863e2ba059cbbf7586f893a78f3389b86f709c42da59d6de8932d3c97c6f0"), looks := true }, kinds := [], alts := [], laidByText := true, laidKinds := [.data, .data, .data, .sentinel, .sentinel], laidTests := true, laidLooks := .later }
def CellBackUptoCardSaid : Prop := Claim7.holds Tryd.pinned (.plain (OpenSpec.upto cellBackSpec)) cellBackUptoCard

/-- THE SECOND FORM's CARD OF 'tabardlaw15.CellThere'. -/
def cellThereUptoCard : Claim7 := { stood := { row := cellThereUptoRow, standIns := [], harness := (true, "dc9863e2ba059cbbf7586f893a78f3389b86f709c42da59d6de8932d3c97c6f0"), looks := true }, kinds := [], alts := [], laidByText := true, laidKinds := [.data, .data, .data, .sentinel, .sentinel], laidTests := true, laidLooks := .later }
def CellThereUptoCardSaid : Prop := Claim7.holds Tryd.pinned (.plain (OpenSpec.upto cellThereSpec)) cellThereUptoCard

/-- THE SECOND FORM's CARD OF 'tabardlaw15.CellAreas'. -/
def cellAreasUptoCard : Claim7 := { stood := { row := cellAreasUptoRow, standIns := [], harness := (true, "dc9863e2ba059cbbf7586f893a78f3389b86f709c42da59d6de8932d3c97c6f0"), looks := true }, kinds := [], alts := [], laidByText := true, laidKinds := [.data, .data, .data, .sentinel, .sentinel], laidTests := true, laidLooks := .later }
def CellAreasUptoCardSaid : Prop := Claim7.holds Tryd.pinned (.plain (OpenSpec.upto cellAreasSpec)) cellAreasUptoCard

/-- THE SECOND FORM's CARD OF 'tabardlaw15.CellCovers'. -/
def cellCoversUptoCard : Claim7 := { stood := { row := cellCoversUptoRow, standIns := [], harness := (true, "dc9863e2ba059cbbf7586f893a78f3389b86f709c42da59d6de8932d3c97c6f0"), looks := true }, kinds := [], alts := [], laidByText := true, laidKinds := [.data, .data, .data, .sentinel, .sentinel], laidTests := true, laidLooks := .later }
def CellCoversUptoCardSaid : Prop := Claim7.holds Tryd.pinned (.plain (OpenSpec.upto cellCoversSpec)) cellCoversUptoCard
end Rows
end Go.Proofs.YtbbeeglfgnabmaaDoor
