/-
  DERIVED. GIVEN WITH THE SEED: THE CARDS: each row of YtcdndcbfmlnpjaaGreatDoorRows.lean that lists a variable, with what it lists TIED to the program's text (the seventh form; the later family's looks); each row that meets fmt, with fmt's text TOLD by the authors' own Lean function (tested against real Go, not proved from fmt's source: count such statements apart). THE CARD IS WHAT COUNTS. Prove the row's statement (the work); the ties are given (YtcdndcbfmlnpjaaGreatDoorTie.lean); close each card by the builder's one call (the guide's Derived/Test/ToyasCard.lean, 'card_holds'). Laid BY PROGRAM, IN A SANDBOX (cutbox-door.mjs). By AI agents, Wed Nov 11 2026. No macro, syntax, notation, axiom, sorry.
-/
import Derived.Test.YtcdndcbfmlnpjaaGreatDoorRows
import GoSem.ClaimSeven
namespace Go.Proofs.YtcdndcbfmlnpjaaGreatDoor
namespace Rows

/-- THE TIED CARD OF 'tabardlaw1.NatWords'. -/
def natWordsCard : Claim7 := { stood := { row := natWordsRow, standIns := [], harness := (true, "7374e6a31f818b3e27ec237e8c41fcc82c69ca479dd6e51c0fe75baf1037014e"), looks := true }, kinds := [], alts := [], laidByText := true, laidKinds := [.data, .data, .data, .data, .sentinel, .sentinel, .pinned], laidTests := true, laidLooks := .later }
def NatWordsCardSaid : Prop := Claim7.holds Tryz.pinned (.plain (OpenSpec.ofChange natWordsSpec)) natWordsCard

/-- THE TIED CARD OF 'tabardlaw1.NatSums'. -/
def natSumsCard : Claim7 := { stood := { row := natSumsRow, standIns := [], harness := (true, "7374e6a31f818b3e27ec237e8c41fcc82c69ca479dd6e51c0fe75baf1037014e"), looks := true }, kinds := [], alts := [], laidByText := true, laidKinds := [.data, .data, .data, .data, .sentinel, .sentinel, .pinned], laidTests := true, laidLooks := .later }
def NatSumsCardSaid : Prop := Claim7.holds Tryz.pinned (.plain (OpenSpec.ofChange natSumsSpec)) natSumsCard

/-- THE TIED CARD OF 'tabardlaw1.NatShifts'. -/
def natShiftsCard : Claim7 := { stood := { row := natShiftsRow, standIns := [], harness := (true, "7374e6a31f818b3e27ec237e8c41fcc82c69ca479dd6e51c0fe75baf1037014e"), looks := true }, kinds := [], alts := [], laidByText := true, laidKinds := [.data, .data, .data, .data, .sentinel, .sentinel, .pinned], laidTests := true, laidLooks := .later }
def NatShiftsCardSaid : Prop := Claim7.holds Tryz.pinned (.plain (OpenSpec.ofChange natShiftsSpec)) natShiftsCard

/-- THE TIED CARD OF 'tabardlaw1.NatDigits'. -/
def natDigitsCard : Claim7 := { stood := { row := natDigitsRow, standIns := [], harness := (true, "7374e6a31f818b3e27ec237e8c41fcc82c69ca479dd6e51c0fe75baf1037014e"), looks := true }, kinds := [], alts := [], laidByText := true, laidKinds := [.data, .data, .data, .data, .sentinel, .sentinel, .pinned], laidTests := true, laidLooks := .later }
def NatDigitsCardSaid : Prop := Claim7.holds Tryz.pinned (.plain (OpenSpec.ofChange natDigitsSpec)) natDigitsCard

/-- THE SECOND FORM's CARD OF 'tabardlaw1.NatWords'. -/
def natWordsUptoCard : Claim7 := { stood := { row := natWordsUptoRow, standIns := [], harness := (true, "7374e6a31f818b3e27ec237e8c41fcc82c69ca479dd6e51c0fe75baf1037014e"), looks := true }, kinds := [], alts := [], laidByText := true, laidKinds := [.data, .data, .data, .data, .sentinel, .sentinel, .pinned], laidTests := true, laidLooks := .later }
def NatWordsUptoCardSaid : Prop := Claim7.holds Tryz.pinned (.plain (OpenSpec.upto natWordsSpec)) natWordsUptoCard

/-- THE SECOND FORM's CARD OF 'tabardlaw1.NatSums'. -/
def natSumsUptoCard : Claim7 := { stood := { row := natSumsUptoRow, standIns := [], harness := (true, "7374e6a31f818b3e27ec237e8c41fcc82c69ca479dd6e51c0fe75baf1037014e"), looks := true }, kinds := [], alts := [], laidByText := true, laidKinds := [.data, .data, .data, .data, .sentinel, .sentinel, .pinned], laidTests := true, laidLooks := .later }
def NatSumsUptoCardSaid : Prop := Claim7.holds Tryz.pinned (.plain (OpenSpec.upto natSumsSpec)) natSumsUptoCard

/-- THE SECOND FORM's CARD OF 'tabardlaw1.NatShifts'. -/
def natShiftsUptoCard : Claim7 := { stood := { row := natShiftsUptoRow, standIns := [], harness := (true, "7374e6a31f818b3e27ec237e8c41fcc82c69ca479dd6e51c0fe75baf1037014e"), looks := true }, kinds := [], alts := [], laidByText := true, laidKinds := [.data, .data, .data, .data, .sentinel, .sentinel, .pinned], laidTests := true, laidLooks := .later }
def NatShiftsUptoCardSaid : Prop := Claim7.holds Tryz.pinned (.plain (OpenSpec.upto natShiftsSpec)) natShiftsUptoCard

/-- THE SECOND FORM's CARD OF 'tabardlaw1.NatDigits'. -/
def natDigitsUptoCard : Claim7 := { stood := { row := natDigitsUptoRow, standIns := [], harness := (true, "7374e6a31f818b3e27ec237e8c41fcc82c69ca479dd6e51c0fe75baf1037014e"), looks := true }, kinds := [], alts := [], laidByText := true, laidKinds := [.data, .data, .data, .data, .sentinel, .sentinel, .pinned], laidTests := true, laidLooks := .later }
def NatDigitsUptoCardSaid : Prop := Claim7.holds Tryz.pinned (.plain (OpenSpec.upto natDigitsSpec)) natDigitsUptoCard
end Rows
end Go.Proofs.YtcdndcbfmlnpjaaGreatDoor
