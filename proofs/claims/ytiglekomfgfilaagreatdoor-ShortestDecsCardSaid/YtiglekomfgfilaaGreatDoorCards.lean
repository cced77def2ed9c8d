/-
  DERIVED. GIVEN WITH THE SEED: THE CARDS: each row of YtiglekomfgfilaaGreatDoorRows.lean that lists a variable, with what it lists TIED to the program's text (the seventh form; the later family's looks); each row that meets fmt, with fmt's text TOLD by the authors' own Lean function (tested against real Go, not proved from fmt's source: count such statements apart). THE CARD IS WHAT COUNTS. Prove the row's statement (the work); the ties are given (YtiglekomfgfilaaGreatDoorTie.lean); close each card by the builder's one call (the guide's Derived/Test/ToyasCard.lean, 'card_holds'). Laid BY PROGRAM, IN A SANDBOX (cutbox-door.mjs). By AI agents, Wed Nov 11 2026. No macro, syntax, notation, axiom, sorry.
-/
import Derived.Test.YtiglekomfgfilaaGreatDoorRows
import GoSem.ClaimSeven
namespace Go.Proofs.YtiglekomfgfilaaGreatDoor
namespace Rows

/-- THE TIED CARD OF 'tabardlaw10.ShortestDecs'. -/
def shortestDecsCard : Claim7 := { stood := { row := shortestDecsRow, standIns := [], harness := (true, "dc05255d207a983d095bf54bd2d7daee44cdfcd3a93d2e78b28098c732f08e59"), looks := true }, kinds := [], alts := [], laidByText := true, laidKinds := [.data, .data, .data, .data, .sentinel, .sentinel, .pinned], laidTests := true, laidLooks := .later }
def ShortestDecsCardSaid : Prop := Claim7.holds Tryz.pinned (.plain (OpenSpec.ofChange shortestDecsSpec)) shortestDecsCard

/-- THE TIED CARD OF 'tabardlaw10.ShortestTexts'. -/
def shortestTextsCard : Claim7 := { stood := { row := shortestTextsRow, standIns := [], harness := (true, "dc05255d207a983d095bf54bd2d7daee44cdfcd3a93d2e78b28098c732f08e59"), looks := true }, kinds := [], alts := [], laidByText := true, laidKinds := [.data, .data, .data, .data, .sentinel, .sentinel, .pinned], laidTests := true, laidLooks := .later }
def ShortestTextsCardSaid : Prop := Claim7.holds Tryz.pinned (.plain (OpenSpec.ofChange shortestTextsSpec)) shortestTextsCard

/-- THE TIED CARD OF 'tabardlaw10.ShortestBack'. -/
def shortestBackCard : Claim7 := { stood := { row := shortestBackRow, standIns := [], harness := (true, "dc05255d207a983d095bf54bd2d7daee44cdfcd3a93d2e78b28098c732f08e59"), looks := true }, kinds := [], alts := [], laidByText := true, laidKinds := [.data, .data, .data, .data, .sentinel, .sentinel, .pinned], laidTests := true, laidLooks := .later }
def ShortestBackCardSaid : Prop := Claim7.holds Tryz.pinned (.plain (OpenSpec.ofChange shortestBackSpec)) shortestBackCard

/-- THE TIED CARD OF 'tabardlaw10.ShortestFewest'. -/
def shortestFewestCard : Claim7 := { stood := { row := shortestFewestRow, standIns := [], harness := (true, "dc05255d207a983d095bf54bd2d7daee44cdfcd3a93d2e78b28098c732f08e59"), looks := true }, kinds := [], alts := [], laidByText := true, laidKinds := [.data, .data, .data, .data, .sentinel, .sentinel, .pinned], laidTests := true, laidLooks := .later }
def ShortestFewestCardSaid : Prop := Claim7.holds Tryz.pinned (.plain (OpenSpec.ofChange shortestFewestSpec)) shortestFewestCard

/-- THE TIED CARD OF 'tabardlaw10.ShortestFifteen'. -/
def shortestFifteenCard : Claim7 := { stood := { row := shortestFifteenRow, standIns := [], harness := (true, "dc05255d207a983d095bf54bd2d7daee44cdfcd3a93d2e78b28098c732f08e59"), looks := true }, kinds := [], alts := [], laidByText := true, laidKinds := [.data, .data, .data, .data, .sentinel, .sentinel, .pinned], laidTests := true, laidLooks := .later }
def ShortestFifteenCardSaid : Prop := Claim7.holds Tryz.pinned (.plain (OpenSpec.ofChange shortestFifteenSpec)) shortestFifteenCard

/-- THE SECOND FORM's CARD OF 'tabardlaw10.ShortestDecs'. -/
def shortestDecsUptoCard : Claim7 := { stood := { row := shortestDecsUptoRow, standIns := [], harness := (true, "dc05255d207a983d095bf54bd2d7daee44cdfcd3a93d2e78b28098c732f08e59"), looks := true }, kinds := [], alts := [], laidByText := true, laidKinds := [.data, .data, .data, .data, .sentinel, .sentinel, .pinned], laidTests := true, laidLooks := .later }
def ShortestDecsUptoCardSaid : Prop := Claim7.holds Tryz.pinned (.plain (OpenSpec.upto shortestDecsSpec)) shortestDecsUptoCard

/-- THE SECOND FORM's CARD OF 'tabardlaw10.ShortestTexts'. -/
def shortestTextsUptoCard : Claim7 := { stood := { row := shortestTextsUptoRow, standIns := [], harness := (true, "dc05255d207a983d095bf54bd2d7daee44cdfcd3a93d2e78b28098c732f08e59"), looks := true }, kinds := [], alts := [], laidByText := true, laidKinds := [.data, .data, .data, .data, .sentinel, .sentinel, .pinned], laidTests := true, laidLooks := .later }
def ShortestTextsUptoCardSaid : Prop := Claim7.holds Tryz.pinned (.plain (OpenSpec.upto shortestTextsSpec)) shortestTextsUptoCard

/-- THE SECOND FORM's CARD OF 'tabardlaw10.ShortestBack'. -/
def shortestBackUptoCard : Claim7 := { stood := { row := shortestBackUptoRow, standIns := [], harness := (true, "dc05255d207a983d095bf54bd2d7daee44cdfcd3a93d2e78b28098c732f08e59"), looks := true }, kinds := [], alts := [], laidByText := true, laidKinds := [.data, .data, .data, .data, .sentinel, .sentinel, .pinned], laidTests := true, laidLooks := .later }
def ShortestBackUptoCardSaid : Prop := Claim7.holds Tryz.pinned (.plain (OpenSpec.upto shortestBackSpec)) shortestBackUptoCard

/-- THE SECOND FORM's CARD OF 'tabardlaw10.ShortestFewest'. -/
def shortestFewestUptoCard : Claim7 := { stood := { row := shortestFewestUptoRow, standIns := [], harness := (true, "dc05255d207a983d095bf54bd2d7daee44cdfcd3a93d2e78b28098c732f08e59"), looks := true }, kinds := [], alts := [], laidByText := true, laidKinds := [.data, .data, .data, .data, .sentinel, .sentinel, .pinned], laidTests := true, laidLooks := .later }
def ShortestFewestUptoCardSaid : Prop := Claim7.holds Tryz.pinned (.plain (OpenSpec.upto shortestFewestSpec)) shortestFewestUptoCard

/-- THE SECOND FORM's CARD OF 'tabardlaw10.ShortestFifteen'. -/
def shortestFifteenUptoCard : Claim7 := { stood := { row := shortestFifteenUptoRow, standIns := [], harness := (true, "dc05255d207a983d095bf54bd2d7daee44cdfcd3a93d2e78b28098c732f08e59"), looks := true }, kinds := [], alts := [], laidByText := true, laidKinds := [.data, .data, .data, .data, .sentinel, .sentinel, .pinned], laidTests := true, laidLooks := .later }
def ShortestFifteenUptoCardSaid : Prop := Claim7.holds Tryz.pinned (.plain (OpenSpec.upto shortestFifteenSpec)) shortestFifteenUptoCard
end Rows
end Go.Proofs.YtiglekomfgfilaaGreatDoor
