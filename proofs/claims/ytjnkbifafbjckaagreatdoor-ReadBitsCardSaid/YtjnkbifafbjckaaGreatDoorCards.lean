/-
  DERIVED. GIVEN WITH THE SEED: THE CARDS: each row of YtjnkbifafbjckaaGreatDoorRows.lean that lists a variable, with what it lists TIED to the program's text (the seventh form; the later family's looks); each row that meets fmt, with fmt's text TOLD by the authors' own Lean function (tested against real Go, not proved from fmt's source: count such statements apart). THE CARD IS WHAT COUNTS. Prove the row's statement (the work); the ties are given (YtjnkbifafbjckaaGreatDoorTie.lean); close each card by the builder's one call (the guide's Derived/Test/ToyasCard.lean, 'card_holds'). Laid BY PROGRAM, IN A SANDBOX (cutbox-door.mjs). By AI agents, Wed Nov 11 2026. No macro, syntax, notation, axiom, sorry.
-/
import Derived.Test.YtjnkbifafbjckaaGreatDoorRows
import GoSem.ClaimSeven
namespace Go.Proofs.YtjnkbifafbjckaaGreatDoor
namespace Rows

/-- THE TIED CARD OF 'tabardlaw9.ExactBack'. -/
def exactBackCard : Claim7 := { stood := { row := exactBackRow, standIns := [], harness := (true, "32a42a35a0d67b8b4236c8ba181562f96924e227753028d3b4837312a837e92f"), looks := true }, kinds := [], alts := [], laidByText := true, laidKinds := [.data, .data, .data, .data, .pinned], laidTests := true, laidLooks := .later }
def ExactBackCardSaid : Prop := Claim7.holds Tryz.pinned (.plain (OpenSpec.ofChange exactBackSpec)) exactBackCard

/-- THE TIED CARD OF 'tabardlaw9.ExactLowest'. -/
def exactLowestCard : Claim7 := { stood := { row := exactLowestRow, standIns := [], harness := (true, "32a42a35a0d67b8b4236c8ba181562f96924e227753028d3b4837312a837e92f"), looks := true }, kinds := [], alts := [], laidByText := true, laidKinds := [.data, .data, .data, .data, .pinned], laidTests := true, laidLooks := .later }
def ExactLowestCardSaid : Prop := Claim7.holds Tryz.pinned (.plain (OpenSpec.ofChange exactLowestSpec)) exactLowestCard

/-- THE TIED CARD OF 'tabardlaw9.ExactOrders'. -/
def exactOrdersCard : Claim7 := { stood := { row := exactOrdersRow, standIns := [], harness := (true, "32a42a35a0d67b8b4236c8ba181562f96924e227753028d3b4837312a837e92f"), looks := true }, kinds := [], alts := [], laidByText := true, laidKinds := [.data, .data, .data, .data, .pinned], laidTests := true, laidLooks := .later }
def ExactOrdersCardSaid : Prop := Claim7.holds Tryz.pinned (.plain (OpenSpec.ofChange exactOrdersSpec)) exactOrdersCard

/-- THE TIED CARD OF 'tabardlaw8.ReadBits'. -/
def readBitsCard : Claim7 := { stood := { row := readBitsRow, standIns := [], harness := (true, "32a42a35a0d67b8b4236c8ba181562f96924e227753028d3b4837312a837e92f"), looks := true }, kinds := [], alts := [], laidByText := true, laidKinds := [.data, .data, .data, .data, .sentinel, .sentinel, .pinned], laidTests := true, laidLooks := .later }
def ReadBitsCardSaid : Prop := Claim7.holds Tryz.pinned (.plain (OpenSpec.ofChange readBitsSpec)) readBitsCard

/-- THE TIED CARD OF 'tabardlaw8.ReadTexts'. -/
def readTextsCard : Claim7 := { stood := { row := readTextsRow, standIns := [], harness := (true, "32a42a35a0d67b8b4236c8ba181562f96924e227753028d3b4837312a837e92f"), looks := true }, kinds := [], alts := [], laidByText := true, laidKinds := [.data, .data, .data, .data, .sentinel, .sentinel, .pinned], laidTests := true, laidLooks := .later }
def ReadTextsCardSaid : Prop := Claim7.holds Tryz.pinned (.plain (OpenSpec.ofChange readTextsSpec)) readTextsCard

/-- THE TIED CARD OF 'tabardlaw8.ReadPowers'. -/
def readPowersCard : Claim7 := { stood := { row := readPowersRow, standIns := [], harness := (true, "32a42a35a0d67b8b4236c8ba181562f96924e227753028d3b4837312a837e92f"), looks := true }, kinds := [], alts := [], laidByText := true, laidKinds := [.data, .data, .data, .data, .sentinel, .sentinel, .pinned], laidTests := true, laidLooks := .later }
def ReadPowersCardSaid : Prop := Claim7.holds Tryz.pinned (.plain (OpenSpec.ofChange readPowersSpec)) readPowersCard

/-- THE TIED CARD OF 'tabardlaw8.ReadOrders'. -/
def readOrdersCard : Claim7 := { stood := { row := readOrdersRow, standIns := [], harness := (true, "32a42a35a0d67b8b4236c8ba181562f96924e227753028d3b4837312a837e92f"), looks := true }, kinds := [], alts := [], laidByText := true, laidKinds := [.data, .data, .data, .data, .sentinel, .sentinel, .pinned], laidTests := true, laidLooks := .later }
def ReadOrdersCardSaid : Prop := Claim7.holds Tryz.pinned (.plain (OpenSpec.ofChange readOrdersSpec)) readOrdersCard

/-- THE TIED CARD OF 'tabardlaw8.ReadInts'. -/
def readIntsCard : Claim7 := { stood := { row := readIntsRow, standIns := [], harness := (true, "32a42a35a0d67b8b4236c8ba181562f96924e227753028d3b4837312a837e92f"), looks := true }, kinds := [], alts := [], laidByText := true, laidKinds := [.data, .data, .data, .data, .sentinel, .sentinel, .pinned], laidTests := true, laidLooks := .later }
def ReadIntsCardSaid : Prop := Claim7.holds Tryz.pinned (.plain (OpenSpec.ofChange readIntsSpec)) readIntsCard

/-- THE TIED CARD OF 'tabardlaw8.ReadHalves'. -/
def readHalvesCard : Claim7 := { stood := { row := readHalvesRow, standIns := [], harness := (true, "32a42a35a0d67b8b4236c8ba181562f96924e227753028d3b4837312a837e92f"), looks := true }, kinds := [], alts := [], laidByText := true, laidKinds := [.data, .data, .data, .data, .sentinel, .sentinel, .pinned], laidTests := true, laidLooks := .later }
def ReadHalvesCardSaid : Prop := Claim7.holds Tryz.pinned (.plain (OpenSpec.ofChange readHalvesSpec)) readHalvesCard

/-- THE TIED CARD OF 'tabardlaw10.ShortestDecs'. -/
def shortestDecsCard : Claim7 := { stood := { row := shortestDecsRow, standIns := [], harness := (true, "32a42a35a0d67b8b4236c8ba181562f96924e227753028d3b4837312a837e92f"), looks := true }, kinds := [], alts := [], laidByText := true, laidKinds := [.data, .data, .data, .data, .sentinel, .sentinel, .pinned], laidTests := true, laidLooks := .later }
def ShortestDecsCardSaid : Prop := Claim7.holds Tryz.pinned (.plain (OpenSpec.ofChange shortestDecsSpec)) shortestDecsCard

/-- THE TIED CARD OF 'tabardlaw10.ShortestTexts'. -/
def shortestTextsCard : Claim7 := { stood := { row := shortestTextsRow, standIns := [], harness := (true, "32a42a35a0d67b8b4236c8ba181562f96924e227753028d3b4837312a837e92f"), looks := true }, kinds := [], alts := [], laidByText := true, laidKinds := [.data, .data, .data, .data, .sentinel, .sentinel, .pinned], laidTests := true, laidLooks := .later }
def ShortestTextsCardSaid : Prop := Claim7.holds Tryz.pinned (.plain (OpenSpec.ofChange shortestTextsSpec)) shortestTextsCard

/-- THE TIED CARD OF 'tabardlaw10.ShortestBack'. -/
def shortestBackCard : Claim7 := { stood := { row := shortestBackRow, standIns := [], harness := (true, "32a42a35a0d67b8b4236c8ba181562f96924e227753028d3b4837312a837e92f"), looks := true }, kinds := [], alts := [], laidByText := true, laidKinds := [.data, .data, .data, .data, .sentinel, .sentinel, .pinned], laidTests := true, laidLooks := .later }
def ShortestBackCardSaid : Prop := Claim7.holds Tryz.pinned (.plain (OpenSpec.ofChange shortestBackSpec)) shortestBackCard

/-- THE TIED CARD OF 'tabardlaw10.ShortestFewest'. -/
def shortestFewestCard : Claim7 := { stood := { row := shortestFewestRow, standIns := [], harness := (true, "32a42a35a0d67b8b4236c8ba181562f96924e227753028d3b4837312a837e92f"), looks := true }, kinds := [], alts := [], laidByText := true, laidKinds := [.data, .data, .data, .data, .sentinel, .sentinel, .pinned], laidTests := true, laidLooks := .later }
def ShortestFewestCardSaid : Prop := Claim7.holds Tryz.pinned (.plain (OpenSpec.ofChange shortestFewestSpec)) shortestFewestCard

/-- THE TIED CARD OF 'tabardlaw10.ShortestFifteen'. -/
def shortestFifteenCard : Claim7 := { stood := { row := shortestFifteenRow, standIns := [], harness := (true, "32a42a35a0d67b8b4236c8ba181562f96924e227753028d3b4837312a837e92f"), looks := true }, kinds := [], alts := [], laidByText := true, laidKinds := [.data, .data, .data, .data, .sentinel, .sentinel, .pinned], laidTests := true, laidLooks := .later }
def ShortestFifteenCardSaid : Prop := Claim7.holds Tryz.pinned (.plain (OpenSpec.ofChange shortestFifteenSpec)) shortestFifteenCard

/-- THE SECOND FORM's CARD OF 'tabardlaw9.ExactBack'. -/
def exactBackUptoCard : Claim7 := { stood := { row := exactBackUptoRow, standIns := [], harness := (true, "32a42a35a0d67b8b4236c8ba181562f96924e227753028d3b4837312a837e92f"), looks := true }, kinds := [], alts := [], laidByText := true, laidKinds := [.data, .data, .data, .data, .pinned], laidTests := true, laidLooks := .later }
def ExactBackUptoCardSaid : Prop := Claim7.holds Tryz.pinned (.plain (OpenSpec.upto exactBackSpec)) exactBackUptoCard

/-- THE SECOND FORM's CARD OF 'tabardlaw9.ExactLowest'. -/
def exactLowestUptoCard : Claim7 := { stood := { row := exactLowestUptoRow, standIns := [], harness := (true, "32a42a35a0d67b8b4236c8ba181562f96924e227753028d3b4837312a837e92f"), looks := true }, kinds := [], alts := [], laidByText := true, laidKinds := [.data, .data, .data, .data, .pinned], laidTests := true, laidLooks := .later }
def ExactLowestUptoCardSaid : Prop := Claim7.holds Tryz.pinned (.plain (OpenSpec.upto exactLowestSpec)) exactLowestUptoCard

/-- THE SECOND FORM's CARD OF 'tabardlaw9.ExactOrders'. -/
def exactOrdersUptoCard : Claim7 := { stood := { row := exactOrdersUptoRow, standIns := [], harness := (true, "32a42a35a0d67b8b4236c8ba181562f96924e227753028d3b4837312a837e92f"), looks := true }, kinds := [], alts := [], laidByText := true, laidKinds := [.data, .data, .data, .data, .pinned], laidTests := true, laidLooks := .later }
def ExactOrdersUptoCardSaid : Prop := Claim7.holds Tryz.pinned (.plain (OpenSpec.upto exactOrdersSpec)) exactOrdersUptoCard

/-- THE SECOND FORM's CARD OF 'tabardlaw8.ReadBits'. -/
def readBitsUptoCard : Claim7 := { stood := { row := readBitsUptoRow, standIns := [], harness := (true, "32a42a35a0d67b8b4236c8ba181562f96924e227753028d3b4837312a837e92f"), looks := true }, kinds := [], alts := [], laidByText := true, laidKinds := [.data, .data, .data, .data, .sentinel, .sentinel, .pinned], laidTests := true, laidLooks := .later }
def ReadBitsUptoCardSaid : Prop := Claim7.holds Tryz.pinned (.plain (OpenSpec.upto readBitsSpec)) readBitsUptoCard

/-- THE SECOND FORM's CARD OF 'tabardlaw8.ReadTexts'. -/
def readTextsUptoCard : Claim7 := { stood := { row := readTextsUptoRow, standIns := [], harness := (true, "32a42a35a0d67b8b4236c8ba181562f96924e227753028d3b4837312a837e92f"), looks := true }, kinds := [], alts := [], laidByText := true, laidKinds := [.data, .data, .data, .data, .sentinel, .sentinel, .pinned], laidTests := true, laidLooks := .later }
def ReadTextsUptoCardSaid : Prop := Claim7.holds Tryz.pinned (.plain (OpenSpec.upto readTextsSpec)) readTextsUptoCard

/-- THE SECOND FORM's CARD OF 'tabardlaw8.ReadPowers'. -/
def readPowersUptoCard : Claim7 := { stood := { row := readPowersUptoRow, standIns := [], harness := (true, "32a42a35a0d67b8b4236c8ba181562f96924e227753028d3b4837312a837e92f"), looks := true }, kinds := [], alts := [], laidByText := true, laidKinds := [.data, .data, .data, .data, .sentinel, .sentinel, .pinned], laidTests := true, laidLooks := .later }
def ReadPowersUptoCardSaid : Prop := Claim7.holds Tryz.pinned (.plain (OpenSpec.upto readPowersSpec)) readPowersUptoCard

/-- THE SECOND FORM's CARD OF 'tabardlaw8.ReadOrders'. -/
def readOrdersUptoCard : Claim7 := { stood := { row := readOrdersUptoRow, standIns := [], harness := (true, "32a42a35a0d67b8b4236c8ba181562f96924e227753028d3b4837312a837e92f"), looks := true }, kinds := [], alts := [], laidByText := true, laidKinds := [.data, .data, .data, .data, .sentinel, .sentinel, .pinned], laidTests := true, laidLooks := .later }
def ReadOrdersUptoCardSaid : Prop := Claim7.holds Tryz.pinned (.plain (OpenSpec.upto readOrdersSpec)) readOrdersUptoCard

/-- THE SECOND FORM's CARD OF 'tabardlaw8.ReadInts'. -/
def readIntsUptoCard : Claim7 := { stood := { row := readIntsUptoRow, standIns := [], harness := (true, "32a42a35a0d67b8b4236c8ba181562f96924e227753028d3b4837312a837e92f"), looks := true }, kinds := [], alts := [], laidByText := true, laidKinds := [.data, .data, .data, .data, .sentinel, .sentinel, .pinned], laidTests := true, laidLooks := .later }
def ReadIntsUptoCardSaid : Prop := Claim7.holds Tryz.pinned (.plain (OpenSpec.upto readIntsSpec)) readIntsUptoCard

/-- THE SECOND FORM's CARD OF 'tabardlaw8.ReadHalves'. -/
def readHalvesUptoCard : Claim7 := { stood := { row := readHalvesUptoRow, standIns := [], harness := (true, "32a42a35a0d67b8b4236c8ba181562f96924e227753028d3b4837312a837e92f"), looks := true }, kinds := [], alts := [], laidByText := true, laidKinds := [.data, .data, .data, .data, .sentinel, .sentinel, .pinned], laidTests := true, laidLooks := .later }
def ReadHalvesUptoCardSaid : Prop := Claim7.holds Tryz.pinned (.plain (OpenSpec.upto readHalvesSpec)) readHalvesUptoCard

/-- THE SECOND FORM's CARD OF 'tabardlaw10.ShortestDecs'. -/
def shortestDecsUptoCard : Claim7 := { stood := { row := shortestDecsUptoRow, standIns := [], harness := (true, "32a42a35a0d67b8b4236c8ba181562f96924e227753028d3b4837312a837e92f"), looks := true }, kinds := [], alts := [], laidByText := true, laidKinds := [.data, .data, .data, .data, .sentinel, .sentinel, .pinned], laidTests := true, laidLooks := .later }
def ShortestDecsUptoCardSaid : Prop := Claim7.holds Tryz.pinned (.plain (OpenSpec.upto shortestDecsSpec)) shortestDecsUptoCard

/-- THE SECOND FORM's CARD OF 'tabardlaw10.ShortestTexts'. -/
def shortestTextsUptoCard : Claim7 := { stood := { row := shortestTextsUptoRow, standIns := [], harness := (true, "32a42a35a0d67b8b4236c8ba181562f96924e227753028d3b4837312a837e92f"), looks := true }, kinds := [], alts := [], laidByText := true, laidKinds := [.data, .data, .data, .data, .sentinel, .sentinel, .pinned], laidTests := true, laidLooks := .later }
def ShortestTextsUptoCardSaid : Prop := Claim7.holds Tryz.pinned (.plain (OpenSpec.upto shortestTextsSpec)) shortestTextsUptoCard

/-- THE SECOND FORM's CARD OF 'tabardlaw10.ShortestBack'. -/
def shortestBackUptoCard : Claim7 := { stood := { row := shortestBackUptoRow, standIns := [], harness := (true, "32a42a35a0d67b8b4236c8ba181562f96924e227753028d3b4837312a837e92f"), looks := true }, kinds := [], alts := [], laidByText := true, laidKinds := [.data, .data, .data, .data, .sentinel, .sentinel, .pinned], laidTests := true, laidLooks := .later }
def ShortestBackUptoCardSaid : Prop := Claim7.holds Tryz.pinned (.plain (OpenSpec.upto shortestBackSpec)) shortestBackUptoCard

/-- THE SECOND FORM's CARD OF 'tabardlaw10.ShortestFewest'. -/
def shortestFewestUptoCard : Claim7 := { stood := { row := shortestFewestUptoRow, standIns := [], harness := (true, "32a42a35a0d67b8b4236c8ba181562f96924e227753028d3b4837312a837e92f"), looks := true }, kinds := [], alts := [], laidByText := true, laidKinds := [.data, .data, .data, .data, .sentinel, .sentinel, .pinned], laidTests := true, laidLooks := .later }
def ShortestFewestUptoCardSaid : Prop := Claim7.holds Tryz.pinned (.plain (OpenSpec.upto shortestFewestSpec)) shortestFewestUptoCard

/-- THE SECOND FORM's CARD OF 'tabardlaw10.ShortestFifteen'. -/
def shortestFifteenUptoCard : Claim7 := { stood := { row := shortestFifteenUptoRow, standIns := [], harness := (true, "32a42a35a0d67b8b4236c8ba181562f96924e227753028d3b4837312a837e92f"), looks := true }, kinds := [], alts := [], laidByText := true, laidKinds := [.data, .data, .data, .data, .sentinel, .sentinel, .pinned], laidTests := true, laidLooks := .later }
def ShortestFifteenUptoCardSaid : Prop := Claim7.holds Tryz.pinned (.plain (OpenSpec.upto shortestFifteenSpec)) shortestFifteenUptoCard
end Rows
end Go.Proofs.YtjnkbifafbjckaaGreatDoor
