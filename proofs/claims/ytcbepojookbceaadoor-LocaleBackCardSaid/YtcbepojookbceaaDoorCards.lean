/-
  DERIVED. GIVEN WITH THE SEED: THE CARDS: each row of YtcbepojookbceaaDoorRows.lean that lists a variable, with what it lists TIED to the program's text (the seventh form; the later family's looks); each row that meets fmt, with fmt's text TOLD by the authors' own Lean function (tested against real Go, not proved from fmt's source: count such statements apart). THE CARD IS WHAT COUNTS. Prove the row's statement (the work); the ties are given (YtcbepojookbceaaDoorTie.lean); close each card by the builder's one call (the guide's Derived/Test/ToyasCard.lean, 'card_holds'). Laid BY PROGRAM, IN A SANDBOX (cutbox-door.mjs). By AI agents, Wed Nov 11 2026. No macro, syntax, notation, axiom, sorry.
-/
import Derived.Test.YtcbepojookbceaaDoorRows
import GoSem.ClaimSeven
namespace Go.Proofs.YtcbepojookbceaaDoor
namespace Rows

/-- THE TIED CARD OF 'tabardlaw11.LocaleGroups'. -/
def localeGroupsCard : Claim7 := { stood := { row := localeGroupsRow, standIns := [], harness := (true, "6531020f2292660e380aea8b86f9c545baab5edbbfead7ddc2529537e537bff1"), looks := true }, kinds := [], alts := [], laidByText := true, laidKinds := [.data, .data, .data, .pinned], laidTests := true, laidLooks := .later }
def LocaleGroupsCardSaid : Prop := Claim7.holds Tryd.pinned (.plain (OpenSpec.ofChange localeGroupsSpec)) localeGroupsCard

/-- THE TIED CARD OF 'tabardlaw11.LocaleWrites'. -/
def localeWritesCard : Claim7 := { stood := { row := localeWritesRow, standIns := [], harness := (true, "6531020f2292660e380aea8b86f9c545baab5edbbfead7ddc2529537e537bff1"), looks := true }, kinds := [], alts := [], laidByText := true, laidKinds := [.data, .data, .data, .pinned], laidTests := true, laidLooks := .later }
def LocaleWritesCardSaid : Prop := Claim7.holds Tryd.pinned (.plain (OpenSpec.ofChange localeWritesSpec)) localeWritesCard

/-- THE TIED CARD OF 'tabardlaw11.LocaleBack'. -/
def localeBackCard : Claim7 := { stood := { row := localeBackRow, standIns := [], harness := (true, "6531020f2292660e380aea8b86f9c545baab5edbbfead7ddc2529537e537bff1"), looks := true }, kinds := [], alts := [], laidByText := true, laidKinds := [.data, .data, .data, .pinned], laidTests := true, laidLooks := .later }
def LocaleBackCardSaid : Prop := Claim7.holds Tryd.pinned (.plain (OpenSpec.ofChange localeBackSpec)) localeBackCard

/-- THE TIED CARD OF 'tabardlaw11.LocaleFinds'. -/
def localeFindsCard : Claim7 := { stood := { row := localeFindsRow, standIns := [], harness := (true, "6531020f2292660e380aea8b86f9c545baab5edbbfead7ddc2529537e537bff1"), looks := true }, kinds := [], alts := [], laidByText := true, laidKinds := [.data, .data, .data, .pinned], laidTests := true, laidLooks := .later }
def LocaleFindsCardSaid : Prop := Claim7.holds Tryd.pinned (.plain (OpenSpec.ofChange localeFindsSpec)) localeFindsCard

/-- THE TIED CARD OF 'tabardlaw7.DecimalRounds'. -/
def decimalRoundsCard : Claim7 := { stood := { row := decimalRoundsRow, standIns := [], harness := (true, "6531020f2292660e380aea8b86f9c545baab5edbbfead7ddc2529537e537bff1"), looks := true }, kinds := [], alts := [], laidByText := true, laidKinds := [.data, .data, .data, .data, .sentinel, .sentinel, .pinned], laidTests := true, laidLooks := .later }
def DecimalRoundsCardSaid : Prop := Claim7.holds Tryd.pinned (.plain (OpenSpec.ofChange decimalRoundsSpec)) decimalRoundsCard

/-- THE TIED CARD OF 'tabardlaw7.DecimalReads'. -/
def decimalReadsCard : Claim7 := { stood := { row := decimalReadsRow, standIns := [], harness := (true, "6531020f2292660e380aea8b86f9c545baab5edbbfead7ddc2529537e537bff1"), looks := true }, kinds := [], alts := [], laidByText := true, laidKinds := [.data, .data, .data, .data, .sentinel, .sentinel, .pinned], laidTests := true, laidLooks := .later }
def DecimalReadsCardSaid : Prop := Claim7.holds Tryd.pinned (.plain (OpenSpec.ofChange decimalReadsSpec)) decimalReadsCard

/-- THE TIED CARD OF 'tabardlaw7.DecimalPrints'. -/
def decimalPrintsCard : Claim7 := { stood := { row := decimalPrintsRow, standIns := [], harness := (true, "6531020f2292660e380aea8b86f9c545baab5edbbfead7ddc2529537e537bff1"), looks := true }, kinds := [], alts := [], laidByText := true, laidKinds := [.data, .data, .data, .data, .sentinel, .sentinel, .pinned], laidTests := true, laidLooks := .later }
def DecimalPrintsCardSaid : Prop := Claim7.holds Tryd.pinned (.plain (OpenSpec.ofChange decimalPrintsSpec)) decimalPrintsCard

/-- THE TIED CARD OF 'tabardlaw7.DecimalOrders'. -/
def decimalOrdersCard : Claim7 := { stood := { row := decimalOrdersRow, standIns := [], harness := (true, "6531020f2292660e380aea8b86f9c545baab5edbbfead7ddc2529537e537bff1"), looks := true }, kinds := [], alts := [], laidByText := true, laidKinds := [.data, .data, .data, .data, .sentinel, .sentinel, .pinned], laidTests := true, laidLooks := .later }
def DecimalOrdersCardSaid : Prop := Claim7.holds Tryd.pinned (.plain (OpenSpec.ofChange decimalOrdersSpec)) decimalOrdersCard

/-- THE TIED CARD OF 'tabardlaw7.DecimalNears'. -/
def decimalNearsCard : Claim7 := { stood := { row := decimalNearsRow, standIns := [], harness := (true, "6531020f2292660e380aea8b86f9c545baab5edbbfead7ddc2529537e537bff1"), looks := true }, kinds := [], alts := [], laidByText := true, laidKinds := [.data, .data, .data, .data, .sentinel, .sentinel, .pinned], laidTests := true, laidLooks := .later }
def DecimalNearsCardSaid : Prop := Claim7.holds Tryd.pinned (.plain (OpenSpec.ofChange decimalNearsSpec)) decimalNearsCard

/-- THE SECOND FORM's CARD OF 'tabardlaw11.LocaleGroups'. -/
def localeGroupsUptoCard : Claim7 := { stood := { row := localeGroupsUptoRow, standIns := [], harness := (true, "6531020f2292660e380aea8b86f9c545baab5edbbfead7ddc2529537e537bff1"), looks := true }, kinds := [], alts := [], laidByText := true, laidKinds := [.data, .data, .data, .pinned], laidTests := true, laidLooks := .later }
def LocaleGroupsUptoCardSaid : Prop := Claim7.holds Tryd.pinned (.plain (OpenSpec.upto localeGroupsSpec)) localeGroupsUptoCard

/-- THE SECOND FORM's CARD OF 'tabardlaw11.LocaleWrites'. -/
def localeWritesUptoCard : Claim7 := { stood := { row := localeWritesUptoRow, standIns := [], harness := (true, "6531020f2292660e380aea8b86f9c545baab5edbbfead7ddc2529537e537bff1"), looks := true }, kinds := [], alts := [], laidByText := true, laidKinds := [.data, .data, .data, .pinned], laidTests := true, laidLooks := .later }
def LocaleWritesUptoCardSaid : Prop := Claim7.holds Tryd.pinned (.plain (OpenSpec.upto localeWritesSpec)) localeWritesUptoCard

/-- THE SECOND FORM's CARD OF 'tabardlaw11.LocaleBack'. -/
def localeBackUptoCard : Claim7 := { stood := { row := localeBackUptoRow, standIns := [], harness := (true, "6531020f2292660e380aea8b86f9c545baab5edbbfead7ddc2529537e537bff1"), looks := true }, kinds := [], alts := [], laidByText := true, laidKinds := [.data, .data, .data, .pinned], laidTests := true, laidLooks := .later }
def LocaleBackUptoCardSaid : Prop := Claim7.holds Tryd.pinned (.plain (OpenSpec.upto localeBackSpec)) localeBackUptoCard

/-- THE SECOND FORM's CARD OF 'tabardlaw11.LocaleFinds'. -/
def localeFindsUptoCard : Claim7 := { stood := { row := localeFindsUptoRow, standIns := [], harness := (true, "6531020f2292660e380aea8b86f9c545baab5edbbfead7ddc2529537e537bff1"), looks := true }, kinds := [], alts := [], laidByText := true, laidKinds := [.data, .data, .data, .pinned], laidTests := true, laidLooks := .later }
def LocaleFindsUptoCardSaid : Prop := Claim7.holds Tryd.pinned (.plain (OpenSpec.upto localeFindsSpec)) localeFindsUptoCard

/-- THE SECOND FORM's CARD OF 'tabardlaw7.DecimalRounds'. -/
def decimalRoundsUptoCard : Claim7 := { stood := { row := decimalRoundsUptoRow, standIns := [], harness := (true, "6531020f2292660e380aea8b86f9c545baab5edbbfead7ddc2529537e537bff1"), looks := true }, kinds := [], alts := [], laidByText := true, laidKinds := [.data, .data, .data, .data, .sentinel, .sentinel, .pinned], laidTests := true, laidLooks := .later }
def DecimalRoundsUptoCardSaid : Prop := Claim7.holds Tryd.pinned (.plain (OpenSpec.upto decimalRoundsSpec)) decimalRoundsUptoCard

/-- THE SECOND FORM's CARD OF 'tabardlaw7.DecimalReads'. -/
def decimalReadsUptoCard : Claim7 := { stood := { row := decimalReadsUptoRow, standIns := [], harness := (true, "6531020f2292660e380aea8b86f9c545baab5edbbfead7ddc2529537e537bff1"), looks := true }, kinds := [], alts := [], laidByText := true, laidKinds := [.data, .data, .data, .data, .sentinel, .sentinel, .pinned], laidTests := true, laidLooks := .later }
def DecimalReadsUptoCardSaid : Prop := Claim7.holds Tryd.pinned (.plain (OpenSpec.upto decimalReadsSpec)) decimalReadsUptoCard

/-- THE SECOND FORM's CARD OF 'tabardlaw7.DecimalPrints'. -/
def decimalPrintsUptoCard : Claim7 := { stood := { row := decimalPrintsUptoRow, standIns := [], harness := (true, "6531020f2292660e380aea8b86f9c545baab5edbbfead7ddc2529537e537bff1"), looks := true }, kinds := [], alts := [], laidByText := true, laidKinds := [.data, .data, .data, .data, .sentinel, .sentinel, .pinned], laidTests := true, laidLooks := .later }
def DecimalPrintsUptoCardSaid : Prop := Claim7.holds Tryd.pinned (.plain (OpenSpec.upto decimalPrintsSpec)) decimalPrintsUptoCard

/-- THE SECOND FORM's CARD OF 'tabardlaw7.DecimalOrders'. -/
def decimalOrdersUptoCard : Claim7 := { stood := { row := decimalOrdersUptoRow, standIns := [], harness := (true, "6531020f2292660e380aea8b86f9c545baab5edbbfead7ddc2529537e537bff1"), looks := true }, kinds := [], alts := [], laidByText := true, laidKinds := [.data, .data, .data, .data, .sentinel, .sentinel, .pinned], laidTests := true, laidLooks := .later }
def DecimalOrdersUptoCardSaid : Prop := Claim7.holds Tryd.pinned (.plain (OpenSpec.upto decimalOrdersSpec)) decimalOrdersUptoCard

/-- THE SECOND FORM's CARD OF 'tabardlaw7.DecimalNears'. -/
def decimalNearsUptoCard : Claim7 := { stood := { row := decimalNearsUptoRow, standIns := [], harness := (true, "6531020f2292660e380aea8b86f9c545baab5edbbfead7ddc2529537e537bff1"), looks := true }, kinds := [], alts := [], laidByText := true, laidKinds := [.data, .data, .data, .data, .sentinel, .sentinel, .pinned], laidTests := true, laidLooks := .later }
def DecimalNearsUptoCardSaid : Prop := Claim7.holds Tryd.pinned (.plain (OpenSpec.upto decimalNearsSpec)) decimalNearsUptoCard
end Rows
end Go.Proofs.YtcbepojookbceaaDoor
