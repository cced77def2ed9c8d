/-
  DERIVED. GIVEN WITH THE SEED: THE CARDS: each row of YtlhahbniigjkkaaGreatDoorRows.lean that lists a variable, with what it lists TIED to the program's text (the seventh form; the later family's looks); each row that meets fmt, with fmt's text TOLD by the authors' own Lean function (tested against real Go, not proved from fmt's source: count such statements apart). THE CARD IS WHAT COUNTS. Prove the row's statement (the work); the ties are given (YtlhahbniigjkkaaGreatDoorTie.lean); close each card by the builder's one call (the guide's Derived/Test/ToyasCard.lean, 'card_holds'). Laid BY PROGRAM, IN A SANDBOX (cutbox-door.mjs). By AI agents, Wed Nov 11 2026. No macro, syntax, notation, axiom, sorry.
-/
import Derived.Test.YtlhahbniigjkkaaGreatDoorRows
import GoSem.ClaimSeven
namespace Go.Proofs.YtlhahbniigjkkaaGreatDoor
namespace Rows

/-- THE TIED CARD OF 'tabardlaw9.ExactDecs'. -/
def exactDecsCard : Claim7 := { stood := { row := exactDecsRow, standIns := [], harness := (true, "5b2e7322322271c10265e0ffe8af51477cf65411c8112abe589ba83c0c1ea6d4"), looks := false }, kinds := [], alts := [], laidByText := true, laidKinds := [.data, .data, .data, .data, .pinned], laidTests := true, laidLooks := .later }
def ExactDecsCardSaid : Prop := Claim7.holds Tryz.pinned (.plain (OpenSpec.ofChange exactDecsSpec)) exactDecsCard

/-- THE TIED CARD OF 'tabardlaw9.ExactMids'. -/
def exactMidsCard : Claim7 := { stood := { row := exactMidsRow, standIns := [], harness := (true, "5b2e7322322271c10265e0ffe8af51477cf65411c8112abe589ba83c0c1ea6d4"), looks := false }, kinds := [], alts := [], laidByText := true, laidKinds := [.data, .data, .data, .data, .pinned], laidTests := true, laidLooks := .later }
def ExactMidsCardSaid : Prop := Claim7.holds Tryz.pinned (.plain (OpenSpec.ofChange exactMidsSpec)) exactMidsCard

/-- THE TIED CARD OF 'tabardlaw9.ExactRatios'. -/
def exactRatiosCard : Claim7 := { stood := { row := exactRatiosRow, standIns := [], harness := (true, "5b2e7322322271c10265e0ffe8af51477cf65411c8112abe589ba83c0c1ea6d4"), looks := false }, kinds := [], alts := [], laidByText := true, laidKinds := [.data, .data, .data, .data, .pinned], laidTests := true, laidLooks := .later }
def ExactRatiosCardSaid : Prop := Claim7.holds Tryz.pinned (.plain (OpenSpec.ofChange exactRatiosSpec)) exactRatiosCard

/-- THE TIED CARD OF 'tabardlaw9.ExactBack'. -/
def exactBackCard : Claim7 := { stood := { row := exactBackRow, standIns := [], harness := (true, "5b2e7322322271c10265e0ffe8af51477cf65411c8112abe589ba83c0c1ea6d4"), looks := false }, kinds := [], alts := [], laidByText := true, laidKinds := [.data, .data, .data, .data, .pinned], laidTests := true, laidLooks := .later }
def ExactBackCardSaid : Prop := Claim7.holds Tryz.pinned (.plain (OpenSpec.ofChange exactBackSpec)) exactBackCard

/-- THE TIED CARD OF 'tabardlaw9.ExactLowest'. -/
def exactLowestCard : Claim7 := { stood := { row := exactLowestRow, standIns := [], harness := (true, "5b2e7322322271c10265e0ffe8af51477cf65411c8112abe589ba83c0c1ea6d4"), looks := false }, kinds := [], alts := [], laidByText := true, laidKinds := [.data, .data, .data, .data, .pinned], laidTests := true, laidLooks := .later }
def ExactLowestCardSaid : Prop := Claim7.holds Tryz.pinned (.plain (OpenSpec.ofChange exactLowestSpec)) exactLowestCard

/-- THE TIED CARD OF 'tabardlaw9.ExactOrders'. -/
def exactOrdersCard : Claim7 := { stood := { row := exactOrdersRow, standIns := [], harness := (true, "5b2e7322322271c10265e0ffe8af51477cf65411c8112abe589ba83c0c1ea6d4"), looks := false }, kinds := [], alts := [], laidByText := true, laidKinds := [.data, .data, .data, .data, .pinned], laidTests := true, laidLooks := .later }
def ExactOrdersCardSaid : Prop := Claim7.holds Tryz.pinned (.plain (OpenSpec.ofChange exactOrdersSpec)) exactOrdersCard

/-- THE SECOND FORM's CARD OF 'tabardlaw9.ExactDecs'. -/
def exactDecsUptoCard : Claim7 := { stood := { row := exactDecsUptoRow, standIns := [], harness := (true, "5b2e7322322271c10265e0ffe8af51477cf65411c8112abe589ba83c0c1ea6d4"), looks := false }, kinds := [], alts := [], laidByText := true, laidKinds := [.data, .data, .data, .data, .pinned], laidTests := true, laidLooks := .later }
def ExactDecsUptoCardSaid : Prop := Claim7.holds Tryz.pinned (.plain (OpenSpec.upto exactDecsSpec)) exactDecsUptoCard

/-- THE SECOND FORM's CARD OF 'tabardlaw9.ExactMids'. -/
def exactMidsUptoCard : Claim7 := { stood := { row := exactMidsUptoRow, standIns := [], harness := (true, "5b2e7322322271c10265e0ffe8af51477cf65411c8112abe589ba83c0c1ea6d4"), looks := false }, kinds := [], alts := [], laidByText := true, laidKinds := [.data, .data, .data, .data, .pinned], laidTests := true, laidLooks := .later }
def ExactMidsUptoCardSaid : Prop := Claim7.holds Tryz.pinned (.plain (OpenSpec.upto exactMidsSpec)) exactMidsUptoCard

/-- THE SECOND FORM's CARD OF 'tabardlaw9.ExactRatios'. -/
def exactRatiosUptoCard : Claim7 := { stood := { row := exactRatiosUptoRow, standIns := [], harness := (true, "5b2e7322322271c10265e0ffe8af51477cf65411c8112abe589ba83c0c1ea6d4"), looks := false }, kinds := [], alts := [], laidByText := true, laidKinds := [.data, .data, .data, .data, .pinned], laidTests := true, laidLooks := .later }
def ExactRatiosUptoCardSaid : Prop := Claim7.holds Tryz.pinned (.plain (OpenSpec.upto exactRatiosSpec)) exactRatiosUptoCard

/-- THE SECOND FORM's CARD OF 'tabardlaw9.ExactBack'. -/
def exactBackUptoCard : Claim7 := { stood := { row := exactBackUptoRow, standIns := [], harness := (true, "5b2e7322322271c10265e0ffe8af51477cf65411c8112abe589ba83c0c1ea6d4"), looks := false }, kinds := [], alts := [], laidByText := true, laidKinds := [.data, .data, .data, .data, .pinned], laidTests := true, laidLooks := .later }
def ExactBackUptoCardSaid : Prop := Claim7.holds Tryz.pinned (.plain (OpenSpec.upto exactBackSpec)) exactBackUptoCard

/-- THE SECOND FORM's CARD OF 'tabardlaw9.ExactLowest'. -/
def exactLowestUptoCard : Claim7 := { stood := { row := exactLowestUptoRow, standIns := [], harness := (true, "5b2e7322322271c10265e0ffe8af51477cf65411c8112abe589ba83c0c1ea6d4"), looks := false }, kinds := [], alts := [], laidByText := true, laidKinds := [.data, .data, .data, .data, .pinned], laidTests := true, laidLooks := .later }
def ExactLowestUptoCardSaid : Prop := Claim7.holds Tryz.pinned (.plain (OpenSpec.upto exactLowestSpec)) exactLowestUptoCard

/-- THE SECOND FORM's CARD OF 'tabardlaw9.ExactOrders'. -/
def exactOrdersUptoCard : Claim7 := { stood := { row := exactOrdersUptoRow, standIns := [], harness := (true, "5b2e7322322271c10265e0ffe8af51477cf65411c8112abe589ba83c0c1ea6d4"), looks := false }, kinds := [], alts := [], laidByText := true, laidKinds := [.data, .data, .data, .data, .pinned], laidTests := true, laidLooks := .later }
def ExactOrdersUptoCardSaid : Prop := Claim7.holds Tryz.pinned (.plain (OpenSpec.upto exactOrdersSpec)) exactOrdersUptoCard
end Rows
end Go.Proofs.YtlhahbniigjkkaaGreatDoor
