/-
  DERIVED. GIVEN WITH THE SEED: THE CARDS: each row of YtcdndcbfmlnpjaaDoorRows.lean that lists a variable, with what it lists TIED to the program's text (the seventh form; the later family's looks); each row that meets fmt, with fmt's text TOLD by the authors' own Lean function (tested against real Go, not proved from fmt's source: count such statements apart). THE CARD IS WHAT COUNTS. Prove the row's statement (the work); the ties are given (YtcdndcbfmlnpjaaDoorTie.lean); close each card by the builder's one call (the guide's Derived/Test/ToyasCard.lean, 'card_holds'). Laid BY PROGRAM, IN A SANDBOX (cutbox-door.mjs). By AI agents, Wed Nov 11 2026. No macro, syntax, notation, axiom, sorry.
-/
import Derived.Test.YtcdndcbfmlnpjaaDoorRows
import GoSem.ClaimSeven
namespace Go.Proofs.YtcdndcbfmlnpjaaDoor
namespace Rows

/-- THE TIED CARD OF 'tabardlaw1.NatRings'. -/
def natRingsCard : Claim7 := { stood := { row := natRingsRow, standIns := [], harness := (true, "b7035aa428bb183ceeb6f4076ea711c78c7c3cc2e3fe772cb26b89f604058a05"), looks := true }, kinds := [], alts := [], laidByText := true, laidKinds := [.data, .data, .data, .data, .sentinel, .sentinel, .pinned], laidTests := true, laidLooks := .later }
def NatRingsCardSaid : Prop := Claim7.holds Tryd.pinned (.plain (OpenSpec.ofChange natRingsSpec)) natRingsCard

/-- THE TIED CARD OF 'tabardlaw1.NatQuotients'. -/
def natQuotientsCard : Claim7 := { stood := { row := natQuotientsRow, standIns := [], harness := (true, "b7035aa428bb183ceeb6f4076ea711c78c7c3cc2e3fe772cb26b89f604058a05"), looks := true }, kinds := [], alts := [], laidByText := true, laidKinds := [.data, .data, .data, .data, .sentinel, .sentinel, .pinned], laidTests := true, laidLooks := .later }
def NatQuotientsCardSaid : Prop := Claim7.holds Tryd.pinned (.plain (OpenSpec.ofChange natQuotientsSpec)) natQuotientsCard

/-- THE TIED CARD OF 'tabardlaw1.NatDoubles'. -/
def natDoublesCard : Claim7 := { stood := { row := natDoublesRow, standIns := [], harness := (true, "b7035aa428bb183ceeb6f4076ea711c78c7c3cc2e3fe772cb26b89f604058a05"), looks := true }, kinds := [], alts := [], laidByText := true, laidKinds := [.data, .data, .data, .data, .sentinel, .sentinel, .pinned], laidTests := true, laidLooks := .later }
def NatDoublesCardSaid : Prop := Claim7.holds Tryd.pinned (.plain (OpenSpec.ofChange natDoublesSpec)) natDoublesCard

/-- THE TIED CARD OF 'tabardlaw1.NatAgain'. -/
def natAgainCard : Claim7 := { stood := { row := natAgainRow, standIns := [], harness := (true, "b7035aa428bb183ceeb6f4076ea711c78c7c3cc2e3fe772cb26b89f604058a05"), looks := true }, kinds := [], alts := [], laidByText := true, laidKinds := [.data, .data, .data, .data, .sentinel, .sentinel, .pinned], laidTests := true, laidLooks := .later }
def NatAgainCardSaid : Prop := Claim7.holds Tryd.pinned (.plain (OpenSpec.ofChange natAgainSpec)) natAgainCard

/-- THE SECOND FORM's CARD OF 'tabardlaw1.NatRings'. -/
def natRingsUptoCard : Claim7 := { stood := { row := natRingsUptoRow, standIns := [], harness := (true, "b7035aa428bb183ceeb6f4076ea711c78c7c3cc2e3fe772cb26b89f604058a05"), looks := true }, kinds := [], alts := [], laidByText := true, laidKinds := [.data, .data, .data, .data, .sentinel, .sentinel, .pinned], laidTests := true, laidLooks := .later }
def NatRingsUptoCardSaid : Prop := Claim7.holds Tryd.pinned (.plain (OpenSpec.upto natRingsSpec)) natRingsUptoCard

/-- THE SECOND FORM's CARD OF 'tabardlaw1.NatQuotients'. -/
def natQuotientsUptoCard : Claim7 := { stood := { row := natQuotientsUptoRow, standIns := [], harness := (true, "b7035aa428bb183ceeb6f4076ea711c78c7c3cc2e3fe772cb26b89f604058a05"), looks := true }, kinds := [], alts := [], laidByText := true, laidKinds := [.data, .data, .data, .data, .sentinel, .sentinel, .pinned], laidTests := true, laidLooks := .later }
def NatQuotientsUptoCardSaid : Prop := Claim7.holds Tryd.pinned (.plain (OpenSpec.upto natQuotientsSpec)) natQuotientsUptoCard

/-- THE SECOND FORM's CARD OF 'tabardlaw1.NatDoubles'. -/
def natDoublesUptoCard : Claim7 := { stood := { row := natDoublesUptoRow, standIns := [], harness := (true, "b7035aa428bb183ceeb6f4076ea711c78c7c3cc2e3fe772cb26b89f604058a05"), looks := true }, kinds := [], alts := [], laidByText := true, laidKinds := [.data, .data, .data, .data, .sentinel, .sentinel, .pinned], laidTests := true, laidLooks := .later }
def NatDoublesUptoCardSaid : Prop := Claim7.holds Tryd.pinned (.plain (OpenSpec.upto natDoublesSpec)) natDoublesUptoCard

/-- THE SECOND FORM's CARD OF 'tabardlaw1.NatAgain'. -/
def natAgainUptoCard : Claim7 := { stood := { row := natAgainUptoRow, standIns := [], harness := (true, "b7035aa428bb183ceeb6f4076ea711c78c7c3cc2e3fe772cb26b89f604058a05"), looks := true }, kinds := [], alts := [], laidByText := true, laidKinds := [.data, .data, .data, .data, .sentinel, .sentinel, .pinned], laidTests := true, laidLooks := .later }
def NatAgainUptoCardSaid : Prop := Claim7.holds Tryd.pinned (.plain (OpenSpec.upto natAgainSpec)) natAgainUptoCard
end Rows
end Go.Proofs.YtcdndcbfmlnpjaaDoor
