/-
  DERIVED. GIVEN WITH THE SEED: THE CARDS: each row of YtjfkniknmkcdcaaDoorRows.lean that lists a variable, with what it lists TIED to the program's text (the seventh form; the later family's looks); each row that meets fmt, with fmt's text TOLD by the authors' own Lean function (tested against real Go, not proved from fmt's source: count such statements apart). THE CARD IS WHAT COUNTS. Prove the row's statement (the work); the ties are given (YtjfkniknmkcdcaaDoorTie.lean); close each card by the builder's one call (the guide's Derived/Test/ToyasCard.lean, 'card_holds'). Laid BY PROGRAM, IN A SANDBOX (cutbox-door.mjs). By AI agents, Wed Nov 11 2026. No macro, syntax, notation, axiom, sorry.
-/
import Derived.Test.YtjfkniknmkcdcaaDoorRows
import GoSem.ClaimSeven
namespace Go.Proofs.YtjfkniknmkcdcaaDoor
namespace Rows

/-- THE TIED CARD OF 'abaculuslaw37.ShareMixed'. -/
def shareMixedCard : Claim7 := { stood := { row := shareMixedRow, standIns := [], harness := (true, "019ad2705032a94f6e92c185a41ca9e9e8bacc8cd13e66fe787be321269b39c7"), looks := false }, kinds := [], alts := [], laidByText := true, laidKinds := [.data], laidTests := true, laidLooks := .later }
def ShareMixedCardSaid : Prop := Claim7.holds Tryd.pinned (.plain (OpenSpec.ofChange shareMixedSpec)) shareMixedCard

/-- THE TIED CARD OF 'abaculuslaw37.ShareWide'. -/
def shareWideCard : Claim7 := { stood := { row := shareWideRow, standIns := [], harness := (true, "019ad2705032a94f6e92c185a41ca9e9e8bacc8cd13e66fe787be321269b39c7"), looks := false }, kinds := [], alts := [], laidByText := true, laidKinds := [.data], laidTests := true, laidLooks := .later }
def ShareWideCardSaid : Prop := Claim7.holds Tryd.pinned (.plain (OpenSpec.ofChange shareWideSpec)) shareWideCard

/-- THE TIED CARD OF 'abaculuslaw37.ShareKnown'. -/
def shareKnownCard : Claim7 := { stood := { row := shareKnownRow, standIns := [], harness := (true, "019ad2705032a94f6e92c185a41ca9e9e8bacc8cd13e66fe787be321269b39c7"), looks := false }, kinds := [], alts := [], laidByText := true, laidKinds := [.data], laidTests := true, laidLooks := .later }
def ShareKnownCardSaid : Prop := Claim7.holds Tryd.pinned (.plain (OpenSpec.ofChange shareKnownSpec)) shareKnownCard

/-- THE SECOND FORM's CARD OF 'abaculuslaw37.ShareMixed'. -/
def shareMixedUptoCard : Claim7 := { stood := { row := shareMixedUptoRow, standIns := [], harness := (true, "019ad2705032a94f6e92c185a41ca9e9e8bacc8cd13e66fe787be321269b39c7"), looks := false }, kinds := [], alts := [], laidByText := true, laidKinds := [.data], laidTests := true, laidLooks := .later }
def ShareMixedUptoCardSaid : Prop := Claim7.holds Tryd.pinned (.plain (OpenSpec.upto shareMixedSpec)) shareMixedUptoCard

/-- THE SECOND FORM's CARD OF 'abaculuslaw37.ShareWide'. -/
def shareWideUptoCard : Claim7 := { stood := { row := shareWideUptoRow, standIns := [], harness := (true, "019ad2705032a94f6e92c185a41ca9e9e8bacc8cd13e66fe787be321269b39c7"), looks := false }, kinds := [], alts := [], laidByText := true, laidKinds := [.data], laidTests := true, laidLooks := .later }
def ShareWideUptoCardSaid : Prop := Claim7.holds Tryd.pinned (.plain (OpenSpec.upto shareWideSpec)) shareWideUptoCard

/-- THE SECOND FORM's CARD OF 'abaculuslaw37.ShareKnown'. -/
def shareKnownUptoCard : Claim7 := { stood := { row := shareKnownUptoRow, standIns := [], harness := (true, "019ad2705032a94f6e92c185a41ca9e9e8bacc8cd13e66fe787be321269b39c7"), looks := false }, kinds := [], alts := [], laidByText := true, laidKinds := [.data], laidTests := true, laidLooks := .later }
def ShareKnownUptoCardSaid : Prop := Claim7.holds Tryd.pinned (.plain (OpenSpec.upto shareKnownSpec)) shareKnownUptoCard
end Rows
end Go.Proofs.YtjfkniknmkcdcaaDoor
