/-
  DERIVED. GIVEN WITH THE SEED: THE CARDS: each row of YtjfkniknmkcdcaaGreatDoorRows.lean that lists a variable, with what it lists TIED to the program's text (the seventh form; the later family's looks); each row that meets fmt, with fmt's text TOLD by the authors' own Lean function (tested against real Go, not proved from fmt's source: count such statements apart). THE CARD IS WHAT COUNTS. Prove the row's statement (the work); the ties are given (YtjfkniknmkcdcaaGreatDoorTie.lean); close each card by the builder's one call (the guide's Derived/Test/ToyasCard.lean, 'card_holds'). Laid BY PROGRAM, IN A SANDBOX (cutbox-door.mjs). By AI agents, Wed Nov 11 2026. No macro, syntax, notation, axiom, sorry.
-/
import Derived.Test.YtjfkniknmkcdcaaGreatDoorRows
import GoSem.ClaimSeven
namespace Go.Proofs.YtjfkniknmkcdcaaGreatDoor
namespace Rows

/-- THE TIED CARD OF 'abaculuslaw37.ShareTables'. -/
def shareTablesCard : Claim7 := { stood := { row := shareTablesRow, standIns := [], harness := (true, "1480945c7d436a53c093e3152159fc1d3ef0b791fb68b7f2329865f24128faa8"), looks := false }, kinds := [], alts := [], laidByText := true, laidKinds := [.data], laidTests := true, laidLooks := .later }
def ShareTablesCardSaid : Prop := Claim7.holds Tryz.pinned (.plain (OpenSpec.ofChange shareTablesSpec)) shareTablesCard

/-- THE TIED CARD OF 'abaculuslaw37.ShareFair'. -/
def shareFairCard : Claim7 := { stood := { row := shareFairRow, standIns := [], harness := (true, "1480945c7d436a53c093e3152159fc1d3ef0b791fb68b7f2329865f24128faa8"), looks := false }, kinds := [], alts := [], laidByText := true, laidKinds := [.data], laidTests := true, laidLooks := .later }
def ShareFairCardSaid : Prop := Claim7.holds Tryz.pinned (.plain (OpenSpec.ofChange shareFairSpec)) shareFairCard

/-- THE SECOND FORM's CARD OF 'abaculuslaw37.ShareTables'. -/
def shareTablesUptoCard : Claim7 := { stood := { row := shareTablesUptoRow, standIns := [], harness := (true, "1480945c7d436a53c093e3152159fc1d3ef0b791fb68b7f2329865f24128faa8"), looks := false }, kinds := [], alts := [], laidByText := true, laidKinds := [.data], laidTests := true, laidLooks := .later }
def ShareTablesUptoCardSaid : Prop := Claim7.holds Tryz.pinned (.plain (OpenSpec.upto shareTablesSpec)) shareTablesUptoCard

/-- THE SECOND FORM's CARD OF 'abaculuslaw37.ShareFair'. -/
def shareFairUptoCard : Claim7 := { stood := { row := shareFairUptoRow, standIns := [], harness := (true, "1480945c7d436a53c093e3152159fc1d3ef0b791fb68b7f2329865f24128faa8"), looks := false }, kinds := [], alts := [], laidByText := true, laidKinds := [.data], laidTests := true, laidLooks := .later }
def ShareFairUptoCardSaid : Prop := Claim7.holds Tryz.pinned (.plain (OpenSpec.upto shareFairSpec)) shareFairUptoCard
end Rows
end Go.Proofs.YtjfkniknmkcdcaaGreatDoor
