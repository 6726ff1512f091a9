/-
  NARROWER THAN 'FOR EVERY INPUT', by the rows' own cells (each row's printed sentence says how): ShareTables: laid · ShareFair: laid.
  DERIVED. THE GIVEN ROWS OF THIS SEAT. 2 by the template 'for every input the law returns true; each argument reads behind the call as it read before'; 0 by the template 'total and deterministic' (their statements: YtjfkniknmkcdcaaGreatDoorTotals.lean).
  GIVEN WITH THE SEED: the statements are not yours to turn. If you find one false, say at which input.
  Laid BY PROGRAM, IN A SANDBOX (cutbox-rows.mjs): the forced cells as the released guide's own fill.sh prints them over the translation 7ffc4bd9dd13a26b… (all of the seat's roots in one cut). By AI agents, Wed Nov 11 2026. No macro, syntax, notation, axiom, sorry.
-/
import Derived.Test.YtjfkniknmkcdcaaGreatDoorChecked
import GoSem.Claim
import GoSem.ClaimJoined
import GoSem.ClaimMapViews
import Derived.JoinedTies
import Derived.KernelRfl
namespace Go.Proofs.YtjfkniknmkcdcaaGreatDoor
/- THE CELL 'sum', in the pinned program and in every row, IS THE sha256 OF THE DUMP (.gsa) THAT YtjfkniknmkcdcaaGreatDoorProg.lean LOADS. Nothing in Lean hashes anything: it is a label: what it is worth is what the hold of that sum in a sandbox is worth. -/
noncomputable def Tryz.pinned : Pinned := { name := "ytjfkniknmkcdcaagreatdoor", sum := "7ffc4bd9dd13a26b5c13e1b4a564c26df501c1d6d800d231fa82a9404b94fd13", checked := Tryz.checked }
namespace Rows
def none {H : Type} : Left H := { results := [], args := [] }

/- WHAT THE LISTED PACKAGE-LEVEL VARIABLES READ AS WHEN THE CALL BEGINS. Each datum BY PROGRAM (the guide's laid-datum.mjs) off the statement by which the dump's own 'gosem.cut.vars' lays the variable. In a bare row this is a premise. The card (YtjfkniknmkcdcaaGreatDoorCards.lean) ties it to the program's text. -/
def laid_abaculus_share_factorials {H : Type} : DataW H := .agg [.lit (.int .i64 1), .lit (.int .i64 1), .lit (.int .i64 2), .lit (.int .i64 6), .lit (.int .i64 24), .lit (.int .i64 120), .lit (.int .i64 720), .lit (.int .i64 5040), .lit (.int .i64 40320), .lit (.int .i64 362880), .lit (.int .i64 3628800)]

/-- 'abaculuslaw37.ShareTables': WHATEVER THE INPUT: true; the input reads as it did. -/
def shareTablesSpec : ChangeSpec := { name := "shareTables", fn := fun _ => fun
  | [d1, d2, d3, d4, d5] => { results := [.lit (.bool true)], args := [d1, d2, d3, d4, d5] }
  | _ => none }
def shareTablesRow : OpenClaim := { program := "ytjfkniknmkcdcaagreatdoor", sum := "7ffc4bd9dd13a26b5c13e1b4a564c26df501c1d6d800d231fa82a9404b94fd13", func := "abaculus/abaculuslaw37.ShareTables", spec := "shareTables", inPlace := ["math/bits.Add64", "math/bits.Sub64"], recurses := true, named := ["math/bits.divideError", "math/bits.overflowError", "abaculus/share.factorials"], apart := false, laid := [("abaculus/share.factorials", laid_abaculus_share_factorials)] }
def ShareTablesSaid : Prop := shareTablesRow.holds Tryz.pinned (OpenSpec.ofChange shareTablesSpec)

/-- ITS FALSE NEIGHBOUR: 'it returns false'. Refute it at one input. -/
def shareTablesWrong : ChangeSpec := { name := "shareTables", fn := fun _ => fun
  | [d1, d2, d3, d4, d5] => { results := [.lit (.bool false)], args := [d1, d2, d3, d4, d5] }
  | _ => none }
def ShareTablesWrongFalsely : Prop := shareTablesRow.holds Tryz.pinned (OpenSpec.ofChange shareTablesWrong)

/-- 'abaculuslaw37.ShareFair': WHATEVER THE INPUT: true; the input reads as it did. -/
def shareFairSpec : ChangeSpec := { name := "shareFair", fn := fun _ => fun
  | [d1, d2, d3, d4, d5] => { results := [.lit (.bool true)], args := [d1, d2, d3, d4, d5] }
  | _ => none }
def shareFairRow : OpenClaim := { program := "ytjfkniknmkcdcaagreatdoor", sum := "7ffc4bd9dd13a26b5c13e1b4a564c26df501c1d6d800d231fa82a9404b94fd13", func := "abaculus/abaculuslaw37.ShareFair", spec := "shareFair", inPlace := ["math/bits.Add64", "math/bits.Sub64"], named := ["math/bits.divideError", "math/bits.overflowError", "abaculus/share.factorials"], apart := false, laid := [("abaculus/share.factorials", laid_abaculus_share_factorials)] }
def ShareFairSaid : Prop := shareFairRow.holds Tryz.pinned (OpenSpec.ofChange shareFairSpec)

/-- ITS FALSE NEIGHBOUR: 'it returns false'. Refute it at one input. -/
def shareFairWrong : ChangeSpec := { name := "shareFair", fn := fun _ => fun
  | [d1, d2, d3, d4, d5] => { results := [.lit (.bool false)], args := [d1, d2, d3, d4, d5] }
  | _ => none }
def ShareFairWrongFalsely : Prop := shareFairRow.holds Tryz.pinned (OpenSpec.ofChange shareFairWrong)

/- THE SECOND FORM. 'bulk': how many values and letters a reading holds, each counted each time it is reached (what is shared counts as often as it is met; a slice's spare places count too). A statement '..UptoSaid' is the law's where the arguments, and the package variables that the reading takes, are together of bulk at most 1048576: NARROWER than '..Said'. Prove '..Said' where nothing that the law and all that it calls make is longer than what came in: it says more and counts as full. Else prove '..UptoSaid'. A law counts once. -/
mutual
def uptoBulk {H : Type} : DataW H → Nat
  | .lit (.string bytes) => bytes.length + 1
  | .lit _ => 1
  | .nil => 1
  | .ptr d => uptoBulk d + 1
  | .slice elems spare => uptoBulkAll elems + uptoBulkAll spare + 1
  | .agg parts => uptoBulkAll parts + 1
  | .iface _ d => uptoBulk d + 1
  | .map entries => uptoBulkEntries entries + 1
  | .held _ => 1
def uptoBulkAll {H : Type} : List (DataW H) → Nat
  | [] => 0
  | d :: r => uptoBulk d + uptoBulkAll r
def uptoBulkEntries {H : Type} : List (Lit × DataW H) → Nat
  | [] => 0
  | x :: r => uptoBulkEntry x + uptoBulkEntries r
def uptoBulkEntry {H : Type} : Lit × DataW H → Nat
  | (.string bytes, d) => bytes.length + uptoBulk d + 1
  | (_, d) => uptoBulk d + 1
 end
def uptoSmall : (H : Type) → List (DataW H) → Bool := fun _ ds => decide (uptoBulkAll ds ≤ 1048576)
def OpenSpec.upto (s : _root_.Go.ChangeSpec) : _root_.Go.OpenSpec := { _root_.Go.OpenSpec.ofChange s with cond := some uptoSmall }

/-- 'abaculuslaw37.ShareTables', WHERE WHAT IT READS IS OF BULK AT MOST 1048576: true; the input reads as it did. -/
def shareTablesUptoRow : OpenClaim := { program := "ytjfkniknmkcdcaagreatdoor", sum := "7ffc4bd9dd13a26b5c13e1b4a564c26df501c1d6d800d231fa82a9404b94fd13", func := "abaculus/abaculuslaw37.ShareTables", spec := "shareTables", inPlace := ["math/bits.Add64", "math/bits.Sub64"], recurses := true, named := ["math/bits.divideError", "math/bits.overflowError", "abaculus/share.factorials"], apart := false, laid := [("abaculus/share.factorials", laid_abaculus_share_factorials)], narrowed := true }
def ShareTablesUptoSaid : Prop := shareTablesUptoRow.holds Tryz.pinned (OpenSpec.upto shareTablesSpec)

/-- 'abaculuslaw37.ShareFair', WHERE WHAT IT READS IS OF BULK AT MOST 1048576: true; the input reads as it did. -/
def shareFairUptoRow : OpenClaim := { program := "ytjfkniknmkcdcaagreatdoor", sum := "7ffc4bd9dd13a26b5c13e1b4a564c26df501c1d6d800d231fa82a9404b94fd13", func := "abaculus/abaculuslaw37.ShareFair", spec := "shareFair", inPlace := ["math/bits.Add64", "math/bits.Sub64"], named := ["math/bits.divideError", "math/bits.overflowError", "abaculus/share.factorials"], apart := false, laid := [("abaculus/share.factorials", laid_abaculus_share_factorials)], narrowed := true }
def ShareFairUptoSaid : Prop := shareFairUptoRow.holds Tryz.pinned (OpenSpec.upto shareFairSpec)

end Rows
end Go.Proofs.YtjfkniknmkcdcaaGreatDoor
