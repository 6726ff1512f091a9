/-
  NARROWER THAN 'FOR EVERY INPUT', by the rows' own cells (each row's printed sentence says how): ShareMixed: laid · ShareWide: laid · ShareKnown: laid.
  DERIVED. THE GIVEN ROWS OF THIS SEAT. 3 by the template 'for every input the law returns true; each argument reads behind the call as it read before'; 0 by the template 'total and deterministic' (their statements: YtjfkniknmkcdcaaDoorTotals.lean).
  GIVEN WITH THE SEED: the statements are not yours to turn. If you find one false, say at which input.
  Laid BY PROGRAM, IN A SANDBOX (cutbox-rows.mjs): the forced cells as the released guide's own fill.sh prints them over the translation c5305ebf33dcd723… (all of the seat's roots in one cut). By AI agents, Wed Nov 11 2026. No macro, syntax, notation, axiom, sorry.
-/
import Derived.Test.YtjfkniknmkcdcaaDoorChecked
import GoSem.Claim
import GoSem.ClaimJoined
import GoSem.ClaimMapViews
import Derived.JoinedTies
import Derived.KernelRfl
namespace Go.Proofs.YtjfkniknmkcdcaaDoor
/- THE CELL 'sum', in the pinned program and in every row, IS THE sha256 OF THE DUMP (.gsa) THAT YtjfkniknmkcdcaaDoorProg.lean LOADS. Nothing in Lean hashes anything: it is a label: what it is worth is what the hold of that sum in a sandbox is worth. -/
noncomputable def Tryd.pinned : Pinned := { name := "ytjfkniknmkcdcaadoor", sum := "c5305ebf33dcd72340e51569342c580a61156e6a2b0be71f907565e8d35c9e80", checked := Tryd.checked }
namespace Rows
def none {H : Type} : Left H := { results := [], args := [] }

/- WHAT THE LISTED PACKAGE-LEVEL VARIABLES READ AS WHEN THE CALL BEGINS. Each datum BY PROGRAM (the guide's laid-datum.mjs) off the statement by which the dump's own 'gosem.cut.vars' lays the variable. In a bare row this is a premise. The card (YtjfkniknmkcdcaaDoorCards.lean) ties it to the program's text. -/
def laid_abaculus_share_factorials {H : Type} : DataW H := .agg [.lit (.int .i64 1), .lit (.int .i64 1), .lit (.int .i64 2), .lit (.int .i64 6), .lit (.int .i64 24), .lit (.int .i64 120), .lit (.int .i64 720), .lit (.int .i64 5040), .lit (.int .i64 40320), .lit (.int .i64 362880), .lit (.int .i64 3628800)]

/-- 'abaculuslaw37.ShareMixed': WHATEVER THE INPUT: true; the input reads as it did. -/
def shareMixedSpec : ChangeSpec := { name := "shareMixed", fn := fun _ => fun
  | [d1, d2, d3, d4, d5] => { results := [.lit (.bool true)], args := [d1, d2, d3, d4, d5] }
  | _ => none }
def shareMixedRow : OpenClaim := { program := "ytjfkniknmkcdcaadoor", sum := "c5305ebf33dcd72340e51569342c580a61156e6a2b0be71f907565e8d35c9e80", func := "abaculus/abaculuslaw37.ShareMixed", spec := "shareMixed", inPlace := ["math/bits.Add64", "math/bits.Sub64"], named := ["math/bits.divideError", "math/bits.overflowError", "abaculus/share.factorials"], apart := false, laid := [("abaculus/share.factorials", laid_abaculus_share_factorials)] }
def ShareMixedSaid : Prop := shareMixedRow.holds Tryd.pinned (OpenSpec.ofChange shareMixedSpec)

/-- ITS FALSE NEIGHBOUR: 'it returns false'. Refute it at one input. -/
def shareMixedWrong : ChangeSpec := { name := "shareMixed", fn := fun _ => fun
  | [d1, d2, d3, d4, d5] => { results := [.lit (.bool false)], args := [d1, d2, d3, d4, d5] }
  | _ => none }
def ShareMixedWrongFalsely : Prop := shareMixedRow.holds Tryd.pinned (OpenSpec.ofChange shareMixedWrong)

/-- 'abaculuslaw37.ShareWide': WHATEVER THE INPUT: true; the input reads as it did. -/
def shareWideSpec : ChangeSpec := { name := "shareWide", fn := fun _ => fun
  | [d1, d2] => { results := [.lit (.bool true)], args := [d1, d2] }
  | _ => none }
def shareWideRow : OpenClaim := { program := "ytjfkniknmkcdcaadoor", sum := "c5305ebf33dcd72340e51569342c580a61156e6a2b0be71f907565e8d35c9e80", func := "abaculus/abaculuslaw37.ShareWide", spec := "shareWide", inPlace := ["math/bits.Add64", "math/bits.Sub64"], unfollowed := true, recurses := true, named := ["math/bits.divideError", "math/bits.overflowError", "abaculus/share.factorials"], apart := false, laid := [("abaculus/share.factorials", laid_abaculus_share_factorials)] }
def ShareWideSaid : Prop := shareWideRow.holds Tryd.pinned (OpenSpec.ofChange shareWideSpec)

/-- ITS FALSE NEIGHBOUR: 'it returns false'. Refute it at one input. -/
def shareWideWrong : ChangeSpec := { name := "shareWide", fn := fun _ => fun
  | [d1, d2] => { results := [.lit (.bool false)], args := [d1, d2] }
  | _ => none }
def ShareWideWrongFalsely : Prop := shareWideRow.holds Tryd.pinned (OpenSpec.ofChange shareWideWrong)

/-- 'abaculuslaw37.ShareKnown': WHATEVER THE INPUT: true; the input reads as it did. -/
def shareKnownSpec : ChangeSpec := { name := "shareKnown", fn := fun _ => fun
  | [] => { results := [.lit (.bool true)], args := [] }
  | _ => none }
def shareKnownRow : OpenClaim := { program := "ytjfkniknmkcdcaadoor", sum := "c5305ebf33dcd72340e51569342c580a61156e6a2b0be71f907565e8d35c9e80", func := "abaculus/abaculuslaw37.ShareKnown", spec := "shareKnown", inPlace := ["math/bits.Add64", "math/bits.Sub64"], named := ["math/bits.divideError", "math/bits.overflowError", "abaculus/share.factorials"], apart := false, laid := [("abaculus/share.factorials", laid_abaculus_share_factorials)] }
def ShareKnownSaid : Prop := shareKnownRow.holds Tryd.pinned (OpenSpec.ofChange shareKnownSpec)

/-- ITS FALSE NEIGHBOUR: 'it returns false'. Refute it at one input. -/
def shareKnownWrong : ChangeSpec := { name := "shareKnown", fn := fun _ => fun
  | [] => { results := [.lit (.bool false)], args := [] }
  | _ => none }
def ShareKnownWrongFalsely : Prop := shareKnownRow.holds Tryd.pinned (OpenSpec.ofChange shareKnownWrong)

/- THE SECOND FORM. 'bulk': how many values and letters a reading holds, each counted each time it is reached (what is shared counts as often as it is met; a slice's spare places count too). A statement '..UptoSaid' is the law's where the arguments, and the package variables that the reading takes, are together of bulk at most 1048576: NARROWER than '..Said'. Prove '..Said' where nothing that the law and all that it calls make is longer than what came in: it says more and counts as full. Else prove '..UptoSaid'. A law counts once. -/
mutual
def uptoBulk {H : Type} : DataW H → Nat
  | .lit (.string bytes) => bytes.length + 1
  | .lit _ => 1
  | .nil => 1
  | .ptr d => uptoBulk d + 1
  | .slice elems spare => uptoBulkAll elems + uptoBulkAll spare + 1
  | .agg parts => uptoBulkAll parts + 1
  | .iface _ d => uptoBulk d + 1
  | .map entries => uptoBulkEntries entries + 1
  | .held _ => 1
def uptoBulkAll {H : Type} : List (DataW H) → Nat
  | [] => 0
  | d :: r => uptoBulk d + uptoBulkAll r
def uptoBulkEntries {H : Type} : List (Lit × DataW H) → Nat
  | [] => 0
  | x :: r => uptoBulkEntry x + uptoBulkEntries r
def uptoBulkEntry {H : Type} : Lit × DataW H → Nat
  | (.string bytes, d) => bytes.length + uptoBulk d + 1
  | (_, d) => uptoBulk d + 1
 end
def uptoSmall : (H : Type) → List (DataW H) → Bool := fun _ ds => decide (uptoBulkAll ds ≤ 1048576)
def OpenSpec.upto (s : _root_.Go.ChangeSpec) : _root_.Go.OpenSpec := { _root_.Go.OpenSpec.ofChange s with cond := some uptoSmall }

/-- 'abaculuslaw37.ShareMixed', WHERE WHAT IT READS IS OF BULK AT MOST 1048576: true; the input reads as it did. -/
def shareMixedUptoRow : OpenClaim := { program := "ytjfkniknmkcdcaadoor", sum := "c5305ebf33dcd72340e51569342c580a61156e6a2b0be71f907565e8d35c9e80", func := "abaculus/abaculuslaw37.ShareMixed", spec := "shareMixed", inPlace := ["math/bits.Add64", "math/bits.Sub64"], named := ["math/bits.divideError", "math/bits.overflowError", "abaculus/share.factorials"], apart := false, laid := [("abaculus/share.factorials", laid_abaculus_share_factorials)], narrowed := true }
def ShareMixedUptoSaid : Prop := shareMixedUptoRow.holds Tryd.pinned (OpenSpec.upto shareMixedSpec)

/-- 'abaculuslaw37.ShareWide', WHERE WHAT IT READS IS OF BULK AT MOST 1048576: true; the input reads as it did. -/
def shareWideUptoRow : OpenClaim := { program := "ytjfkniknmkcdcaadoor", sum := "c5305ebf33dcd72340e51569342c580a61156e6a2b0be71f907565e8d35c9e80", func := "abaculus/abaculuslaw37.ShareWide", spec := "shareWide", inPlace := ["math/bits.Add64", "math/bits.Sub64"], unfollowed := true, recurses := true, named := ["math/bits.divideError", "math/bits.overflowError", "abaculus/share.factorials"], apart := false, laid := [("abaculus/share.factorials", laid_abaculus_share_factorials)], narrowed := true }
def ShareWideUptoSaid : Prop := shareWideUptoRow.holds Tryd.pinned (OpenSpec.upto shareWideSpec)

/-- 'abaculuslaw37.ShareKnown', WHERE WHAT IT READS IS OF BULK AT MOST 1048576: true; the input reads as it did. -/
def shareKnownUptoRow : OpenClaim := { program := "ytjfkniknmkcdcaadoor", sum := "c5305ebf33dcd72340e51569342c580a61156e6a2b0be71f907565e8d35c9e80", func := "abaculus/abaculuslaw37.ShareKnown", spec := "shareKnown", inPlace := ["math/bits.Add64", "math/bits.Sub64"], named := ["math/bits.divideError", "math/bits.overflowError", "abaculus/share.factorials"], apart := false, laid := [("abaculus/share.factorials", laid_abaculus_share_factorials)], narrowed := true }
def ShareKnownUptoSaid : Prop := shareKnownUptoRow.holds Tryd.pinned (OpenSpec.upto shareKnownSpec)

end Rows
end Go.Proofs.YtjfkniknmkcdcaaDoor
