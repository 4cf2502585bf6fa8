/-
  No cell of these rows narrows 'for every input' (looked for: loops, veiled, ifaces, maps, wideKeys, modest, calm, conditions, laid).
  DERIVED. THE GIVEN ROWS OF THIS SEAT. 5 by the template 'for every input the law returns true; each argument reads behind the call as it read before'; 0 by the template 'total and deterministic' (their statements: YtfgbcfhnbkffnaaTotals.lean).
  GIVEN WITH THE SEED: the statements are not yours to turn. If you find one false, say at which input.
  Laid BY PROGRAM, IN A SANDBOX (cutbox-rows.mjs): the forced cells as the released guide's own fill.sh prints them over the translation 42a3a7a4e5131136… (all of the seat's roots in one cut). By AI agents, Wed Nov 11 2026. No macro, syntax, notation, axiom, sorry.
-/
import Derived.Test.YtfgbcfhnbkffnaaChecked
import GoSem.Claim
import GoSem.ClaimJoined
import GoSem.ClaimMapViews
import Derived.JoinedTies
import Derived.KernelRfl
namespace Go.Proofs.Ytfgbcfhnbkffnaa
/- THE CELL 'sum', in the pinned program and in every row, IS THE sha256 OF THE DUMP (.gsa) THAT YtfgbcfhnbkffnaaProg.lean LOADS. Nothing in Lean hashes anything: it is a label: what it is worth is what the hold of that sum in a sandbox is worth. -/
noncomputable def Try.pinned : Pinned := { name := "ytfgbcfhnbkffnaa", sum := "42a3a7a4e51311360ea770cab18e3fe43b9162585dd5231b3c9e20c209615e13", checked := Try.checked }
namespace Rows
def none {H : Type} : Left H := { results := [], args := [] }

/-- 'pursebearerlaw02.DrawAgain': WHATEVER THE INPUT: true; the input reads as it did. -/
def drawAgainSpec : ChangeSpec := { name := "drawAgain", fn := fun _ => fun
  | [d1, d2, d3] => { results := [.lit (.bool true)], args := [d1, d2, d3] }
  | _ => none }
def drawAgainRow : OpenClaim := { program := "ytfgbcfhnbkffnaa", sum := "42a3a7a4e51311360ea770cab18e3fe43b9162585dd5231b3c9e20c209615e13", func := "pursebearer/pursebearerlaw02.DrawAgain", spec := "drawAgain", unfollowed := true, recurses := true, apart := false }
def DrawAgainSaid : Prop := drawAgainRow.holds Try.pinned (OpenSpec.ofChange drawAgainSpec)

/-- ITS FALSE NEIGHBOUR: 'it returns false'. Refute it at one input. -/
def drawAgainWrong : ChangeSpec := { name := "drawAgain", fn := fun _ => fun
  | [d1, d2, d3] => { results := [.lit (.bool false)], args := [d1, d2, d3] }
  | _ => none }
def DrawAgainWrongFalsely : Prop := drawAgainRow.holds Try.pinned (OpenSpec.ofChange drawAgainWrong)

/-- 'pursebearerlaw02.DrawJoins': WHATEVER THE INPUT: true; the input reads as it did. -/
def drawJoinsSpec : ChangeSpec := { name := "drawJoins", fn := fun _ => fun
  | [d1, d2] => { results := [.lit (.bool true)], args := [d1, d2] }
  | _ => none }
def drawJoinsRow : OpenClaim := { program := "ytfgbcfhnbkffnaa", sum := "42a3a7a4e51311360ea770cab18e3fe43b9162585dd5231b3c9e20c209615e13", func := "pursebearer/pursebearerlaw02.DrawJoins", spec := "drawJoins", unfollowed := true, recurses := true, apart := false }
def DrawJoinsSaid : Prop := drawJoinsRow.holds Try.pinned (OpenSpec.ofChange drawJoinsSpec)

/-- ITS FALSE NEIGHBOUR: 'it returns false'. Refute it at one input. -/
def drawJoinsWrong : ChangeSpec := { name := "drawJoins", fn := fun _ => fun
  | [d1, d2] => { results := [.lit (.bool false)], args := [d1, d2] }
  | _ => none }
def DrawJoinsWrongFalsely : Prop := drawJoinsRow.holds Try.pinned (OpenSpec.ofChange drawJoinsWrong)

/-- 'pursebearerlaw02.DrawApart': WHATEVER THE INPUT: true; the input reads as it did. -/
def drawApartSpec : ChangeSpec := { name := "drawApart", fn := fun _ => fun
  | [d1, d2, d3, d4] => { results := [.lit (.bool true)], args := [d1, d2, d3, d4] }
  | _ => none }
def drawApartRow : OpenClaim := { program := "ytfgbcfhnbkffnaa", sum := "42a3a7a4e51311360ea770cab18e3fe43b9162585dd5231b3c9e20c209615e13", func := "pursebearer/pursebearerlaw02.DrawApart", spec := "drawApart", unfollowed := true, recurses := true, apart := false }
def DrawApartSaid : Prop := drawApartRow.holds Try.pinned (OpenSpec.ofChange drawApartSpec)

/-- ITS FALSE NEIGHBOUR: 'it returns false'. Refute it at one input. -/
def drawApartWrong : ChangeSpec := { name := "drawApart", fn := fun _ => fun
  | [d1, d2, d3, d4] => { results := [.lit (.bool false)], args := [d1, d2, d3, d4] }
  | _ => none }
def DrawApartWrongFalsely : Prop := drawApartRow.holds Try.pinned (OpenSpec.ofChange drawApartWrong)

/-- 'pursebearerlaw02.DrawEven': WHATEVER THE INPUT: true; the input reads as it did. -/
def drawEvenSpec : ChangeSpec := { name := "drawEven", fn := fun _ => fun
  | [d1, d2] => { results := [.lit (.bool true)], args := [d1, d2] }
  | _ => none }
def drawEvenRow : OpenClaim := { program := "ytfgbcfhnbkffnaa", sum := "42a3a7a4e51311360ea770cab18e3fe43b9162585dd5231b3c9e20c209615e13", func := "pursebearer/pursebearerlaw02.DrawEven", spec := "drawEven", unfollowed := true, recurses := true, apart := false }
def DrawEvenSaid : Prop := drawEvenRow.holds Try.pinned (OpenSpec.ofChange drawEvenSpec)

/-- ITS FALSE NEIGHBOUR: 'it returns false'. Refute it at one input. -/
def drawEvenWrong : ChangeSpec := { name := "drawEven", fn := fun _ => fun
  | [d1, d2] => { results := [.lit (.bool false)], args := [d1, d2] }
  | _ => none }
def DrawEvenWrongFalsely : Prop := drawEvenRow.holds Try.pinned (OpenSpec.ofChange drawEvenWrong)

/-- 'pursebearerlaw02.DrawTwo': WHATEVER THE INPUT: true; the input reads as it did. -/
def drawTwoSpec : ChangeSpec := { name := "drawTwo", fn := fun _ => fun
  | [d1, d2, d3, d4] => { results := [.lit (.bool true)], args := [d1, d2, d3, d4] }
  | _ => none }
def drawTwoRow : OpenClaim := { program := "ytfgbcfhnbkffnaa", sum := "42a3a7a4e51311360ea770cab18e3fe43b9162585dd5231b3c9e20c209615e13", func := "pursebearer/pursebearerlaw02.DrawTwo", spec := "drawTwo", unfollowed := true, recurses := true, apart := false }
def DrawTwoSaid : Prop := drawTwoRow.holds Try.pinned (OpenSpec.ofChange drawTwoSpec)

/-- ITS FALSE NEIGHBOUR: 'it returns false'. Refute it at one input. -/
def drawTwoWrong : ChangeSpec := { name := "drawTwo", fn := fun _ => fun
  | [d1, d2, d3, d4] => { results := [.lit (.bool false)], args := [d1, d2, d3, d4] }
  | _ => none }
def DrawTwoWrongFalsely : Prop := drawTwoRow.holds Try.pinned (OpenSpec.ofChange drawTwoWrong)

/- THE SECOND FORM. 'bulk': how many values and letters a reading holds, each counted each time it is reached (what is shared counts as often as it is met; a slice's spare places count too). A statement '..UptoSaid' is the law's where the arguments, and the package variables that the reading takes, are together of bulk at most 1048576: NARROWER than '..Said'. Prove '..Said' where nothing that the law and all that it calls make is longer than what came in: it says more and counts as full. Else prove '..UptoSaid'. A law counts once. -/
mutual
def uptoBulk {H : Type} : DataW H → Nat
  | .lit (.string bytes) => bytes.length + 1
  | .lit _ => 1
  | .nil => 1
  | .ptr d => uptoBulk d + 1
  | .slice elems spare => uptoBulkAll elems + uptoBulkAll spare + 1
  | .agg parts => uptoBulkAll parts + 1
  | .iface _ d => uptoBulk d + 1
  | .map entries => uptoBulkEntries entries + 1
  | .held _ => 1
def uptoBulkAll {H : Type} : List (DataW H) → Nat
  | [] => 0
  | d :: r => uptoBulk d + uptoBulkAll r
def uptoBulkEntries {H : Type} : List (Lit × DataW H) → Nat
  | [] => 0
  | x :: r => uptoBulkEntry x + uptoBulkEntries r
def uptoBulkEntry {H : Type} : Lit × DataW H → Nat
  | (.string bytes, d) => bytes.length + uptoBulk d + 1
  | (_, d) => uptoBulk d + 1
 end
def uptoSmall : (H : Type) → List (DataW H) → Bool := fun _ ds => decide (uptoBulkAll ds ≤ 1048576)
def OpenSpec.upto (s : _root_.Go.ChangeSpec) : _root_.Go.OpenSpec := { _root_.Go.OpenSpec.ofChange s with cond := some uptoSmall }

/-- 'pursebearerlaw02.DrawAgain', WHERE WHAT IT READS IS OF BULK AT MOST 1048576: true; the input reads as it did. -/
def drawAgainUptoRow : OpenClaim := { program := "ytfgbcfhnbkffnaa", sum := "42a3a7a4e51311360ea770cab18e3fe43b9162585dd5231b3c9e20c209615e13", func := "pursebearer/pursebearerlaw02.DrawAgain", spec := "drawAgain", unfollowed := true, recurses := true, apart := false, narrowed := true }
def DrawAgainUptoSaid : Prop := drawAgainUptoRow.holds Try.pinned (OpenSpec.upto drawAgainSpec)

/-- 'pursebearerlaw02.DrawJoins', WHERE WHAT IT READS IS OF BULK AT MOST 1048576: true; the input reads as it did. -/
def drawJoinsUptoRow : OpenClaim := { program := "ytfgbcfhnbkffnaa", sum := "42a3a7a4e51311360ea770cab18e3fe43b9162585dd5231b3c9e20c209615e13", func := "pursebearer/pursebearerlaw02.DrawJoins", spec := "drawJoins", unfollowed := true, recurses := true, apart := false, narrowed := true }
def DrawJoinsUptoSaid : Prop := drawJoinsUptoRow.holds Try.pinned (OpenSpec.upto drawJoinsSpec)

/-- 'pursebearerlaw02.DrawApart', WHERE WHAT IT READS IS OF BULK AT MOST 1048576: true; the input reads as it did. -/
def drawApartUptoRow : OpenClaim := { program := "ytfgbcfhnbkffnaa", sum := "42a3a7a4e51311360ea770cab18e3fe43b9162585dd5231b3c9e20c209615e13", func := "pursebearer/pursebearerlaw02.DrawApart", spec := "drawApart", unfollowed := true, recurses := true, apart := false, narrowed := true }
def DrawApartUptoSaid : Prop := drawApartUptoRow.holds Try.pinned (OpenSpec.upto drawApartSpec)

/-- 'pursebearerlaw02.DrawEven', WHERE WHAT IT READS IS OF BULK AT MOST 1048576: true; the input reads as it did. -/
def drawEvenUptoRow : OpenClaim := { program := "ytfgbcfhnbkffnaa", sum := "42a3a7a4e51311360ea770cab18e3fe43b9162585dd5231b3c9e20c209615e13", func := "pursebearer/pursebearerlaw02.DrawEven", spec := "drawEven", unfollowed := true, recurses := true, apart := false, narrowed := true }
def DrawEvenUptoSaid : Prop := drawEvenUptoRow.holds Try.pinned (OpenSpec.upto drawEvenSpec)

/-- 'pursebearerlaw02.DrawTwo', WHERE WHAT IT READS IS OF BULK AT MOST 1048576: true; the input reads as it did. -/
def drawTwoUptoRow : OpenClaim := { program := "ytfgbcfhnbkffnaa", sum := "42a3a7a4e51311360ea770cab18e3fe43b9162585dd5231b3c9e20c209615e13", func := "pursebearer/pursebearerlaw02.DrawTwo", spec := "drawTwo", unfollowed := true, recurses := true, apart := false, narrowed := true }
def DrawTwoUptoSaid : Prop := drawTwoUptoRow.holds Try.pinned (OpenSpec.upto drawTwoSpec)

end Rows
end Go.Proofs.Ytfgbcfhnbkffnaa
