/-
  NARROWER THAN 'FOR EVERY INPUT', by the rows' own cells (each row's printed sentence says how): RewritePaths: laid · RewriteStays: laid · RewriteBack: laid · RewriteBegins: laid · RewriteHeads: laid · RewriteOnce: laid · RewriteTurns: laid.
  DERIVED. THE GIVEN ROWS OF THIS SEAT. 7 by the template 'for every input the law returns true; each argument reads behind the call as it read before'; 0 by the template 'total and deterministic' (their statements: YtbeilgkogbcjjaaDoorTotals.lean).
  GIVEN WITH THE SEED: the statements are not yours to turn. If you find one false, say at which input.
  Laid BY PROGRAM, IN A SANDBOX (cutbox-rows.mjs): the forced cells as the released guide's own fill.sh prints them over the translation 14400d3d7b0a12d5… (all of the seat's roots in one cut). By AI agents, Wed Nov 11 2026. No macro, syntax, notation, axiom, sorry.
-/
import Derived.Test.YtbeilgkogbcjjaaDoorChecked
import GoSem.PinnedTables
import GoSem.Claim
import GoSem.ClaimJoined
import GoSem.ClaimMapViews
import Derived.JoinedTies
import Derived.KernelRfl
namespace Go.Proofs.YtbeilgkogbcjjaaDoor
/- THE CELL 'sum', in the pinned program and in every row, IS THE sha256 OF THE DUMP (.gsa) THAT YtbeilgkogbcjjaaDoorProg.lean LOADS. Nothing in Lean hashes anything: it is a label: what it is worth is what the hold of that sum in a sandbox is worth. -/
noncomputable def Tryd.pinned : Pinned := { name := "ytbeilgkogbcjjaadoor", sum := "14400d3d7b0a12d51db91abef232f850f52eb269a4f90ff8e3f94bde8b1342ff", checked := Tryd.checked }
namespace Rows
def none {H : Type} : Left H := { results := [], args := [] }

/- WHAT THE LISTED PACKAGE-LEVEL VARIABLES READ AS WHEN THE CALL BEGINS. Each datum BY PROGRAM (the guide's laid-datum.mjs) off the statement by which the dump's own 'gosem.cut.vars' lays the variable. In a bare row this is a premise. The card (YtbeilgkogbcjjaaDoorCards.lean) ties it to the program's text. -/
def laid_unicode_utf8_acceptRanges {H : Type} : DataW H := .agg [.agg [.lit (.int .u8 128), .lit (.int .u8 191)], .agg [.lit (.int .u8 160), .lit (.int .u8 191)], .agg [.lit (.int .u8 128), .lit (.int .u8 159)], .agg [.lit (.int .u8 144), .lit (.int .u8 191)], .agg [.lit (.int .u8 128), .lit (.int .u8 143)], .agg [.lit (.int .u8 0), .lit (.int .u8 0)], .agg [.lit (.int .u8 0), .lit (.int .u8 0)], .agg [.lit (.int .u8 0), .lit (.int .u8 0)], .agg [.lit (.int .u8 0), .lit (.int .u8 0)], .agg [.lit (.int .u8 0), .lit (.int .u8 0)], .agg [.lit (.int .u8 0), .lit (.int .u8 0)], .agg [.lit (.int .u8 0), .lit (.int .u8 0)], .agg [.lit (.int .u8 0), .lit (.int .u8 0)], .agg [.lit (.int .u8 0), .lit (.int .u8 0)], .agg [.lit (.int .u8 0), .lit (.int .u8 0)], .agg [.lit (.int .u8 0), .lit (.int .u8 0)]]
/-- One of Go's own tables, pinned by name: the form's constant. -/
def laid_unicode_utf8_first : DataW Unit := Go.Pinned.utf8First

/-- 'pursebearerlaw07.RewritePaths': WHATEVER THE INPUT: true; the input reads as it did. -/
def rewritePathsSpec : ChangeSpec := { name := "rewritePaths", fn := fun _ => fun
  | [d1, d2] => { results := [.lit (.bool true)], args := [d1, d2] }
  | _ => none }
def rewritePathsRow : OpenClaim := { program := "ytbeilgkogbcjjaadoor", sum := "14400d3d7b0a12d51db91abef232f850f52eb269a4f90ff8e3f94bde8b1342ff", func := "pursebearer/pursebearerlaw07.RewritePaths", spec := "rewritePaths", inPlace := ["internal/bytealg.CountString", "internal/bytealg.IndexByteString", "internal/bytealg.IndexString"], unfollowed := true, recurses := true, named := ["unicode/utf8.first", "unicode/utf8.acceptRanges", "internal/bytealg.MaxLen"], apart := false, laid := [("unicode/utf8.acceptRanges", laid_unicode_utf8_acceptRanges), ("unicode/utf8.first", laid_unicode_utf8_first)] }
def RewritePathsSaid : Prop := rewritePathsRow.holds Tryd.pinned (OpenSpec.ofChange rewritePathsSpec)

/-- ITS FALSE NEIGHBOUR: 'it returns false'. Refute it at one input. -/
def rewritePathsWrong : ChangeSpec := { name := "rewritePaths", fn := fun _ => fun
  | [d1, d2] => { results := [.lit (.bool false)], args := [d1, d2] }
  | _ => none }
def RewritePathsWrongFalsely : Prop := rewritePathsRow.holds Tryd.pinned (OpenSpec.ofChange rewritePathsWrong)

/-- 'pursebearerlaw07.RewriteStays': WHATEVER THE INPUT: true; the input reads as it did. -/
def rewriteStaysSpec : ChangeSpec := { name := "rewriteStays", fn := fun _ => fun
  | [d1, d2] => { results := [.lit (.bool true)], args := [d1, d2] }
  | _ => none }
def rewriteStaysRow : OpenClaim := { program := "ytbeilgkogbcjjaadoor", sum := "14400d3d7b0a12d51db91abef232f850f52eb269a4f90ff8e3f94bde8b1342ff", func := "pursebearer/pursebearerlaw07.RewriteStays", spec := "rewriteStays", inPlace := ["internal/bytealg.CountString", "internal/bytealg.IndexByteString", "internal/bytealg.IndexString"], unfollowed := true, recurses := true, named := ["unicode/utf8.first", "unicode/utf8.acceptRanges", "internal/bytealg.MaxLen"], apart := false, laid := [("unicode/utf8.acceptRanges", laid_unicode_utf8_acceptRanges), ("unicode/utf8.first", laid_unicode_utf8_first)] }
def RewriteStaysSaid : Prop := rewriteStaysRow.holds Tryd.pinned (OpenSpec.ofChange rewriteStaysSpec)

/-- ITS FALSE NEIGHBOUR: 'it returns false'. Refute it at one input. -/
def rewriteStaysWrong : ChangeSpec := { name := "rewriteStays", fn := fun _ => fun
  | [d1, d2] => { results := [.lit (.bool false)], args := [d1, d2] }
  | _ => none }
def RewriteStaysWrongFalsely : Prop := rewriteStaysRow.holds Tryd.pinned (OpenSpec.ofChange rewriteStaysWrong)

/-- 'pursebearerlaw07.RewriteBack': WHATEVER THE INPUT: true; the input reads as it did. -/
def rewriteBackSpec : ChangeSpec := { name := "rewriteBack", fn := fun _ => fun
  | [d1, d2] => { results := [.lit (.bool true)], args := [d1, d2] }
  | _ => none }
def rewriteBackRow : OpenClaim := { program := "ytbeilgkogbcjjaadoor", sum := "14400d3d7b0a12d51db91abef232f850f52eb269a4f90ff8e3f94bde8b1342ff", func := "pursebearer/pursebearerlaw07.RewriteBack", spec := "rewriteBack", inPlace := ["internal/bytealg.CountString", "internal/bytealg.IndexByteString", "internal/bytealg.IndexString"], unfollowed := true, recurses := true, named := ["unicode/utf8.first", "unicode/utf8.acceptRanges", "internal/bytealg.MaxLen"], apart := false, laid := [("unicode/utf8.acceptRanges", laid_unicode_utf8_acceptRanges), ("unicode/utf8.first", laid_unicode_utf8_first)] }
def RewriteBackSaid : Prop := rewriteBackRow.holds Tryd.pinned (OpenSpec.ofChange rewriteBackSpec)

/-- ITS FALSE NEIGHBOUR: 'it returns false'. Refute it at one input. -/
def rewriteBackWrong : ChangeSpec := { name := "rewriteBack", fn := fun _ => fun
  | [d1, d2] => { results := [.lit (.bool false)], args := [d1, d2] }
  | _ => none }
def RewriteBackWrongFalsely : Prop := rewriteBackRow.holds Tryd.pinned (OpenSpec.ofChange rewriteBackWrong)

/-- 'pursebearerlaw07.RewriteBegins': WHATEVER THE INPUT: true; the input reads as it did. -/
def rewriteBeginsSpec : ChangeSpec := { name := "rewriteBegins", fn := fun _ => fun
  | [d1, d2, d3] => { results := [.lit (.bool true)], args := [d1, d2, d3] }
  | _ => none }
def rewriteBeginsRow : OpenClaim := { program := "ytbeilgkogbcjjaadoor", sum := "14400d3d7b0a12d51db91abef232f850f52eb269a4f90ff8e3f94bde8b1342ff", func := "pursebearer/pursebearerlaw07.RewriteBegins", spec := "rewriteBegins", inPlace := ["internal/bytealg.CountString", "internal/bytealg.IndexByteString", "internal/bytealg.IndexString"], unfollowed := true, recurses := true, named := ["unicode/utf8.first", "unicode/utf8.acceptRanges", "internal/bytealg.MaxLen"], apart := false, laid := [("unicode/utf8.acceptRanges", laid_unicode_utf8_acceptRanges), ("unicode/utf8.first", laid_unicode_utf8_first)] }
def RewriteBeginsSaid : Prop := rewriteBeginsRow.holds Tryd.pinned (OpenSpec.ofChange rewriteBeginsSpec)

/-- ITS FALSE NEIGHBOUR: 'it returns false'. Refute it at one input. -/
def rewriteBeginsWrong : ChangeSpec := { name := "rewriteBegins", fn := fun _ => fun
  | [d1, d2, d3] => { results := [.lit (.bool false)], args := [d1, d2, d3] }
  | _ => none }
def RewriteBeginsWrongFalsely : Prop := rewriteBeginsRow.holds Tryd.pinned (OpenSpec.ofChange rewriteBeginsWrong)

/-- 'pursebearerlaw07.RewriteHeads': WHATEVER THE INPUT: true; the input reads as it did. -/
def rewriteHeadsSpec : ChangeSpec := { name := "rewriteHeads", fn := fun _ => fun
  | [d1, d2] => { results := [.lit (.bool true)], args := [d1, d2] }
  | _ => none }
def rewriteHeadsRow : OpenClaim := { program := "ytbeilgkogbcjjaadoor", sum := "14400d3d7b0a12d51db91abef232f850f52eb269a4f90ff8e3f94bde8b1342ff", func := "pursebearer/pursebearerlaw07.RewriteHeads", spec := "rewriteHeads", inPlace := ["internal/bytealg.CountString", "internal/bytealg.IndexByteString", "internal/bytealg.IndexString"], unfollowed := true, recurses := true, named := ["unicode/utf8.first", "unicode/utf8.acceptRanges", "internal/bytealg.MaxLen"], apart := false, laid := [("unicode/utf8.acceptRanges", laid_unicode_utf8_acceptRanges), ("unicode/utf8.first", laid_unicode_utf8_first)] }
def RewriteHeadsSaid : Prop := rewriteHeadsRow.holds Tryd.pinned (OpenSpec.ofChange rewriteHeadsSpec)

/-- ITS FALSE NEIGHBOUR: 'it returns false'. Refute it at one input. -/
def rewriteHeadsWrong : ChangeSpec := { name := "rewriteHeads", fn := fun _ => fun
  | [d1, d2] => { results := [.lit (.bool false)], args := [d1, d2] }
  | _ => none }
def RewriteHeadsWrongFalsely : Prop := rewriteHeadsRow.holds Tryd.pinned (OpenSpec.ofChange rewriteHeadsWrong)

/-- 'pursebearerlaw07.RewriteOnce': WHATEVER THE INPUT: true; the input reads as it did. -/
def rewriteOnceSpec : ChangeSpec := { name := "rewriteOnce", fn := fun _ => fun
  | [d1, d2, d3] => { results := [.lit (.bool true)], args := [d1, d2, d3] }
  | _ => none }
def rewriteOnceRow : OpenClaim := { program := "ytbeilgkogbcjjaadoor", sum := "14400d3d7b0a12d51db91abef232f850f52eb269a4f90ff8e3f94bde8b1342ff", func := "pursebearer/pursebearerlaw07.RewriteOnce", spec := "rewriteOnce", inPlace := ["internal/bytealg.CountString", "internal/bytealg.IndexByteString", "internal/bytealg.IndexString"], unfollowed := true, recurses := true, named := ["unicode/utf8.first", "unicode/utf8.acceptRanges", "internal/bytealg.MaxLen"], apart := false, laid := [("unicode/utf8.acceptRanges", laid_unicode_utf8_acceptRanges), ("unicode/utf8.first", laid_unicode_utf8_first)] }
def RewriteOnceSaid : Prop := rewriteOnceRow.holds Tryd.pinned (OpenSpec.ofChange rewriteOnceSpec)

/-- ITS FALSE NEIGHBOUR: 'it returns false'. Refute it at one input. -/
def rewriteOnceWrong : ChangeSpec := { name := "rewriteOnce", fn := fun _ => fun
  | [d1, d2, d3] => { results := [.lit (.bool false)], args := [d1, d2, d3] }
  | _ => none }
def RewriteOnceWrongFalsely : Prop := rewriteOnceRow.holds Tryd.pinned (OpenSpec.ofChange rewriteOnceWrong)

/-- 'pursebearerlaw07.RewriteTurns': WHATEVER THE INPUT: true; the input reads as it did. -/
def rewriteTurnsSpec : ChangeSpec := { name := "rewriteTurns", fn := fun _ => fun
  | [d1, d2, d3] => { results := [.lit (.bool true)], args := [d1, d2, d3] }
  | _ => none }
def rewriteTurnsRow : OpenClaim := { program := "ytbeilgkogbcjjaadoor", sum := "14400d3d7b0a12d51db91abef232f850f52eb269a4f90ff8e3f94bde8b1342ff", func := "pursebearer/pursebearerlaw07.RewriteTurns", spec := "rewriteTurns", inPlace := ["internal/bytealg.CountString", "internal/bytealg.IndexByteString", "internal/bytealg.IndexString"], unfollowed := true, recurses := true, named := ["unicode/utf8.first", "unicode/utf8.acceptRanges", "internal/bytealg.MaxLen"], apart := false, laid := [("unicode/utf8.acceptRanges", laid_unicode_utf8_acceptRanges), ("unicode/utf8.first", laid_unicode_utf8_first)] }
def RewriteTurnsSaid : Prop := rewriteTurnsRow.holds Tryd.pinned (OpenSpec.ofChange rewriteTurnsSpec)

/-- ITS FALSE NEIGHBOUR: 'it returns false'. Refute it at one input. -/
def rewriteTurnsWrong : ChangeSpec := { name := "rewriteTurns", fn := fun _ => fun
  | [d1, d2, d3] => { results := [.lit (.bool false)], args := [d1, d2, d3] }
  | _ => none }
def RewriteTurnsWrongFalsely : Prop := rewriteTurnsRow.holds Tryd.pinned (OpenSpec.ofChange rewriteTurnsWrong)

/- THE SECOND FORM. 'bulk': how many values and letters a reading holds, each counted each time it is reached (what is shared counts as often as it is met; a slice's spare places count too). A statement '..UptoSaid' is the law's where the arguments, and the package variables that the reading takes, are together of bulk at most 1048576: NARROWER than '..Said'. Prove '..Said' where nothing that the law and all that it calls make is longer than what came in: it says more and counts as full. Else prove '..UptoSaid'. A law counts once. -/
mutual
def uptoBulk {H : Type} : DataW H → Nat
  | .lit (.string bytes) => bytes.length + 1
  | .lit _ => 1
  | .nil => 1
  | .ptr d => uptoBulk d + 1
  | .slice elems spare => uptoBulkAll elems + uptoBulkAll spare + 1
  | .agg parts => uptoBulkAll parts + 1
  | .iface _ d => uptoBulk d + 1
  | .map entries => uptoBulkEntries entries + 1
  | .held _ => 1
def uptoBulkAll {H : Type} : List (DataW H) → Nat
  | [] => 0
  | d :: r => uptoBulk d + uptoBulkAll r
def uptoBulkEntries {H : Type} : List (Lit × DataW H) → Nat
  | [] => 0
  | x :: r => uptoBulkEntry x + uptoBulkEntries r
def uptoBulkEntry {H : Type} : Lit × DataW H → Nat
  | (.string bytes, d) => bytes.length + uptoBulk d + 1
  | (_, d) => uptoBulk d + 1
 end
def uptoSmall : (H : Type) → List (DataW H) → Bool := fun _ ds => decide (uptoBulkAll ds ≤ 1048576)
def OpenSpec.upto (s : _root_.Go.ChangeSpec) : _root_.Go.OpenSpec := { _root_.Go.OpenSpec.ofChange s with cond := some uptoSmall }

/-- 'pursebearerlaw07.RewritePaths', WHERE WHAT IT READS IS OF BULK AT MOST 1048576: true; the input reads as it did. -/
def rewritePathsUptoRow : OpenClaim := { program := "ytbeilgkogbcjjaadoor", sum := "14400d3d7b0a12d51db91abef232f850f52eb269a4f90ff8e3f94bde8b1342ff", func := "pursebearer/pursebearerlaw07.RewritePaths", spec := "rewritePaths", inPlace := ["internal/bytealg.CountString", "internal/bytealg.IndexByteString", "internal/bytealg.IndexString"], unfollowed := true, recurses := true, named := ["unicode/utf8.first", "unicode/utf8.acceptRanges", "internal/bytealg.MaxLen"], apart := false, laid := [("unicode/utf8.acceptRanges", laid_unicode_utf8_acceptRanges), ("unicode/utf8.first", laid_unicode_utf8_first)], narrowed := true }
def RewritePathsUptoSaid : Prop := rewritePathsUptoRow.holds Tryd.pinned (OpenSpec.upto rewritePathsSpec)

/-- 'pursebearerlaw07.RewriteStays', WHERE WHAT IT READS IS OF BULK AT MOST 1048576: true; the input reads as it did. -/
def rewriteStaysUptoRow : OpenClaim := { program := "ytbeilgkogbcjjaadoor", sum := "14400d3d7b0a12d51db91abef232f850f52eb269a4f90ff8e3f94bde8b1342ff", func := "pursebearer/pursebearerlaw07.RewriteStays", spec := "rewriteStays", inPlace := ["internal/bytealg.CountString", "internal/bytealg.IndexByteString", "internal/bytealg.IndexString"], unfollowed := true, recurses := true, named := ["unicode/utf8.first", "unicode/utf8.acceptRanges", "internal/bytealg.MaxLen"], apart := false, laid := [("unicode/utf8.acceptRanges", laid_unicode_utf8_acceptRanges), ("unicode/utf8.first", laid_unicode_utf8_first)], narrowed := true }
def RewriteStaysUptoSaid : Prop := rewriteStaysUptoRow.holds Tryd.pinned (OpenSpec.upto rewriteStaysSpec)

/-- 'pursebearerlaw07.RewriteBack', WHERE WHAT IT READS IS OF BULK AT MOST 1048576: true; the input reads as it did. -/
def rewriteBackUptoRow : OpenClaim := { program := "ytbeilgkogbcjjaadoor", sum := "14400d3d7b0a12d51db91abef232f850f52eb269a4f90ff8e3f94bde8b1342ff", func := "pursebearer/pursebearerlaw07.RewriteBack", spec := "rewriteBack", inPlace := ["internal/bytealg.CountString", "internal/bytealg.IndexByteString", "internal/bytealg.IndexString"], unfollowed := true, recurses := true, named := ["unicode/utf8.first", "unicode/utf8.acceptRanges", "internal/bytealg.MaxLen"], apart := false, laid := [("unicode/utf8.acceptRanges", laid_unicode_utf8_acceptRanges), ("unicode/utf8.first", laid_unicode_utf8_first)], narrowed := true }
def RewriteBackUptoSaid : Prop := rewriteBackUptoRow.holds Tryd.pinned (OpenSpec.upto rewriteBackSpec)

/-- 'pursebearerlaw07.RewriteBegins', WHERE WHAT IT READS IS OF BULK AT MOST 1048576: true; the input reads as it did. -/
def rewriteBeginsUptoRow : OpenClaim := { program := "ytbeilgkogbcjjaadoor", sum := "14400d3d7b0a12d51db91abef232f850f52eb269a4f90ff8e3f94bde8b1342ff", func := "pursebearer/pursebearerlaw07.RewriteBegins", spec := "rewriteBegins", inPlace := ["internal/bytealg.CountString", "internal/bytealg.IndexByteString", "internal/bytealg.IndexString"], unfollowed := true, recurses := true, named := ["unicode/utf8.first", "unicode/utf8.acceptRanges", "internal/bytealg.MaxLen"], apart := false, laid := [("unicode/utf8.acceptRanges", laid_unicode_utf8_acceptRanges), ("unicode/utf8.first", laid_unicode_utf8_first)], narrowed := true }
def RewriteBeginsUptoSaid : Prop := rewriteBeginsUptoRow.holds Tryd.pinned (OpenSpec.upto rewriteBeginsSpec)

/-- 'pursebearerlaw07.RewriteHeads', WHERE WHAT IT READS IS OF BULK AT MOST 1048576: true; the input reads as it did. -/
def rewriteHeadsUptoRow : OpenClaim := { program := "ytbeilgkogbcjjaadoor", sum := "14400d3d7b0a12d51db91abef232f850f52eb269a4f90ff8e3f94bde8b1342ff", func := "pursebearer/pursebearerlaw07.RewriteHeads", spec := "rewriteHeads", inPlace := ["internal/bytealg.CountString", "internal/bytealg.IndexByteString", "internal/bytealg.IndexString"], unfollowed := true, recurses := true, named := ["unicode/utf8.first", "unicode/utf8.acceptRanges", "internal/bytealg.MaxLen"], apart := false, laid := [("unicode/utf8.acceptRanges", laid_unicode_utf8_acceptRanges), ("unicode/utf8.first", laid_unicode_utf8_first)], narrowed := true }
def RewriteHeadsUptoSaid : Prop := rewriteHeadsUptoRow.holds Tryd.pinned (OpenSpec.upto rewriteHeadsSpec)

/-- 'pursebearerlaw07.RewriteOnce', WHERE WHAT IT READS IS OF BULK AT MOST 1048576: true; the input reads as it did. -/
def rewriteOnceUptoRow : OpenClaim := { program := "ytbeilgkogbcjjaadoor", sum := "14400d3d7b0a12d51db91abef232f850f52eb269a4f90ff8e3f94bde8b1342ff", func := "pursebearer/pursebearerlaw07.RewriteOnce", spec := "rewriteOnce", inPlace := ["internal/bytealg.CountString", "internal/bytealg.IndexByteString", "internal/bytealg.IndexString"], unfollowed := true, recurses := true, named := ["unicode/utf8.first", "unicode/utf8.acceptRanges", "internal/bytealg.MaxLen"], apart := false, laid := [("unicode/utf8.acceptRanges", laid_unicode_utf8_acceptRanges), ("unicode/utf8.first", laid_unicode_utf8_first)], narrowed := true }
def RewriteOnceUptoSaid : Prop := rewriteOnceUptoRow.holds Tryd.pinned (OpenSpec.upto rewriteOnceSpec)

/-- 'pursebearerlaw07.RewriteTurns', WHERE WHAT IT READS IS OF BULK AT MOST 1048576: true; the input reads as it did. -/
def rewriteTurnsUptoRow : OpenClaim := { program := "ytbeilgkogbcjjaadoor", sum := "14400d3d7b0a12d51db91abef232f850f52eb269a4f90ff8e3f94bde8b1342ff", func := "pursebearer/pursebearerlaw07.RewriteTurns", spec := "rewriteTurns", inPlace := ["internal/bytealg.CountString", "internal/bytealg.IndexByteString", "internal/bytealg.IndexString"], unfollowed := true, recurses := true, named := ["unicode/utf8.first", "unicode/utf8.acceptRanges", "internal/bytealg.MaxLen"], apart := false, laid := [("unicode/utf8.acceptRanges", laid_unicode_utf8_acceptRanges), ("unicode/utf8.first", laid_unicode_utf8_first)], narrowed := true }
def RewriteTurnsUptoSaid : Prop := rewriteTurnsUptoRow.holds Tryd.pinned (OpenSpec.upto rewriteTurnsSpec)

end Rows
end Go.Proofs.YtbeilgkogbcjjaaDoor
