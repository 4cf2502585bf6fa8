/-
  NARROWER THAN 'FOR EVERY INPUT', by the rows' own cells (each row's printed sentence says how): MatchRow: laid · MatchOrder: laid · MatchBegins: laid · MatchMore: laid · MatchPaths: laid.
  DERIVED. THE GIVEN ROWS OF THIS SEAT. 5 by the template 'for every input the law returns true; each argument reads behind the call as it read before'; 0 by the template 'total and deterministic' (their statements: YtjehdldjfnaniaaDoorTotals.lean).
  GIVEN WITH THE SEED: the statements are not yours to turn. If you find one false, say at which input.
  Laid BY PROGRAM, IN A SANDBOX (cutbox-rows.mjs): the forced cells as the released guide's own fill.sh prints them over the translation caa230997d0d9807… (all of the seat's roots in one cut). By AI agents, Wed Nov 11 2026. No macro, syntax, notation, axiom, sorry.
-/
import Derived.Test.YtjehdldjfnaniaaDoorChecked
import GoSem.PinnedTables
import GoSem.Claim
import GoSem.ClaimJoined
import GoSem.ClaimMapViews
import Derived.JoinedTies
import Derived.KernelRfl
namespace Go.Proofs.YtjehdldjfnaniaaDoor
/- THE CELL 'sum', in the pinned program and in every row, IS THE sha256 OF THE DUMP (.gsa) THAT YtjehdldjfnaniaaDoorProg.lean LOADS. Nothing in Lean hashes anything: it is a label: what it is worth is what the hold of that sum in a sandbox is worth. -/
noncomputable def Tryd.pinned : Pinned := { name := "ytjehdldjfnaniaadoor", sum := "caa230997d0d980720590015e20a8e48c6c2eaf0ff9b408e1fd9920b2858c0eb", checked := Tryd.checked }
namespace Rows
def none {H : Type} : Left H := { results := [], args := [] }

/- WHAT THE LISTED PACKAGE-LEVEL VARIABLES READ AS WHEN THE CALL BEGINS. Each datum BY PROGRAM (the guide's laid-datum.mjs) off the statement by which the dump's own 'gosem.cut.vars' lays the variable. In a bare row this is a premise. The card (YtjehdldjfnaniaaDoorCards.lean) ties it to the program's text. -/
def laid_unicode_utf8_acceptRanges {H : Type} : DataW H := .agg [.agg [.lit (.int .u8 128), .lit (.int .u8 191)], .agg [.lit (.int .u8 160), .lit (.int .u8 191)], .agg [.lit (.int .u8 128), .lit (.int .u8 159)], .agg [.lit (.int .u8 144), .lit (.int .u8 191)], .agg [.lit (.int .u8 128), .lit (.int .u8 143)], .agg [.lit (.int .u8 0), .lit (.int .u8 0)], .agg [.lit (.int .u8 0), .lit (.int .u8 0)], .agg [.lit (.int .u8 0), .lit (.int .u8 0)], .agg [.lit (.int .u8 0), .lit (.int .u8 0)], .agg [.lit (.int .u8 0), .lit (.int .u8 0)], .agg [.lit (.int .u8 0), .lit (.int .u8 0)], .agg [.lit (.int .u8 0), .lit (.int .u8 0)], .agg [.lit (.int .u8 0), .lit (.int .u8 0)], .agg [.lit (.int .u8 0), .lit (.int .u8 0)], .agg [.lit (.int .u8 0), .lit (.int .u8 0)], .agg [.lit (.int .u8 0), .lit (.int .u8 0)]]
/-- One of Go's own tables, pinned by name: the form's constant. -/
def laid_unicode_utf8_first : DataW Unit := Go.Pinned.utf8First

/-- 'pursebearerlaw05.MatchRow': WHATEVER THE INPUT: true; the input reads as it did. -/
def matchRowSpec : ChangeSpec := { name := "matchRow", fn := fun _ => fun
  | [d1, d2] => { results := [.lit (.bool true)], args := [d1, d2] }
  | _ => none }
def matchRowRow : OpenClaim := { program := "ytjehdldjfnaniaadoor", sum := "caa230997d0d980720590015e20a8e48c6c2eaf0ff9b408e1fd9920b2858c0eb", func := "pursebearer/pursebearerlaw05.MatchRow", spec := "matchRow", inPlace := ["internal/bytealg.CountString", "internal/bytealg.IndexByteString", "internal/bytealg.IndexString"], unfollowed := true, recurses := true, named := ["internal/bytealg.MaxLen", "unicode/utf8.first", "unicode/utf8.acceptRanges"], apart := false, laid := [("unicode/utf8.acceptRanges", laid_unicode_utf8_acceptRanges), ("unicode/utf8.first", laid_unicode_utf8_first)] }
def MatchRowSaid : Prop := matchRowRow.holds Tryd.pinned (OpenSpec.ofChange matchRowSpec)

/-- ITS FALSE NEIGHBOUR: 'it returns false'. Refute it at one input. -/
def matchRowWrong : ChangeSpec := { name := "matchRow", fn := fun _ => fun
  | [d1, d2] => { results := [.lit (.bool false)], args := [d1, d2] }
  | _ => none }
def MatchRowWrongFalsely : Prop := matchRowRow.holds Tryd.pinned (OpenSpec.ofChange matchRowWrong)

/-- 'pursebearerlaw05.MatchOrder': WHATEVER THE INPUT: true; the input reads as it did. -/
def matchOrderSpec : ChangeSpec := { name := "matchOrder", fn := fun _ => fun
  | [d1, d2, d3] => { results := [.lit (.bool true)], args := [d1, d2, d3] }
  | _ => none }
def matchOrderRow : OpenClaim := { program := "ytjehdldjfnaniaadoor", sum := "caa230997d0d980720590015e20a8e48c6c2eaf0ff9b408e1fd9920b2858c0eb", func := "pursebearer/pursebearerlaw05.MatchOrder", spec := "matchOrder", inPlace := ["internal/bytealg.CountString", "internal/bytealg.IndexByteString", "internal/bytealg.IndexString"], unfollowed := true, recurses := true, named := ["internal/bytealg.MaxLen", "unicode/utf8.first", "unicode/utf8.acceptRanges"], apart := false, laid := [("unicode/utf8.acceptRanges", laid_unicode_utf8_acceptRanges), ("unicode/utf8.first", laid_unicode_utf8_first)] }
def MatchOrderSaid : Prop := matchOrderRow.holds Tryd.pinned (OpenSpec.ofChange matchOrderSpec)

/-- ITS FALSE NEIGHBOUR: 'it returns false'. Refute it at one input. -/
def matchOrderWrong : ChangeSpec := { name := "matchOrder", fn := fun _ => fun
  | [d1, d2, d3] => { results := [.lit (.bool false)], args := [d1, d2, d3] }
  | _ => none }
def MatchOrderWrongFalsely : Prop := matchOrderRow.holds Tryd.pinned (OpenSpec.ofChange matchOrderWrong)

/-- 'pursebearerlaw05.MatchBegins': WHATEVER THE INPUT: true; the input reads as it did. -/
def matchBeginsSpec : ChangeSpec := { name := "matchBegins", fn := fun _ => fun
  | [d1, d2, d3] => { results := [.lit (.bool true)], args := [d1, d2, d3] }
  | _ => none }
def matchBeginsRow : OpenClaim := { program := "ytjehdldjfnaniaadoor", sum := "caa230997d0d980720590015e20a8e48c6c2eaf0ff9b408e1fd9920b2858c0eb", func := "pursebearer/pursebearerlaw05.MatchBegins", spec := "matchBegins", inPlace := ["internal/bytealg.CountString", "internal/bytealg.IndexByteString", "internal/bytealg.IndexString"], unfollowed := true, recurses := true, named := ["unicode/utf8.first", "unicode/utf8.acceptRanges", "internal/bytealg.MaxLen"], apart := false, laid := [("unicode/utf8.acceptRanges", laid_unicode_utf8_acceptRanges), ("unicode/utf8.first", laid_unicode_utf8_first)] }
def MatchBeginsSaid : Prop := matchBeginsRow.holds Tryd.pinned (OpenSpec.ofChange matchBeginsSpec)

/-- ITS FALSE NEIGHBOUR: 'it returns false'. Refute it at one input. -/
def matchBeginsWrong : ChangeSpec := { name := "matchBegins", fn := fun _ => fun
  | [d1, d2, d3] => { results := [.lit (.bool false)], args := [d1, d2, d3] }
  | _ => none }
def MatchBeginsWrongFalsely : Prop := matchBeginsRow.holds Tryd.pinned (OpenSpec.ofChange matchBeginsWrong)

/-- 'pursebearerlaw05.MatchMore': WHATEVER THE INPUT: true; the input reads as it did. -/
def matchMoreSpec : ChangeSpec := { name := "matchMore", fn := fun _ => fun
  | [d1, d2, d3, d4] => { results := [.lit (.bool true)], args := [d1, d2, d3, d4] }
  | _ => none }
def matchMoreRow : OpenClaim := { program := "ytjehdldjfnaniaadoor", sum := "caa230997d0d980720590015e20a8e48c6c2eaf0ff9b408e1fd9920b2858c0eb", func := "pursebearer/pursebearerlaw05.MatchMore", spec := "matchMore", inPlace := ["internal/bytealg.CountString", "internal/bytealg.IndexByteString", "internal/bytealg.IndexString"], unfollowed := true, recurses := true, named := ["unicode/utf8.first", "unicode/utf8.acceptRanges", "internal/bytealg.MaxLen"], apart := false, laid := [("unicode/utf8.acceptRanges", laid_unicode_utf8_acceptRanges), ("unicode/utf8.first", laid_unicode_utf8_first)] }
def MatchMoreSaid : Prop := matchMoreRow.holds Tryd.pinned (OpenSpec.ofChange matchMoreSpec)

/-- ITS FALSE NEIGHBOUR: 'it returns false'. Refute it at one input. -/
def matchMoreWrong : ChangeSpec := { name := "matchMore", fn := fun _ => fun
  | [d1, d2, d3, d4] => { results := [.lit (.bool false)], args := [d1, d2, d3, d4] }
  | _ => none }
def MatchMoreWrongFalsely : Prop := matchMoreRow.holds Tryd.pinned (OpenSpec.ofChange matchMoreWrong)

/-- 'pursebearerlaw05.MatchPaths': WHATEVER THE INPUT: true; the input reads as it did. -/
def matchPathsSpec : ChangeSpec := { name := "matchPaths", fn := fun _ => fun
  | [d1, d2, d3, d4, d5] => { results := [.lit (.bool true)], args := [d1, d2, d3, d4, d5] }
  | _ => none }
def matchPathsRow : OpenClaim := { program := "ytjehdldjfnaniaadoor", sum := "caa230997d0d980720590015e20a8e48c6c2eaf0ff9b408e1fd9920b2858c0eb", func := "pursebearer/pursebearerlaw05.MatchPaths", spec := "matchPaths", inPlace := ["internal/bytealg.CountString", "internal/bytealg.IndexByteString", "internal/bytealg.IndexString"], unfollowed := true, recurses := true, named := ["unicode/utf8.first", "unicode/utf8.acceptRanges", "internal/bytealg.MaxLen"], apart := false, laid := [("unicode/utf8.acceptRanges", laid_unicode_utf8_acceptRanges), ("unicode/utf8.first", laid_unicode_utf8_first)] }
def MatchPathsSaid : Prop := matchPathsRow.holds Tryd.pinned (OpenSpec.ofChange matchPathsSpec)

/-- ITS FALSE NEIGHBOUR: 'it returns false'. Refute it at one input. -/
def matchPathsWrong : ChangeSpec := { name := "matchPaths", fn := fun _ => fun
  | [d1, d2, d3, d4, d5] => { results := [.lit (.bool false)], args := [d1, d2, d3, d4, d5] }
  | _ => none }
def MatchPathsWrongFalsely : Prop := matchPathsRow.holds Tryd.pinned (OpenSpec.ofChange matchPathsWrong)

/- THE SECOND FORM. 'bulk': how many values and letters a reading holds, each counted each time it is reached (what is shared counts as often as it is met; a slice's spare places count too). A statement '..UptoSaid' is the law's where the arguments, and the package variables that the reading takes, are together of bulk at most 1048576: NARROWER than '..Said'. Prove '..Said' where nothing that the law and all that it calls make is longer than what came in: it says more and counts as full. Else prove '..UptoSaid'. A law counts once. -/
mutual
def uptoBulk {H : Type} : DataW H → Nat
  | .lit (.string bytes) => bytes.length + 1
  | .lit _ => 1
  | .nil => 1
  | .ptr d => uptoBulk d + 1
  | .slice elems spare => uptoBulkAll elems + uptoBulkAll spare + 1
  | .agg parts => uptoBulkAll parts + 1
  | .iface _ d => uptoBulk d + 1
  | .map entries => uptoBulkEntries entries + 1
  | .held _ => 1
def uptoBulkAll {H : Type} : List (DataW H) → Nat
  | [] => 0
  | d :: r => uptoBulk d + uptoBulkAll r
def uptoBulkEntries {H : Type} : List (Lit × DataW H) → Nat
  | [] => 0
  | x :: r => uptoBulkEntry x + uptoBulkEntries r
def uptoBulkEntry {H : Type} : Lit × DataW H → Nat
  | (.string bytes, d) => bytes.length + uptoBulk d + 1
  | (_, d) => uptoBulk d + 1
 end
def uptoSmall : (H : Type) → List (DataW H) → Bool := fun _ ds => decide (uptoBulkAll ds ≤ 1048576)
def OpenSpec.upto (s : _root_.Go.ChangeSpec) : _root_.Go.OpenSpec := { _root_.Go.OpenSpec.ofChange s with cond := some uptoSmall }

/-- 'pursebearerlaw05.MatchRow', WHERE WHAT IT READS IS OF BULK AT MOST 1048576: true; the input reads as it did. -/
def matchRowUptoRow : OpenClaim := { program := "ytjehdldjfnaniaadoor", sum := "caa230997d0d980720590015e20a8e48c6c2eaf0ff9b408e1fd9920b2858c0eb", func := "pursebearer/pursebearerlaw05.MatchRow", spec := "matchRow", inPlace := ["internal/bytealg.CountString", "internal/bytealg.IndexByteString", "internal/bytealg.IndexString"], unfollowed := true, recurses := true, named := ["internal/bytealg.MaxLen", "unicode/utf8.first", "unicode/utf8.acceptRanges"], apart := false, laid := [("unicode/utf8.acceptRanges", laid_unicode_utf8_acceptRanges), ("unicode/utf8.first", laid_unicode_utf8_first)], narrowed := true }
def MatchRowUptoSaid : Prop := matchRowUptoRow.holds Tryd.pinned (OpenSpec.upto matchRowSpec)

/-- 'pursebearerlaw05.MatchOrder', WHERE WHAT IT READS IS OF BULK AT MOST 1048576: true; the input reads as it did. -/
def matchOrderUptoRow : OpenClaim := { program := "ytjehdldjfnaniaadoor", sum := "caa230997d0d980720590015e20a8e48c6c2eaf0ff9b408e1fd9920b2858c0eb", func := "pursebearer/pursebearerlaw05.MatchOrder", spec := "matchOrder", inPlace := ["internal/bytealg.CountString", "internal/bytealg.IndexByteString", "internal/bytealg.IndexString"], unfollowed := true, recurses := true, named := ["internal/bytealg.MaxLen", "unicode/utf8.first", "unicode/utf8.acceptRanges"], apart := false, laid := [("unicode/utf8.acceptRanges", laid_unicode_utf8_acceptRanges), ("unicode/utf8.first", laid_unicode_utf8_first)], narrowed := true }
def MatchOrderUptoSaid : Prop := matchOrderUptoRow.holds Tryd.pinned (OpenSpec.upto matchOrderSpec)

/-- 'pursebearerlaw05.MatchBegins', WHERE WHAT IT READS IS OF BULK AT MOST 1048576: true; the input reads as it did. -/
def matchBeginsUptoRow : OpenClaim := { program := "ytjehdldjfnaniaadoor", sum := "caa230997d0d980720590015e20a8e48c6c2eaf0ff9b408e1fd9920b2858c0eb", func := "pursebearer/pursebearerlaw05.MatchBegins", spec := "matchBegins", inPlace := ["internal/bytealg.CountString", "internal/bytealg.IndexByteString", "internal/bytealg.IndexString"], unfollowed := true, recurses := true, named := ["unicode/utf8.first", "unicode/utf8.acceptRanges", "internal/bytealg.MaxLen"], apart := false, laid := [("unicode/utf8.acceptRanges", laid_unicode_utf8_acceptRanges), ("unicode/utf8.first", laid_unicode_utf8_first)], narrowed := true }
def MatchBeginsUptoSaid : Prop := matchBeginsUptoRow.holds Tryd.pinned (OpenSpec.upto matchBeginsSpec)

/-- 'pursebearerlaw05.MatchMore', WHERE WHAT IT READS IS OF BULK AT MOST 1048576: true; the input reads as it did. -/
def matchMoreUptoRow : OpenClaim := { program := "ytjehdldjfnaniaadoor", sum := "caa230997d0d980720590015e20a8e48c6c2eaf0ff9b408e1fd9920b2858c0eb", func := "pursebearer/pursebearerlaw05.MatchMore", spec := "matchMore", inPlace := ["internal/bytealg.CountString", "internal/bytealg.IndexByteString", "internal/bytealg.IndexString"], unfollowed := true, recurses := true, named := ["unicode/utf8.first", "unicode/utf8.acceptRanges", "internal/bytealg.MaxLen"], apart := false, laid := [("unicode/utf8.acceptRanges", laid_unicode_utf8_acceptRanges), ("unicode/utf8.first", laid_unicode_utf8_first)], narrowed := true }
def MatchMoreUptoSaid : Prop := matchMoreUptoRow.holds Tryd.pinned (OpenSpec.upto matchMoreSpec)

/-- 'pursebearerlaw05.MatchPaths', WHERE WHAT IT READS IS OF BULK AT MOST 1048576: true; the input reads as it did. -/
def matchPathsUptoRow : OpenClaim := { program := "ytjehdldjfnaniaadoor", sum := "caa230997d0d980720590015e20a8e48c6c2eaf0ff9b408e1fd9920b2858c0eb", func := "pursebearer/pursebearerlaw05.MatchPaths", spec := "matchPaths", inPlace := ["internal/bytealg.CountString", "internal/bytealg.IndexByteString", "internal/bytealg.IndexString"], unfollowed := true, recurses := true, named := ["unicode/utf8.first", "unicode/utf8.acceptRanges", "internal/bytealg.MaxLen"], apart := false, laid := [("unicode/utf8.acceptRanges", laid_unicode_utf8_acceptRanges), ("unicode/utf8.first", laid_unicode_utf8_first)], narrowed := true }
def MatchPathsUptoSaid : Prop := matchPathsUptoRow.holds Tryd.pinned (OpenSpec.upto matchPathsSpec)

end Rows
end Go.Proofs.YtjehdldjfnaniaaDoor
