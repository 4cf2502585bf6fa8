/-
  NARROWER THAN 'FOR EVERY INPUT', by the rows' own cells (each row's printed sentence says how): HeadsChecks: laid · HeadsEdges: laid · HeadsSets: laid · HeadsRoom: laid · HeadsOwns: laid · HeadsPrints: laid · HeadsOne: laid · HeadsTurns: laid · HeadsDrops: laid.
  DERIVED. THE GIVEN ROWS OF THIS SEAT. 9 by the template 'for every input the law returns true; each argument reads behind the call as it read before'; 0 by the template 'total and deterministic' (their statements: YtgajlpahhfenaaaDoorTotals.lean).
  GIVEN WITH THE SEED: the statements are not yours to turn. If you find one false, say at which input.
  Laid BY PROGRAM, IN A SANDBOX (cutbox-rows.mjs): the forced cells as the released guide's own fill.sh prints them over the translation c2733507633eb351… (all of the seat's roots in one cut). By AI agents, Wed Nov 11 2026. No macro, syntax, notation, axiom, sorry.
-/
import Derived.Test.YtgajlpahhfenaaaDoorChecked
import GoSem.Claim
import GoSem.ClaimJoined
import GoSem.ClaimMapViews
import Derived.JoinedTies
import Derived.KernelRfl
namespace Go.Proofs.YtgajlpahhfenaaaDoor
/- THE CELL 'sum', in the pinned program and in every row, IS THE sha256 OF THE DUMP (.gsa) THAT YtgajlpahhfenaaaDoorProg.lean LOADS. Nothing in Lean hashes anything: it is a label: what it is worth is what the hold of that sum in a sandbox is worth. -/
noncomputable def Tryd.pinned : Pinned := { name := "ytgajlpahhfenaaadoor", sum := "c2733507633eb351bfad34ec7e3c14013b1097bf917fae24453beabde3ddd6e8", checked := Tryd.checked }
namespace Rows
def none {H : Type} : Left H := { results := [], args := [] }

/- WHAT THE LISTED PACKAGE-LEVEL VARIABLES READ AS WHEN THE CALL BEGINS. Each datum BY PROGRAM (the guide's laid-datum.mjs) off the statement by which the dump's own 'gosem.cut.vars' lays the variable. In a bare row this is a premise. The card (YtgajlpahhfenaaaDoorCards.lean) ties it to the program's text. -/
def laid_math_bits_deBruijn32tab {H : Type} : DataW H := .agg [.lit (.int .u8 0), .lit (.int .u8 1), .lit (.int .u8 28), .lit (.int .u8 2), .lit (.int .u8 29), .lit (.int .u8 14), .lit (.int .u8 24), .lit (.int .u8 3), .lit (.int .u8 30), .lit (.int .u8 22), .lit (.int .u8 20), .lit (.int .u8 15), .lit (.int .u8 25), .lit (.int .u8 17), .lit (.int .u8 4), .lit (.int .u8 8), .lit (.int .u8 31), .lit (.int .u8 27), .lit (.int .u8 13), .lit (.int .u8 23), .lit (.int .u8 21), .lit (.int .u8 19), .lit (.int .u8 16), .lit (.int .u8 7), .lit (.int .u8 26), .lit (.int .u8 12), .lit (.int .u8 18), .lit (.int .u8 6), .lit (.int .u8 11), .lit (.int .u8 5), .lit (.int .u8 10), .lit (.int .u8 9)]
def laid_math_bits_deBruijn64tab {H : Type} : DataW H := .agg [.lit (.int .u8 0), .lit (.int .u8 1), .lit (.int .u8 56), .lit (.int .u8 2), .lit (.int .u8 57), .lit (.int .u8 49), .lit (.int .u8 28), .lit (.int .u8 3), .lit (.int .u8 61), .lit (.int .u8 58), .lit (.int .u8 42), .lit (.int .u8 50), .lit (.int .u8 38), .lit (.int .u8 29), .lit (.int .u8 17), .lit (.int .u8 4), .lit (.int .u8 62), .lit (.int .u8 47), .lit (.int .u8 59), .lit (.int .u8 36), .lit (.int .u8 45), .lit (.int .u8 43), .lit (.int .u8 51), .lit (.int .u8 22), .lit (.int .u8 53), .lit (.int .u8 39), .lit (.int .u8 33), .lit (.int .u8 30), .lit (.int .u8 24), .lit (.int .u8 18), .lit (.int .u8 12), .lit (.int .u8 5), .lit (.int .u8 63), .lit (.int .u8 55), .lit (.int .u8 48), .lit (.int .u8 27), .lit (.int .u8 60), .lit (.int .u8 41), .lit (.int .u8 37), .lit (.int .u8 16), .lit (.int .u8 46), .lit (.int .u8 35), .lit (.int .u8 44), .lit (.int .u8 21), .lit (.int .u8 52), .lit (.int .u8 32), .lit (.int .u8 23), .lit (.int .u8 11), .lit (.int .u8 54), .lit (.int .u8 26), .lit (.int .u8 40), .lit (.int .u8 15), .lit (.int .u8 34), .lit (.int .u8 20), .lit (.int .u8 31), .lit (.int .u8 10), .lit (.int .u8 25), .lit (.int .u8 14), .lit (.int .u8 19), .lit (.int .u8 9), .lit (.int .u8 13), .lit (.int .u8 8), .lit (.int .u8 7), .lit (.int .u8 6)]
def laid_internal_strconv_uint64pow10 {H : Type} : DataW H := .agg [.lit (.int .u64 1), .lit (.int .u64 10), .lit (.int .u64 100), .lit (.int .u64 1000), .lit (.int .u64 10000), .lit (.int .u64 100000), .lit (.int .u64 1000000), .lit (.int .u64 10000000), .lit (.int .u64 100000000), .lit (.int .u64 1000000000), .lit (.int .u64 10000000000), .lit (.int .u64 100000000000), .lit (.int .u64 1000000000000), .lit (.int .u64 10000000000000), .lit (.int .u64 100000000000000), .lit (.int .u64 1000000000000000), .lit (.int .u64 10000000000000000), .lit (.int .u64 100000000000000000), .lit (.int .u64 1000000000000000000), .lit (.int .u64 10000000000000000000)]

/-- 'pursebearerlaw04.HeadsChecks': WHATEVER THE INPUT: true; the input reads as it did. -/
def headsChecksSpec : ChangeSpec := { name := "headsChecks", fn := fun _ => fun
  | [d1, d2, d3, d4] => { results := [.lit (.bool true)], args := [d1, d2, d3, d4] }
  | _ => none }
def headsChecksRow : OpenClaim := { program := "ytgajlpahhfenaaadoor", sum := "c2733507633eb351bfad34ec7e3c14013b1097bf917fae24453beabde3ddd6e8", func := "pursebearer/pursebearerlaw04.HeadsChecks", spec := "headsChecks", inPlace := ["internal/abi.NoEscape"], unfollowed := true, recurses := true, named := ["internal/strconv.uint64pow10", "math/bits.deBruijn32tab", "math/bits.deBruijn64tab"], apart := false, laid := [("math/bits.deBruijn32tab", laid_math_bits_deBruijn32tab), ("math/bits.deBruijn64tab", laid_math_bits_deBruijn64tab), ("internal/strconv.uint64pow10", laid_internal_strconv_uint64pow10)] }
def HeadsChecksSaid : Prop := headsChecksRow.holds Tryd.pinned (OpenSpec.ofChange headsChecksSpec)

/-- ITS FALSE NEIGHBOUR: 'it returns false'. Refute it at one input. -/
def headsChecksWrong : ChangeSpec := { name := "headsChecks", fn := fun _ => fun
  | [d1, d2, d3, d4] => { results := [.lit (.bool false)], args := [d1, d2, d3, d4] }
  | _ => none }
def HeadsChecksWrongFalsely : Prop := headsChecksRow.holds Tryd.pinned (OpenSpec.ofChange headsChecksWrong)

/-- 'pursebearerlaw04.HeadsEdges': WHATEVER THE INPUT: true; the input reads as it did. -/
def headsEdgesSpec : ChangeSpec := { name := "headsEdges", fn := fun _ => fun
  | [d1, d2, d3, d4] => { results := [.lit (.bool true)], args := [d1, d2, d3, d4] }
  | _ => none }
def headsEdgesRow : OpenClaim := { program := "ytgajlpahhfenaaadoor", sum := "c2733507633eb351bfad34ec7e3c14013b1097bf917fae24453beabde3ddd6e8", func := "pursebearer/pursebearerlaw04.HeadsEdges", spec := "headsEdges", inPlace := ["internal/abi.NoEscape"], unfollowed := true, recurses := true, named := ["internal/strconv.uint64pow10", "math/bits.deBruijn32tab", "math/bits.deBruijn64tab"], apart := false, laid := [("math/bits.deBruijn32tab", laid_math_bits_deBruijn32tab), ("math/bits.deBruijn64tab", laid_math_bits_deBruijn64tab), ("internal/strconv.uint64pow10", laid_internal_strconv_uint64pow10)] }
def HeadsEdgesSaid : Prop := headsEdgesRow.holds Tryd.pinned (OpenSpec.ofChange headsEdgesSpec)

/-- ITS FALSE NEIGHBOUR: 'it returns false'. Refute it at one input. -/
def headsEdgesWrong : ChangeSpec := { name := "headsEdges", fn := fun _ => fun
  | [d1, d2, d3, d4] => { results := [.lit (.bool false)], args := [d1, d2, d3, d4] }
  | _ => none }
def HeadsEdgesWrongFalsely : Prop := headsEdgesRow.holds Tryd.pinned (OpenSpec.ofChange headsEdgesWrong)

/-- 'pursebearerlaw04.HeadsSets': WHATEVER THE INPUT: true; the input reads as it did. -/
def headsSetsSpec : ChangeSpec := { name := "headsSets", fn := fun _ => fun
  | [d1, d2, d3] => { results := [.lit (.bool true)], args := [d1, d2, d3] }
  | _ => none }
def headsSetsRow : OpenClaim := { program := "ytgajlpahhfenaaadoor", sum := "c2733507633eb351bfad34ec7e3c14013b1097bf917fae24453beabde3ddd6e8", func := "pursebearer/pursebearerlaw04.HeadsSets", spec := "headsSets", inPlace := ["internal/abi.NoEscape"], unfollowed := true, recurses := true, named := ["internal/strconv.uint64pow10", "math/bits.deBruijn32tab", "math/bits.deBruijn64tab"], apart := false, laid := [("math/bits.deBruijn32tab", laid_math_bits_deBruijn32tab), ("math/bits.deBruijn64tab", laid_math_bits_deBruijn64tab), ("internal/strconv.uint64pow10", laid_internal_strconv_uint64pow10)] }
def HeadsSetsSaid : Prop := headsSetsRow.holds Tryd.pinned (OpenSpec.ofChange headsSetsSpec)

/-- ITS FALSE NEIGHBOUR: 'it returns false'. Refute it at one input. -/
def headsSetsWrong : ChangeSpec := { name := "headsSets", fn := fun _ => fun
  | [d1, d2, d3] => { results := [.lit (.bool false)], args := [d1, d2, d3] }
  | _ => none }
def HeadsSetsWrongFalsely : Prop := headsSetsRow.holds Tryd.pinned (OpenSpec.ofChange headsSetsWrong)

/-- 'pursebearerlaw04.HeadsRoom': WHATEVER THE INPUT: true; the input reads as it did. -/
def headsRoomSpec : ChangeSpec := { name := "headsRoom", fn := fun _ => fun
  | [d1, d2] => { results := [.lit (.bool true)], args := [d1, d2] }
  | _ => none }
def headsRoomRow : OpenClaim := { program := "ytgajlpahhfenaaadoor", sum := "c2733507633eb351bfad34ec7e3c14013b1097bf917fae24453beabde3ddd6e8", func := "pursebearer/pursebearerlaw04.HeadsRoom", spec := "headsRoom", inPlace := ["internal/abi.NoEscape"], unfollowed := true, recurses := true, named := ["internal/strconv.uint64pow10", "math/bits.deBruijn32tab", "math/bits.deBruijn64tab"], apart := false, laid := [("math/bits.deBruijn32tab", laid_math_bits_deBruijn32tab), ("math/bits.deBruijn64tab", laid_math_bits_deBruijn64tab), ("internal/strconv.uint64pow10", laid_internal_strconv_uint64pow10)] }
def HeadsRoomSaid : Prop := headsRoomRow.holds Tryd.pinned (OpenSpec.ofChange headsRoomSpec)

/-- ITS FALSE NEIGHBOUR: 'it returns false'. Refute it at one input. -/
def headsRoomWrong : ChangeSpec := { name := "headsRoom", fn := fun _ => fun
  | [d1, d2] => { results := [.lit (.bool false)], args := [d1, d2] }
  | _ => none }
def HeadsRoomWrongFalsely : Prop := headsRoomRow.holds Tryd.pinned (OpenSpec.ofChange headsRoomWrong)

/-- 'pursebearerlaw04.HeadsOwns': WHATEVER THE INPUT: true; the input reads as it did. -/
def headsOwnsSpec : ChangeSpec := { name := "headsOwns", fn := fun _ => fun
  | [d1, d2] => { results := [.lit (.bool true)], args := [d1, d2] }
  | _ => none }
def headsOwnsRow : OpenClaim := { program := "ytgajlpahhfenaaadoor", sum := "c2733507633eb351bfad34ec7e3c14013b1097bf917fae24453beabde3ddd6e8", func := "pursebearer/pursebearerlaw04.HeadsOwns", spec := "headsOwns", inPlace := ["internal/abi.NoEscape"], unfollowed := true, recurses := true, named := ["internal/strconv.uint64pow10", "math/bits.deBruijn32tab", "math/bits.deBruijn64tab"], apart := false, laid := [("math/bits.deBruijn32tab", laid_math_bits_deBruijn32tab), ("math/bits.deBruijn64tab", laid_math_bits_deBruijn64tab), ("internal/strconv.uint64pow10", laid_internal_strconv_uint64pow10)] }
def HeadsOwnsSaid : Prop := headsOwnsRow.holds Tryd.pinned (OpenSpec.ofChange headsOwnsSpec)

/-- ITS FALSE NEIGHBOUR: 'it returns false'. Refute it at one input. -/
def headsOwnsWrong : ChangeSpec := { name := "headsOwns", fn := fun _ => fun
  | [d1, d2] => { results := [.lit (.bool false)], args := [d1, d2] }
  | _ => none }
def HeadsOwnsWrongFalsely : Prop := headsOwnsRow.holds Tryd.pinned (OpenSpec.ofChange headsOwnsWrong)

/-- 'pursebearerlaw04.HeadsPrints': WHATEVER THE INPUT: true; the input reads as it did. -/
def headsPrintsSpec : ChangeSpec := { name := "headsPrints", fn := fun _ => fun
  | [d1, d2] => { results := [.lit (.bool true)], args := [d1, d2] }
  | _ => none }
def headsPrintsRow : OpenClaim := { program := "ytgajlpahhfenaaadoor", sum := "c2733507633eb351bfad34ec7e3c14013b1097bf917fae24453beabde3ddd6e8", func := "pursebearer/pursebearerlaw04.HeadsPrints", spec := "headsPrints", inPlace := ["internal/abi.NoEscape"], unfollowed := true, recurses := true, named := ["internal/strconv.uint64pow10", "math/bits.deBruijn32tab", "math/bits.deBruijn64tab"], apart := false, laid := [("math/bits.deBruijn32tab", laid_math_bits_deBruijn32tab), ("math/bits.deBruijn64tab", laid_math_bits_deBruijn64tab), ("internal/strconv.uint64pow10", laid_internal_strconv_uint64pow10)] }
def HeadsPrintsSaid : Prop := headsPrintsRow.holds Tryd.pinned (OpenSpec.ofChange headsPrintsSpec)

/-- ITS FALSE NEIGHBOUR: 'it returns false'. Refute it at one input. -/
def headsPrintsWrong : ChangeSpec := { name := "headsPrints", fn := fun _ => fun
  | [d1, d2] => { results := [.lit (.bool false)], args := [d1, d2] }
  | _ => none }
def HeadsPrintsWrongFalsely : Prop := headsPrintsRow.holds Tryd.pinned (OpenSpec.ofChange headsPrintsWrong)

/-- 'pursebearerlaw04.HeadsOne': WHATEVER THE INPUT: true; the input reads as it did. -/
def headsOneSpec : ChangeSpec := { name := "headsOne", fn := fun _ => fun
  | [d1, d2, d3] => { results := [.lit (.bool true)], args := [d1, d2, d3] }
  | _ => none }
def headsOneRow : OpenClaim := { program := "ytgajlpahhfenaaadoor", sum := "c2733507633eb351bfad34ec7e3c14013b1097bf917fae24453beabde3ddd6e8", func := "pursebearer/pursebearerlaw04.HeadsOne", spec := "headsOne", inPlace := ["internal/abi.NoEscape"], unfollowed := true, recurses := true, named := ["internal/strconv.uint64pow10", "math/bits.deBruijn32tab", "math/bits.deBruijn64tab"], apart := false, laid := [("math/bits.deBruijn32tab", laid_math_bits_deBruijn32tab), ("math/bits.deBruijn64tab", laid_math_bits_deBruijn64tab), ("internal/strconv.uint64pow10", laid_internal_strconv_uint64pow10)] }
def HeadsOneSaid : Prop := headsOneRow.holds Tryd.pinned (OpenSpec.ofChange headsOneSpec)

/-- ITS FALSE NEIGHBOUR: 'it returns false'. Refute it at one input. -/
def headsOneWrong : ChangeSpec := { name := "headsOne", fn := fun _ => fun
  | [d1, d2, d3] => { results := [.lit (.bool false)], args := [d1, d2, d3] }
  | _ => none }
def HeadsOneWrongFalsely : Prop := headsOneRow.holds Tryd.pinned (OpenSpec.ofChange headsOneWrong)

/-- 'pursebearerlaw04.HeadsTurns': WHATEVER THE INPUT: true; the input reads as it did. -/
def headsTurnsSpec : ChangeSpec := { name := "headsTurns", fn := fun _ => fun
  | [d1, d2, d3, d4] => { results := [.lit (.bool true)], args := [d1, d2, d3, d4] }
  | _ => none }
def headsTurnsRow : OpenClaim := { program := "ytgajlpahhfenaaadoor", sum := "c2733507633eb351bfad34ec7e3c14013b1097bf917fae24453beabde3ddd6e8", func := "pursebearer/pursebearerlaw04.HeadsTurns", spec := "headsTurns", inPlace := ["internal/abi.NoEscape"], unfollowed := true, recurses := true, named := ["internal/strconv.uint64pow10", "math/bits.deBruijn32tab", "math/bits.deBruijn64tab"], apart := false, laid := [("math/bits.deBruijn32tab", laid_math_bits_deBruijn32tab), ("math/bits.deBruijn64tab", laid_math_bits_deBruijn64tab), ("internal/strconv.uint64pow10", laid_internal_strconv_uint64pow10)] }
def HeadsTurnsSaid : Prop := headsTurnsRow.holds Tryd.pinned (OpenSpec.ofChange headsTurnsSpec)

/-- ITS FALSE NEIGHBOUR: 'it returns false'. Refute it at one input. -/
def headsTurnsWrong : ChangeSpec := { name := "headsTurns", fn := fun _ => fun
  | [d1, d2, d3, d4] => { results := [.lit (.bool false)], args := [d1, d2, d3, d4] }
  | _ => none }
def HeadsTurnsWrongFalsely : Prop := headsTurnsRow.holds Tryd.pinned (OpenSpec.ofChange headsTurnsWrong)

/-- 'pursebearerlaw04.HeadsDrops': WHATEVER THE INPUT: true; the input reads as it did. -/
def headsDropsSpec : ChangeSpec := { name := "headsDrops", fn := fun _ => fun
  | [d1, d2, d3] => { results := [.lit (.bool true)], args := [d1, d2, d3] }
  | _ => none }
def headsDropsRow : OpenClaim := { program := "ytgajlpahhfenaaadoor", sum := "c2733507633eb351bfad34ec7e3c14013b1097bf917fae24453beabde3ddd6e8", func := "pursebearer/pursebearerlaw04.HeadsDrops", spec := "headsDrops", inPlace := ["internal/abi.NoEscape"], unfollowed := true, recurses := true, named := ["internal/strconv.uint64pow10", "math/bits.deBruijn32tab", "math/bits.deBruijn64tab"], apart := false, laid := [("math/bits.deBruijn32tab", laid_math_bits_deBruijn32tab), ("math/bits.deBruijn64tab", laid_math_bits_deBruijn64tab), ("internal/strconv.uint64pow10", laid_internal_strconv_uint64pow10)] }
def HeadsDropsSaid : Prop := headsDropsRow.holds Tryd.pinned (OpenSpec.ofChange headsDropsSpec)

/-- ITS FALSE NEIGHBOUR: 'it returns false'. Refute it at one input. -/
def headsDropsWrong : ChangeSpec := { name := "headsDrops", fn := fun _ => fun
  | [d1, d2, d3] => { results := [.lit (.bool false)], args := [d1, d2, d3] }
  | _ => none }
def HeadsDropsWrongFalsely : Prop := headsDropsRow.holds Tryd.pinned (OpenSpec.ofChange headsDropsWrong)

/- THE SECOND FORM. 'bulk': how many values and letters a reading holds, each counted each time it is reached (what is shared counts as often as it is met; a slice's spare places count too). A statement '..UptoSaid' is the law's where the arguments, and the package variables that the reading takes, are together of bulk at most 1048576: NARROWER than '..Said'. Prove '..Said' where nothing that the law and all that it calls make is longer than what came in: it says more and counts as full. Else prove '..UptoSaid'. A law counts once. -/
mutual
def uptoBulk {H : Type} : DataW H → Nat
  | .lit (.string bytes) => bytes.length + 1
  | .lit _ => 1
  | .nil => 1
  | .ptr d => uptoBulk d + 1
  | .slice elems spare => uptoBulkAll elems + uptoBulkAll spare + 1
  | .agg parts => uptoBulkAll parts + 1
  | .iface _ d => uptoBulk d + 1
  | .map entries => uptoBulkEntries entries + 1
  | .held _ => 1
def uptoBulkAll {H : Type} : List (DataW H) → Nat
  | [] => 0
  | d :: r => uptoBulk d + uptoBulkAll r
def uptoBulkEntries {H : Type} : List (Lit × DataW H) → Nat
  | [] => 0
  | x :: r => uptoBulkEntry x + uptoBulkEntries r
def uptoBulkEntry {H : Type} : Lit × DataW H → Nat
  | (.string bytes, d) => bytes.length + uptoBulk d + 1
  | (_, d) => uptoBulk d + 1
 end
def uptoSmall : (H : Type) → List (DataW H) → Bool := fun _ ds => decide (uptoBulkAll ds ≤ 1048576)
def OpenSpec.upto (s : _root_.Go.ChangeSpec) : _root_.Go.OpenSpec := { _root_.Go.OpenSpec.ofChange s with cond := some uptoSmall }

/-- 'pursebearerlaw04.HeadsChecks', WHERE WHAT IT READS IS OF BULK AT MOST 1048576: true; the input reads as it did. -/
def headsChecksUptoRow : OpenClaim := { program := "ytgajlpahhfenaaadoor", sum := "c2733507633eb351bfad34ec7e3c14013b1097bf917fae24453beabde3ddd6e8", func := "pursebearer/pursebearerlaw04.HeadsChecks", spec := "headsChecks", inPlace := ["internal/abi.NoEscape"], unfollowed := true, recurses := true, named := ["internal/strconv.uint64pow10", "math/bits.deBruijn32tab", "math/bits.deBruijn64tab"], apart := false, laid := [("math/bits.deBruijn32tab", laid_math_bits_deBruijn32tab), ("math/bits.deBruijn64tab", laid_math_bits_deBruijn64tab), ("internal/strconv.uint64pow10", laid_internal_strconv_uint64pow10)], narrowed := true }
def HeadsChecksUptoSaid : Prop := headsChecksUptoRow.holds Tryd.pinned (OpenSpec.upto headsChecksSpec)

/-- 'pursebearerlaw04.HeadsEdges', WHERE WHAT IT READS IS OF BULK AT MOST 1048576: true; the input reads as it did. -/
def headsEdgesUptoRow : OpenClaim := { program := "ytgajlpahhfenaaadoor", sum := "c2733507633eb351bfad34ec7e3c14013b1097bf917fae24453beabde3ddd6e8", func := "pursebearer/pursebearerlaw04.HeadsEdges", spec := "headsEdges", inPlace := ["internal/abi.NoEscape"], unfollowed := true, recurses := true, named := ["internal/strconv.uint64pow10", "math/bits.deBruijn32tab", "math/bits.deBruijn64tab"], apart := false, laid := [("math/bits.deBruijn32tab", laid_math_bits_deBruijn32tab), ("math/bits.deBruijn64tab", laid_math_bits_deBruijn64tab), ("internal/strconv.uint64pow10", laid_internal_strconv_uint64pow10)], narrowed := true }
def HeadsEdgesUptoSaid : Prop := headsEdgesUptoRow.holds Tryd.pinned (OpenSpec.upto headsEdgesSpec)

/-- 'pursebearerlaw04.HeadsSets', WHERE WHAT IT READS IS OF BULK AT MOST 1048576: true; the input reads as it did. -/
def headsSetsUptoRow : OpenClaim := { program := "ytgajlpahhfenaaadoor", sum := "c2733507633eb351bfad34ec7e3c14013b1097bf917fae24453beabde3ddd6e8", func := "pursebearer/pursebearerlaw04.HeadsSets", spec := "headsSets", inPlace := ["internal/abi.NoEscape"], unfollowed := true, recurses := true, named := ["internal/strconv.uint64pow10", "math/bits.deBruijn32tab", "math/bits.deBruijn64tab"], apart := false, laid := [("math/bits.deBruijn32tab", laid_math_bits_deBruijn32tab), ("math/bits.deBruijn64tab", laid_math_bits_deBruijn64tab), ("internal/strconv.uint64pow10", laid_internal_strconv_uint64pow10)], narrowed := true }
def HeadsSetsUptoSaid : Prop := headsSetsUptoRow.holds Tryd.pinned (OpenSpec.upto headsSetsSpec)

/-- 'pursebearerlaw04.HeadsRoom', WHERE WHAT IT READS IS OF BULK AT MOST 1048576: true; the input reads as it did. -/
def headsRoomUptoRow : OpenClaim := { program := "ytgajlpahhfenaaadoor", sum := "c2733507633eb351bfad34ec7e3c14013b1097bf917fae24453beabde3ddd6e8", func := "pursebearer/pursebearerlaw04.HeadsRoom", spec := "headsRoom", inPlace := ["internal/abi.NoEscape"], unfollowed := true, recurses := true, named := ["internal/strconv.uint64pow10", "math/bits.deBruijn32tab", "math/bits.deBruijn64tab"], apart := false, laid := [("math/bits.deBruijn32tab", laid_math_bits_deBruijn32tab), ("math/bits.deBruijn64tab", laid_math_bits_deBruijn64tab), ("internal/strconv.uint64pow10", laid_internal_strconv_uint64pow10)], narrowed := true }
def HeadsRoomUptoSaid : Prop := headsRoomUptoRow.holds Tryd.pinned (OpenSpec.upto headsRoomSpec)

/-- 'pursebearerlaw04.HeadsOwns', WHERE WHAT IT READS IS OF BULK AT MOST 1048576: true; the input reads as it did. -/
def headsOwnsUptoRow : OpenClaim := { program := "ytgajlpahhfenaaadoor", sum := "c2733507633eb351bfad34ec7e3c14013b1097bf917fae24453beabde3ddd6e8", func := "pursebearer/pursebearerlaw04.HeadsOwns", spec := "headsOwns", inPlace := ["internal/abi.NoEscape"], unfollowed := true, recurses := true, named := ["internal/strconv.uint64pow10", "math/bits.deBruijn32tab", "math/bits.deBruijn64tab"], apart := false, laid := [("math/bits.deBruijn32tab", laid_math_bits_deBruijn32tab), ("math/bits.deBruijn64tab", laid_math_bits_deBruijn64tab), ("internal/strconv.uint64pow10", laid_internal_strconv_uint64pow10)], narrowed := true }
def HeadsOwnsUptoSaid : Prop := headsOwnsUptoRow.holds Tryd.pinned (OpenSpec.upto headsOwnsSpec)

/-- 'pursebearerlaw04.HeadsPrints', WHERE WHAT IT READS IS OF BULK AT MOST 1048576: true; the input reads as it did. -/
def headsPrintsUptoRow : OpenClaim := { program := "ytgajlpahhfenaaadoor", sum := "c2733507633eb351bfad34ec7e3c14013b1097bf917fae24453beabde3ddd6e8", func := "pursebearer/pursebearerlaw04.HeadsPrints", spec := "headsPrints", inPlace := ["internal/abi.NoEscape"], unfollowed := true, recurses := true, named := ["internal/strconv.uint64pow10", "math/bits.deBruijn32tab", "math/bits.deBruijn64tab"], apart := false, laid := [("math/bits.deBruijn32tab", laid_math_bits_deBruijn32tab), ("math/bits.deBruijn64tab", laid_math_bits_deBruijn64tab), ("internal/strconv.uint64pow10", laid_internal_strconv_uint64pow10)], narrowed := true }
def HeadsPrintsUptoSaid : Prop := headsPrintsUptoRow.holds Tryd.pinned (OpenSpec.upto headsPrintsSpec)

/-- 'pursebearerlaw04.HeadsOne', WHERE WHAT IT READS IS OF BULK AT MOST 1048576: true; the input reads as it did. -/
def headsOneUptoRow : OpenClaim := { program := "ytgajlpahhfenaaadoor", sum := "c2733507633eb351bfad34ec7e3c14013b1097bf917fae24453beabde3ddd6e8", func := "pursebearer/pursebearerlaw04.HeadsOne", spec := "headsOne", inPlace := ["internal/abi.NoEscape"], unfollowed := true, recurses := true, named := ["internal/strconv.uint64pow10", "math/bits.deBruijn32tab", "math/bits.deBruijn64tab"], apart := false, laid := [("math/bits.deBruijn32tab", laid_math_bits_deBruijn32tab), ("math/bits.deBruijn64tab", laid_math_bits_deBruijn64tab), ("internal/strconv.uint64pow10", laid_internal_strconv_uint64pow10)], narrowed := true }
def HeadsOneUptoSaid : Prop := headsOneUptoRow.holds Tryd.pinned (OpenSpec.upto headsOneSpec)

/-- 'pursebearerlaw04.HeadsTurns', WHERE WHAT IT READS IS OF BULK AT MOST 1048576: true; the input reads as it did. -/
def headsTurnsUptoRow : OpenClaim := { program := "ytgajlpahhfenaaadoor", sum := "c2733507633eb351bfad34ec7e3c14013b1097bf917fae24453beabde3ddd6e8", func := "pursebearer/pursebearerlaw04.HeadsTurns", spec := "headsTurns", inPlace := ["internal/abi.NoEscape"], unfollowed := true, recurses := true, named := ["internal/strconv.uint64pow10", "math/bits.deBruijn32tab", "math/bits.deBruijn64tab"], apart := false, laid := [("math/bits.deBruijn32tab", laid_math_bits_deBruijn32tab), ("math/bits.deBruijn64tab", laid_math_bits_deBruijn64tab), ("internal/strconv.uint64pow10", laid_internal_strconv_uint64pow10)], narrowed := true }
def HeadsTurnsUptoSaid : Prop := headsTurnsUptoRow.holds Tryd.pinned (OpenSpec.upto headsTurnsSpec)

/-- 'pursebearerlaw04.HeadsDrops', WHERE WHAT IT READS IS OF BULK AT MOST 1048576: true; the input reads as it did. -/
def headsDropsUptoRow : OpenClaim := { program := "ytgajlpahhfenaaadoor", sum := "c2733507633eb351bfad34ec7e3c14013b1097bf917fae24453beabde3ddd6e8", func := "pursebearer/pursebearerlaw04.HeadsDrops", spec := "headsDrops", inPlace := ["internal/abi.NoEscape"], unfollowed := true, recurses := true, named := ["internal/strconv.uint64pow10", "math/bits.deBruijn32tab", "math/bits.deBruijn64tab"], apart := false, laid := [("math/bits.deBruijn32tab", laid_math_bits_deBruijn32tab), ("math/bits.deBruijn64tab", laid_math_bits_deBruijn64tab), ("internal/strconv.uint64pow10", laid_internal_strconv_uint64pow10)], narrowed := true }
def HeadsDropsUptoSaid : Prop := headsDropsUptoRow.holds Tryd.pinned (OpenSpec.upto headsDropsSpec)

end Rows
end Go.Proofs.YtgajlpahhfenaaaDoor
