/-
  NARROWER THAN 'FOR EVERY INPUT', by the rows' own cells (each row's printed sentence says how): SampleHeads: laid · SamplePlays: laid · SampleOnce: laid · SampleMore: laid · SampleShare: laid · SampleFails: laid · SampleRequests: laid.
  DERIVED. THE GIVEN ROWS OF THIS SEAT. 7 by the template 'for every input the law returns true; each argument reads behind the call as it read before'; 0 by the template 'total and deterministic' (their statements: YtdamhohoeobfgaaDoorTotals.lean).
  GIVEN WITH THE SEED: the statements are not yours to turn. If you find one false, say at which input.
  Laid BY PROGRAM, IN A SANDBOX (cutbox-rows.mjs): the forced cells as the released guide's own fill.sh prints them over the translation 117c908483d73f78… (all of the seat's roots in one cut). By AI agents, Wed Nov 11 2026. No macro, syntax, notation, axiom, sorry.
-/
import Derived.Test.YtdamhohoeobfgaaDoorChecked
import GoSem.Claim
import GoSem.ClaimJoined
import GoSem.ClaimMapViews
import Derived.JoinedTies
import Derived.KernelRfl
namespace Go.Proofs.YtdamhohoeobfgaaDoor
/- THE CELL 'sum', in the pinned program and in every row, IS THE sha256 OF THE DUMP (.gsa) THAT YtdamhohoeobfgaaDoorProg.lean LOADS. Nothing in Lean hashes anything: it is a label: what it is worth is what the hold of that sum in a sandbox is worth. -/
noncomputable def Tryd.pinned : Pinned := { name := "ytdamhohoeobfgaadoor", sum := "117c908483d73f7887c5256c40feda5d4b025664b866aa06c9b7836ebc0b97a5", checked := Tryd.checked }
namespace Rows
def none {H : Type} : Left H := { results := [], args := [] }

/- WHAT THE LISTED PACKAGE-LEVEL VARIABLES READ AS WHEN THE CALL BEGINS. Each datum BY PROGRAM (the guide's laid-datum.mjs) off the statement by which the dump's own 'gosem.cut.vars' lays the variable. In a bare row this is a premise. The card (YtdamhohoeobfgaaDoorCards.lean) ties it to the program's text. -/
def laid_math_bits_deBruijn32tab {H : Type} : DataW H := .agg [.lit (.int .u8 0), .lit (.int .u8 1), .lit (.int .u8 28), .lit (.int .u8 2), .lit (.int .u8 29), .lit (.int .u8 14), .lit (.int .u8 24), .lit (.int .u8 3), .lit (.int .u8 30), .lit (.int .u8 22), .lit (.int .u8 20), .lit (.int .u8 15), .lit (.int .u8 25), .lit (.int .u8 17), .lit (.int .u8 4), .lit (.int .u8 8), .lit (.int .u8 31), .lit (.int .u8 27), .lit (.int .u8 13), .lit (.int .u8 23), .lit (.int .u8 21), .lit (.int .u8 19), .lit (.int .u8 16), .lit (.int .u8 7), .lit (.int .u8 26), .lit (.int .u8 12), .lit (.int .u8 18), .lit (.int .u8 6), .lit (.int .u8 11), .lit (.int .u8 5), .lit (.int .u8 10), .lit (.int .u8 9)]
def laid_math_bits_deBruijn64tab {H : Type} : DataW H := .agg [.lit (.int .u8 0), .lit (.int .u8 1), .lit (.int .u8 56), .lit (.int .u8 2), .lit (.int .u8 57), .lit (.int .u8 49), .lit (.int .u8 28), .lit (.int .u8 3), .lit (.int .u8 61), .lit (.int .u8 58), .lit (.int .u8 42), .lit (.int .u8 50), .lit (.int .u8 38), .lit (.int .u8 29), .lit (.int .u8 17), .lit (.int .u8 4), .lit (.int .u8 62), .lit (.int .u8 47), .lit (.int .u8 59), .lit (.int .u8 36), .lit (.int .u8 45), .lit (.int .u8 43), .lit (.int .u8 51), .lit (.int .u8 22), .lit (.int .u8 53), .lit (.int .u8 39), .lit (.int .u8 33), .lit (.int .u8 30), .lit (.int .u8 24), .lit (.int .u8 18), .lit (.int .u8 12), .lit (.int .u8 5), .lit (.int .u8 63), .lit (.int .u8 55), .lit (.int .u8 48), .lit (.int .u8 27), .lit (.int .u8 60), .lit (.int .u8 41), .lit (.int .u8 37), .lit (.int .u8 16), .lit (.int .u8 46), .lit (.int .u8 35), .lit (.int .u8 44), .lit (.int .u8 21), .lit (.int .u8 52), .lit (.int .u8 32), .lit (.int .u8 23), .lit (.int .u8 11), .lit (.int .u8 54), .lit (.int .u8 26), .lit (.int .u8 40), .lit (.int .u8 15), .lit (.int .u8 34), .lit (.int .u8 20), .lit (.int .u8 31), .lit (.int .u8 10), .lit (.int .u8 25), .lit (.int .u8 14), .lit (.int .u8 19), .lit (.int .u8 9), .lit (.int .u8 13), .lit (.int .u8 8), .lit (.int .u8 7), .lit (.int .u8 6)]
def laid_internal_strconv_uint64pow10 {H : Type} : DataW H := .agg [.lit (.int .u64 1), .lit (.int .u64 10), .lit (.int .u64 100), .lit (.int .u64 1000), .lit (.int .u64 10000), .lit (.int .u64 100000), .lit (.int .u64 1000000), .lit (.int .u64 10000000), .lit (.int .u64 100000000), .lit (.int .u64 1000000000), .lit (.int .u64 10000000000), .lit (.int .u64 100000000000), .lit (.int .u64 1000000000000), .lit (.int .u64 10000000000000), .lit (.int .u64 100000000000000), .lit (.int .u64 1000000000000000), .lit (.int .u64 10000000000000000), .lit (.int .u64 100000000000000000), .lit (.int .u64 1000000000000000000), .lit (.int .u64 10000000000000000000)]

/-- 'pursebearerlaw29.SampleHeads': WHATEVER THE INPUT: true; the input reads as it did. -/
def sampleHeadsSpec : ChangeSpec := { name := "sampleHeads", fn := fun _ => fun
  | [d1, d2] => { results := [.lit (.bool true)], args := [d1, d2] }
  | _ => none }
def sampleHeadsRow : OpenClaim := { program := "ytdamhohoeobfgaadoor", sum := "117c908483d73f7887c5256c40feda5d4b025664b866aa06c9b7836ebc0b97a5", func := "pursebearer/pursebearerlaw29.SampleHeads", spec := "sampleHeads", unfollowed := true, recurses := true, named := ["internal/strconv.uint64pow10", "math/bits.deBruijn32tab", "math/bits.deBruijn64tab"], apart := false, laid := [("math/bits.deBruijn32tab", laid_math_bits_deBruijn32tab), ("math/bits.deBruijn64tab", laid_math_bits_deBruijn64tab), ("internal/strconv.uint64pow10", laid_internal_strconv_uint64pow10)] }
def SampleHeadsSaid : Prop := sampleHeadsRow.holds Tryd.pinned (OpenSpec.ofChange sampleHeadsSpec)

/-- ITS FALSE NEIGHBOUR: 'it returns false'. Refute it at one input. -/
def sampleHeadsWrong : ChangeSpec := { name := "sampleHeads", fn := fun _ => fun
  | [d1, d2] => { results := [.lit (.bool false)], args := [d1, d2] }
  | _ => none }
def SampleHeadsWrongFalsely : Prop := sampleHeadsRow.holds Tryd.pinned (OpenSpec.ofChange sampleHeadsWrong)

/-- 'pursebearerlaw29.SamplePlays': WHATEVER THE INPUT: true; the input reads as it did. -/
def samplePlaysSpec : ChangeSpec := { name := "samplePlays", fn := fun _ => fun
  | [d1, d2, d3, d4] => { results := [.lit (.bool true)], args := [d1, d2, d3, d4] }
  | _ => none }
def samplePlaysRow : OpenClaim := { program := "ytdamhohoeobfgaadoor", sum := "117c908483d73f7887c5256c40feda5d4b025664b866aa06c9b7836ebc0b97a5", func := "pursebearer/pursebearerlaw29.SamplePlays", spec := "samplePlays", unfollowed := true, recurses := true, named := ["internal/strconv.uint64pow10", "math/bits.deBruijn32tab", "math/bits.deBruijn64tab"], apart := false, laid := [("math/bits.deBruijn32tab", laid_math_bits_deBruijn32tab), ("math/bits.deBruijn64tab", laid_math_bits_deBruijn64tab), ("internal/strconv.uint64pow10", laid_internal_strconv_uint64pow10)] }
def SamplePlaysSaid : Prop := samplePlaysRow.holds Tryd.pinned (OpenSpec.ofChange samplePlaysSpec)

/-- ITS FALSE NEIGHBOUR: 'it returns false'. Refute it at one input. -/
def samplePlaysWrong : ChangeSpec := { name := "samplePlays", fn := fun _ => fun
  | [d1, d2, d3, d4] => { results := [.lit (.bool false)], args := [d1, d2, d3, d4] }
  | _ => none }
def SamplePlaysWrongFalsely : Prop := samplePlaysRow.holds Tryd.pinned (OpenSpec.ofChange samplePlaysWrong)

/-- 'pursebearerlaw29.SampleOnce': WHATEVER THE INPUT: true; the input reads as it did. -/
def sampleOnceSpec : ChangeSpec := { name := "sampleOnce", fn := fun _ => fun
  | [d1, d2, d3, d4] => { results := [.lit (.bool true)], args := [d1, d2, d3, d4] }
  | _ => none }
def sampleOnceRow : OpenClaim := { program := "ytdamhohoeobfgaadoor", sum := "117c908483d73f7887c5256c40feda5d4b025664b866aa06c9b7836ebc0b97a5", func := "pursebearer/pursebearerlaw29.SampleOnce", spec := "sampleOnce", unfollowed := true, recurses := true, named := ["internal/strconv.uint64pow10", "math/bits.deBruijn32tab", "math/bits.deBruijn64tab"], apart := false, laid := [("math/bits.deBruijn32tab", laid_math_bits_deBruijn32tab), ("math/bits.deBruijn64tab", laid_math_bits_deBruijn64tab), ("internal/strconv.uint64pow10", laid_internal_strconv_uint64pow10)] }
def SampleOnceSaid : Prop := sampleOnceRow.holds Tryd.pinned (OpenSpec.ofChange sampleOnceSpec)

/-- ITS FALSE NEIGHBOUR: 'it returns false'. Refute it at one input. -/
def sampleOnceWrong : ChangeSpec := { name := "sampleOnce", fn := fun _ => fun
  | [d1, d2, d3, d4] => { results := [.lit (.bool false)], args := [d1, d2, d3, d4] }
  | _ => none }
def SampleOnceWrongFalsely : Prop := sampleOnceRow.holds Tryd.pinned (OpenSpec.ofChange sampleOnceWrong)

/-- 'pursebearerlaw29.SampleMore': WHATEVER THE INPUT: true; the input reads as it did. -/
def sampleMoreSpec : ChangeSpec := { name := "sampleMore", fn := fun _ => fun
  | [d1, d2, d3] => { results := [.lit (.bool true)], args := [d1, d2, d3] }
  | _ => none }
def sampleMoreRow : OpenClaim := { program := "ytdamhohoeobfgaadoor", sum := "117c908483d73f7887c5256c40feda5d4b025664b866aa06c9b7836ebc0b97a5", func := "pursebearer/pursebearerlaw29.SampleMore", spec := "sampleMore", unfollowed := true, recurses := true, named := ["internal/strconv.uint64pow10", "math/bits.deBruijn32tab", "math/bits.deBruijn64tab"], apart := false, laid := [("math/bits.deBruijn32tab", laid_math_bits_deBruijn32tab), ("math/bits.deBruijn64tab", laid_math_bits_deBruijn64tab), ("internal/strconv.uint64pow10", laid_internal_strconv_uint64pow10)] }
def SampleMoreSaid : Prop := sampleMoreRow.holds Tryd.pinned (OpenSpec.ofChange sampleMoreSpec)

/-- ITS FALSE NEIGHBOUR: 'it returns false'. Refute it at one input. -/
def sampleMoreWrong : ChangeSpec := { name := "sampleMore", fn := fun _ => fun
  | [d1, d2, d3] => { results := [.lit (.bool false)], args := [d1, d2, d3] }
  | _ => none }
def SampleMoreWrongFalsely : Prop := sampleMoreRow.holds Tryd.pinned (OpenSpec.ofChange sampleMoreWrong)

/-- 'pursebearerlaw29.SampleShare': WHATEVER THE INPUT: true; the input reads as it did. -/
def sampleShareSpec : ChangeSpec := { name := "sampleShare", fn := fun _ => fun
  | [d] => { results := [.lit (.bool true)], args := [d] }
  | _ => none }
def sampleShareRow : OpenClaim := { program := "ytdamhohoeobfgaadoor", sum := "117c908483d73f7887c5256c40feda5d4b025664b866aa06c9b7836ebc0b97a5", func := "pursebearer/pursebearerlaw29.SampleShare", spec := "sampleShare", unfollowed := true, recurses := true, named := ["internal/strconv.uint64pow10", "math/bits.deBruijn32tab", "math/bits.deBruijn64tab"], apart := false, laid := [("math/bits.deBruijn32tab", laid_math_bits_deBruijn32tab), ("math/bits.deBruijn64tab", laid_math_bits_deBruijn64tab), ("internal/strconv.uint64pow10", laid_internal_strconv_uint64pow10)] }
def SampleShareSaid : Prop := sampleShareRow.holds Tryd.pinned (OpenSpec.ofChange sampleShareSpec)

/-- ITS FALSE NEIGHBOUR: 'it returns false'. Refute it at one input. -/
def sampleShareWrong : ChangeSpec := { name := "sampleShare", fn := fun _ => fun
  | [d] => { results := [.lit (.bool false)], args := [d] }
  | _ => none }
def SampleShareWrongFalsely : Prop := sampleShareRow.holds Tryd.pinned (OpenSpec.ofChange sampleShareWrong)

/-- 'pursebearerlaw29.SampleFails': WHATEVER THE INPUT: true; the input reads as it did. -/
def sampleFailsSpec : ChangeSpec := { name := "sampleFails", fn := fun _ => fun
  | [d1, d2, d3, d4, d5] => { results := [.lit (.bool true)], args := [d1, d2, d3, d4, d5] }
  | _ => none }
def sampleFailsRow : OpenClaim := { program := "ytdamhohoeobfgaadoor", sum := "117c908483d73f7887c5256c40feda5d4b025664b866aa06c9b7836ebc0b97a5", func := "pursebearer/pursebearerlaw29.SampleFails", spec := "sampleFails", unfollowed := true, recurses := true, named := ["internal/strconv.uint64pow10", "math/bits.deBruijn32tab", "math/bits.deBruijn64tab"], apart := false, laid := [("math/bits.deBruijn32tab", laid_math_bits_deBruijn32tab), ("math/bits.deBruijn64tab", laid_math_bits_deBruijn64tab), ("internal/strconv.uint64pow10", laid_internal_strconv_uint64pow10)] }
def SampleFailsSaid : Prop := sampleFailsRow.holds Tryd.pinned (OpenSpec.ofChange sampleFailsSpec)

/-- ITS FALSE NEIGHBOUR: 'it returns false'. Refute it at one input. -/
def sampleFailsWrong : ChangeSpec := { name := "sampleFails", fn := fun _ => fun
  | [d1, d2, d3, d4, d5] => { results := [.lit (.bool false)], args := [d1, d2, d3, d4, d5] }
  | _ => none }
def SampleFailsWrongFalsely : Prop := sampleFailsRow.holds Tryd.pinned (OpenSpec.ofChange sampleFailsWrong)

/-- 'pursebearerlaw29.SampleRequests': WHATEVER THE INPUT: true; the input reads as it did. -/
def sampleRequestsSpec : ChangeSpec := { name := "sampleRequests", fn := fun _ => fun
  | [d1, d2] => { results := [.lit (.bool true)], args := [d1, d2] }
  | _ => none }
def sampleRequestsRow : OpenClaim := { program := "ytdamhohoeobfgaadoor", sum := "117c908483d73f7887c5256c40feda5d4b025664b866aa06c9b7836ebc0b97a5", func := "pursebearer/pursebearerlaw29.SampleRequests", spec := "sampleRequests", unfollowed := true, recurses := true, named := ["internal/strconv.uint64pow10", "math/bits.deBruijn32tab", "math/bits.deBruijn64tab"], apart := false, laid := [("math/bits.deBruijn32tab", laid_math_bits_deBruijn32tab), ("math/bits.deBruijn64tab", laid_math_bits_deBruijn64tab), ("internal/strconv.uint64pow10", laid_internal_strconv_uint64pow10)] }
def SampleRequestsSaid : Prop := sampleRequestsRow.holds Tryd.pinned (OpenSpec.ofChange sampleRequestsSpec)

/-- ITS FALSE NEIGHBOUR: 'it returns false'. Refute it at one input. -/
def sampleRequestsWrong : ChangeSpec := { name := "sampleRequests", fn := fun _ => fun
  | [d1, d2] => { results := [.lit (.bool false)], args := [d1, d2] }
  | _ => none }
def SampleRequestsWrongFalsely : Prop := sampleRequestsRow.holds Tryd.pinned (OpenSpec.ofChange sampleRequestsWrong)

/- THE SECOND FORM. 'bulk': how many values and letters a reading holds, each counted each time it is reached (what is shared counts as often as it is met; a slice's spare places count too). A statement '..UptoSaid' is the law's where the arguments, and the package variables that the reading takes, are together of bulk at most 1048576: NARROWER than '..Said'. Prove '..Said' where nothing that the law and all that it calls make is longer than what came in: it says more and counts as full. Else prove '..UptoSaid'. A law counts once. -/
mutual
def uptoBulk {H : Type} : DataW H → Nat
  | .lit (.string bytes) => bytes.length + 1
  | .lit _ => 1
  | .nil => 1
  | .ptr d => uptoBulk d + 1
  | .slice elems spare => uptoBulkAll elems + uptoBulkAll spare + 1
  | .agg parts => uptoBulkAll parts + 1
  | .iface _ d => uptoBulk d + 1
  | .map entries => uptoBulkEntries entries + 1
  | .held _ => 1
def uptoBulkAll {H : Type} : List (DataW H) → Nat
  | [] => 0
  | d :: r => uptoBulk d + uptoBulkAll r
def uptoBulkEntries {H : Type} : List (Lit × DataW H) → Nat
  | [] => 0
  | x :: r => uptoBulkEntry x + uptoBulkEntries r
def uptoBulkEntry {H : Type} : Lit × DataW H → Nat
  | (.string bytes, d) => bytes.length + uptoBulk d + 1
  | (_, d) => uptoBulk d + 1
 end
def uptoSmall : (H : Type) → List (DataW H) → Bool := fun _ ds => decide (uptoBulkAll ds ≤ 1048576)
def OpenSpec.upto (s : _root_.Go.ChangeSpec) : _root_.Go.OpenSpec := { _root_.Go.OpenSpec.ofChange s with cond := some uptoSmall }

/-- 'pursebearerlaw29.SampleHeads', WHERE WHAT IT READS IS OF BULK AT MOST 1048576: true; the input reads as it did. -/
def sampleHeadsUptoRow : OpenClaim := { program := "ytdamhohoeobfgaadoor", sum := "117c908483d73f7887c5256c40feda5d4b025664b866aa06c9b7836ebc0b97a5", func := "pursebearer/pursebearerlaw29.SampleHeads", spec := "sampleHeads", unfollowed := true, recurses := true, named := ["internal/strconv.uint64pow10", "math/bits.deBruijn32tab", "math/bits.deBruijn64tab"], apart := false, laid := [("math/bits.deBruijn32tab", laid_math_bits_deBruijn32tab), ("math/bits.deBruijn64tab", laid_math_bits_deBruijn64tab), ("internal/strconv.uint64pow10", laid_internal_strconv_uint64pow10)], narrowed := true }
def SampleHeadsUptoSaid : Prop := sampleHeadsUptoRow.holds Tryd.pinned (OpenSpec.upto sampleHeadsSpec)

/-- 'pursebearerlaw29.SamplePlays', WHERE WHAT IT READS IS OF BULK AT MOST 1048576: true; the input reads as it did. -/
def samplePlaysUptoRow : OpenClaim := { program := "ytdamhohoeobfgaadoor", sum := "117c908483d73f7887c5256c40feda5d4b025664b866aa06c9b7836ebc0b97a5", func := "pursebearer/pursebearerlaw29.SamplePlays", spec := "samplePlays", unfollowed := true, recurses := true, named := ["internal/strconv.uint64pow10", "math/bits.deBruijn32tab", "math/bits.deBruijn64tab"], apart := false, laid := [("math/bits.deBruijn32tab", laid_math_bits_deBruijn32tab), ("math/bits.deBruijn64tab", laid_math_bits_deBruijn64tab), ("internal/strconv.uint64pow10", laid_internal_strconv_uint64pow10)], narrowed := true }
def SamplePlaysUptoSaid : Prop := samplePlaysUptoRow.holds Tryd.pinned (OpenSpec.upto samplePlaysSpec)

/-- 'pursebearerlaw29.SampleOnce', WHERE WHAT IT READS IS OF BULK AT MOST 1048576: true; the input reads as it did. -/
def sampleOnceUptoRow : OpenClaim := { program := "ytdamhohoeobfgaadoor", sum := "117c908483d73f7887c5256c40feda5d4b025664b866aa06c9b7836ebc0b97a5", func := "pursebearer/pursebearerlaw29.SampleOnce", spec := "sampleOnce", unfollowed := true, recurses := true, named := ["internal/strconv.uint64pow10", "math/bits.deBruijn32tab", "math/bits.deBruijn64tab"], apart := false, laid := [("math/bits.deBruijn32tab", laid_math_bits_deBruijn32tab), ("math/bits.deBruijn64tab", laid_math_bits_deBruijn64tab), ("internal/strconv.uint64pow10", laid_internal_strconv_uint64pow10)], narrowed := true }
def SampleOnceUptoSaid : Prop := sampleOnceUptoRow.holds Tryd.pinned (OpenSpec.upto sampleOnceSpec)

/-- 'pursebearerlaw29.SampleMore', WHERE WHAT IT READS IS OF BULK AT MOST 1048576: true; the input reads as it did. -/
def sampleMoreUptoRow : OpenClaim := { program := "ytdamhohoeobfgaadoor", sum := "117c908483d73f7887c5256c40feda5d4b025664b866aa06c9b7836ebc0b97a5", func := "pursebearer/pursebearerlaw29.SampleMore", spec := "sampleMore", unfollowed := true, recurses := true, named := ["internal/strconv.uint64pow10", "math/bits.deBruijn32tab", "math/bits.deBruijn64tab"], apart := false, laid := [("math/bits.deBruijn32tab", laid_math_bits_deBruijn32tab), ("math/bits.deBruijn64tab", laid_math_bits_deBruijn64tab), ("internal/strconv.uint64pow10", laid_internal_strconv_uint64pow10)], narrowed := true }
def SampleMoreUptoSaid : Prop := sampleMoreUptoRow.holds Tryd.pinned (OpenSpec.upto sampleMoreSpec)

/-- 'pursebearerlaw29.SampleShare', WHERE WHAT IT READS IS OF BULK AT MOST 1048576: true; the input reads as it did. -/
def sampleShareUptoRow : OpenClaim := { program := "ytdamhohoeobfgaadoor", sum := "117c908483d73f7887c5256c40feda5d4b025664b866aa06c9b7836ebc0b97a5", func := "pursebearer/pursebearerlaw29.SampleShare", spec := "sampleShare", unfollowed := true, recurses := true, named := ["internal/strconv.uint64pow10", "math/bits.deBruijn32tab", "math/bits.deBruijn64tab"], apart := false, laid := [("math/bits.deBruijn32tab", laid_math_bits_deBruijn32tab), ("math/bits.deBruijn64tab", laid_math_bits_deBruijn64tab), ("internal/strconv.uint64pow10", laid_internal_strconv_uint64pow10)], narrowed := true }
def SampleShareUptoSaid : Prop := sampleShareUptoRow.holds Tryd.pinned (OpenSpec.upto sampleShareSpec)

/-- 'pursebearerlaw29.SampleFails', WHERE WHAT IT READS IS OF BULK AT MOST 1048576: true; the input reads as it did. -/
def sampleFailsUptoRow : OpenClaim := { program := "ytdamhohoeobfgaadoor", sum := "117c908483d73f7887c5256c40feda5d4b025664b866aa06c9b7836ebc0b97a5", func := "pursebearer/pursebearerlaw29.SampleFails", spec := "sampleFails", unfollowed := true, recurses := true, named := ["internal/strconv.uint64pow10", "math/bits.deBruijn32tab", "math/bits.deBruijn64tab"], apart := false, laid := [("math/bits.deBruijn32tab", laid_math_bits_deBruijn32tab), ("math/bits.deBruijn64tab", laid_math_bits_deBruijn64tab), ("internal/strconv.uint64pow10", laid_internal_strconv_uint64pow10)], narrowed := true }
def SampleFailsUptoSaid : Prop := sampleFailsUptoRow.holds Tryd.pinned (OpenSpec.upto sampleFailsSpec)

/-- 'pursebearerlaw29.SampleRequests', WHERE WHAT IT READS IS OF BULK AT MOST 1048576: true; the input reads as it did. -/
def sampleRequestsUptoRow : OpenClaim := { program := "ytdamhohoeobfgaadoor", sum := "117c908483d73f7887c5256c40feda5d4b025664b866aa06c9b7836ebc0b97a5", func := "pursebearer/pursebearerlaw29.SampleRequests", spec := "sampleRequests", unfollowed := true, recurses := true, named := ["internal/strconv.uint64pow10", "math/bits.deBruijn32tab", "math/bits.deBruijn64tab"], apart := false, laid := [("math/bits.deBruijn32tab", laid_math_bits_deBruijn32tab), ("math/bits.deBruijn64tab", laid_math_bits_deBruijn64tab), ("internal/strconv.uint64pow10", laid_internal_strconv_uint64pow10)], narrowed := true }
def SampleRequestsUptoSaid : Prop := sampleRequestsUptoRow.holds Tryd.pinned (OpenSpec.upto sampleRequestsSpec)

end Rows
end Go.Proofs.YtdamhohoeobfgaaDoor
