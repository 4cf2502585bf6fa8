/-
  No cell of these rows narrows 'for every input' (looked for: loops, veiled, ifaces, maps, wideKeys, modest, calm, conditions, laid).
  DERIVED. THE GIVEN ROWS OF THIS SEAT. 5 by the template 'for every input the law returns true; each argument reads behind the call as it read before'; 0 by the template 'total and deterministic' (their statements: YtmohmjanglkggaaTotals.lean).
  GIVEN WITH THE SEED: the statements are not yours to turn. If you find one false, say at which input.
  Laid BY PROGRAM, IN A SANDBOX (cutbox-rows.mjs): the forced cells as the released guide's own fill.sh prints them over the translation 6c44c1a89c8e46d2… (all of the seat's roots in one cut). By AI agents, Wed Nov 11 2026. No macro, syntax, notation, axiom, sorry.
-/
import Derived.Test.YtmohmjanglkggaaChecked
import GoSem.Claim
import GoSem.ClaimJoined
import GoSem.ClaimMapViews
import Derived.JoinedTies
import Derived.KernelRfl
namespace Go.Proofs.Ytmohmjanglkggaa
/- THE CELL 'sum', in the pinned program and in every row, IS THE sha256 OF THE DUMP (.gsa) THAT YtmohmjanglkggaaProg.lean LOADS. Nothing in Lean hashes anything: it is a label: what it is worth is what the hold of that sum in a sandbox is worth. -/
noncomputable def Try.pinned : Pinned := { name := "ytmohmjanglkggaa", sum := "6c44c1a89c8e46d2c61cd72f04596c4e9a15ad0699f4ddc6f47ad73d448fb157", checked := Try.checked }
namespace Rows
def none {H : Type} : Left H := { results := [], args := [] }

/-- 'pursebearerlaw27.LinkSends': WHATEVER THE INPUT: true; the input reads as it did. -/
def linkSendsSpec : ChangeSpec := { name := "linkSends", fn := fun _ => fun
  | [d1, d2, d3] => { results := [.lit (.bool true)], args := [d1, d2, d3] }
  | _ => none }
def linkSendsRow : OpenClaim := { program := "ytmohmjanglkggaa", sum := "6c44c1a89c8e46d2c61cd72f04596c4e9a15ad0699f4ddc6f47ad73d448fb157", func := "pursebearer/pursebearerlaw27.LinkSends", spec := "linkSends", unfollowed := true, recurses := true, apart := false }
def LinkSendsSaid : Prop := linkSendsRow.holds Try.pinned (OpenSpec.ofChange linkSendsSpec)

/-- ITS FALSE NEIGHBOUR: 'it returns false'. Refute it at one input. -/
def linkSendsWrong : ChangeSpec := { name := "linkSends", fn := fun _ => fun
  | [d1, d2, d3] => { results := [.lit (.bool false)], args := [d1, d2, d3] }
  | _ => none }
def LinkSendsWrongFalsely : Prop := linkSendsRow.holds Try.pinned (OpenSpec.ofChange linkSendsWrong)

/-- 'pursebearerlaw27.LinkHop': WHATEVER THE INPUT: true; the input reads as it did. -/
def linkHopSpec : ChangeSpec := { name := "linkHop", fn := fun _ => fun
  | [d1, d2, d3] => { results := [.lit (.bool true)], args := [d1, d2, d3] }
  | _ => none }
def linkHopRow : OpenClaim := { program := "ytmohmjanglkggaa", sum := "6c44c1a89c8e46d2c61cd72f04596c4e9a15ad0699f4ddc6f47ad73d448fb157", func := "pursebearer/pursebearerlaw27.LinkHop", spec := "linkHop", unfollowed := true, recurses := true, apart := false }
def LinkHopSaid : Prop := linkHopRow.holds Try.pinned (OpenSpec.ofChange linkHopSpec)

/-- ITS FALSE NEIGHBOUR: 'it returns false'. Refute it at one input. -/
def linkHopWrong : ChangeSpec := { name := "linkHop", fn := fun _ => fun
  | [d1, d2, d3] => { results := [.lit (.bool false)], args := [d1, d2, d3] }
  | _ => none }
def LinkHopWrongFalsely : Prop := linkHopRow.holds Try.pinned (OpenSpec.ofChange linkHopWrong)

/-- 'pursebearerlaw27.LinkBack': WHATEVER THE INPUT: true; the input reads as it did. -/
def linkBackSpec : ChangeSpec := { name := "linkBack", fn := fun _ => fun
  | [d1, d2, d3] => { results := [.lit (.bool true)], args := [d1, d2, d3] }
  | _ => none }
def linkBackRow : OpenClaim := { program := "ytmohmjanglkggaa", sum := "6c44c1a89c8e46d2c61cd72f04596c4e9a15ad0699f4ddc6f47ad73d448fb157", func := "pursebearer/pursebearerlaw27.LinkBack", spec := "linkBack", unfollowed := true, recurses := true, apart := false }
def LinkBackSaid : Prop := linkBackRow.holds Try.pinned (OpenSpec.ofChange linkBackSpec)

/-- ITS FALSE NEIGHBOUR: 'it returns false'. Refute it at one input. -/
def linkBackWrong : ChangeSpec := { name := "linkBack", fn := fun _ => fun
  | [d1, d2, d3] => { results := [.lit (.bool false)], args := [d1, d2, d3] }
  | _ => none }
def LinkBackWrongFalsely : Prop := linkBackRow.holds Try.pinned (OpenSpec.ofChange linkBackWrong)

/-- 'pursebearerlaw27.LinkLoses': WHATEVER THE INPUT: true; the input reads as it did. -/
def linkLosesSpec : ChangeSpec := { name := "linkLoses", fn := fun _ => fun
  | [d1, d2, d3] => { results := [.lit (.bool true)], args := [d1, d2, d3] }
  | _ => none }
def linkLosesRow : OpenClaim := { program := "ytmohmjanglkggaa", sum := "6c44c1a89c8e46d2c61cd72f04596c4e9a15ad0699f4ddc6f47ad73d448fb157", func := "pursebearer/pursebearerlaw27.LinkLoses", spec := "linkLoses", unfollowed := true, recurses := true, apart := false }
def LinkLosesSaid : Prop := linkLosesRow.holds Try.pinned (OpenSpec.ofChange linkLosesSpec)

/-- ITS FALSE NEIGHBOUR: 'it returns false'. Refute it at one input. -/
def linkLosesWrong : ChangeSpec := { name := "linkLoses", fn := fun _ => fun
  | [d1, d2, d3] => { results := [.lit (.bool false)], args := [d1, d2, d3] }
  | _ => none }
def LinkLosesWrongFalsely : Prop := linkLosesRow.holds Try.pinned (OpenSpec.ofChange linkLosesWrong)

/-- 'pursebearerlaw27.LinkOn': WHATEVER THE INPUT: true; the input reads as it did. -/
def linkOnSpec : ChangeSpec := { name := "linkOn", fn := fun _ => fun
  | [d1, d2, d3, d4] => { results := [.lit (.bool true)], args := [d1, d2, d3, d4] }
  | _ => none }
def linkOnRow : OpenClaim := { program := "ytmohmjanglkggaa", sum := "6c44c1a89c8e46d2c61cd72f04596c4e9a15ad0699f4ddc6f47ad73d448fb157", func := "pursebearer/pursebearerlaw27.LinkOn", spec := "linkOn", unfollowed := true, recurses := true, apart := false }
def LinkOnSaid : Prop := linkOnRow.holds Try.pinned (OpenSpec.ofChange linkOnSpec)

/-- ITS FALSE NEIGHBOUR: 'it returns false'. Refute it at one input. -/
def linkOnWrong : ChangeSpec := { name := "linkOn", fn := fun _ => fun
  | [d1, d2, d3, d4] => { results := [.lit (.bool false)], args := [d1, d2, d3, d4] }
  | _ => none }
def LinkOnWrongFalsely : Prop := linkOnRow.holds Try.pinned (OpenSpec.ofChange linkOnWrong)

/- THE SECOND FORM. 'bulk': how many values and letters a reading holds, each counted each time it is reached (what is shared counts as often as it is met; a slice's spare places count too). A statement '..UptoSaid' is the law's where the arguments, and the package variables that the reading takes, are together of bulk at most 1048576: NARROWER than '..Said'. Prove '..Said' where nothing that the law and all that it calls make is longer than what came in: it says more and counts as full. Else prove '..UptoSaid'. A law counts once. -/
mutual
def uptoBulk {H : Type} : DataW H → Nat
  | .lit (.string bytes) => bytes.length + 1
  | .lit _ => 1
  | .nil => 1
  | .ptr d => uptoBulk d + 1
  | .slice elems spare => uptoBulkAll elems + uptoBulkAll spare + 1
  | .agg parts => uptoBulkAll parts + 1
  | .iface _ d => uptoBulk d + 1
  | .map entries => uptoBulkEntries entries + 1
  | .held _ => 1
def uptoBulkAll {H : Type} : List (DataW H) → Nat
  | [] => 0
  | d :: r => uptoBulk d + uptoBulkAll r
def uptoBulkEntries {H : Type} : List (Lit × DataW H) → Nat
  | [] => 0
  | x :: r => uptoBulkEntry x + uptoBulkEntries r
def uptoBulkEntry {H : Type} : Lit × DataW H → Nat
  | (.string bytes, d) => bytes.length + uptoBulk d + 1
  | (_, d) => uptoBulk d + 1
 end
def uptoSmall : (H : Type) → List (DataW H) → Bool := fun _ ds => decide (uptoBulkAll ds ≤ 1048576)
def OpenSpec.upto (s : _root_.Go.ChangeSpec) : _root_.Go.OpenSpec := { _root_.Go.OpenSpec.ofChange s with cond := some uptoSmall }

/-- 'pursebearerlaw27.LinkSends', WHERE WHAT IT READS IS OF BULK AT MOST 1048576: true; the input reads as it did. -/
def linkSendsUptoRow : OpenClaim := { program := "ytmohmjanglkggaa", sum := "6c44c1a89c8e46d2c61cd72f04596c4e9a15ad0699f4ddc6f47ad73d448fb157", func := "pursebearer/pursebearerlaw27.LinkSends", spec := "linkSends", unfollowed := true, recurses := true, apart := false, narrowed := true }
def LinkSendsUptoSaid : Prop := linkSendsUptoRow.holds Try.pinned (OpenSpec.upto linkSendsSpec)

/-- 'pursebearerlaw27.LinkHop', WHERE WHAT IT READS IS OF BULK AT MOST 1048576: true; the input reads as it did. -/
def linkHopUptoRow : OpenClaim := { program := "ytmohmjanglkggaa", sum := "6c44c1a89c8e46d2c61cd72f04596c4e9a15ad0699f4ddc6f47ad73d448fb157", func := "pursebearer/pursebearerlaw27.LinkHop", spec := "linkHop", unfollowed := true, recurses := true, apart := false, narrowed := true }
def LinkHopUptoSaid : Prop := linkHopUptoRow.holds Try.pinned (OpenSpec.upto linkHopSpec)

/-- 'pursebearerlaw27.LinkBack', WHERE WHAT IT READS IS OF BULK AT MOST 1048576: true; the input reads as it did. -/
def linkBackUptoRow : OpenClaim := { program := "ytmohmjanglkggaa", sum := "6c44c1a89c8e46d2c61cd72f04596c4e9a15ad0699f4ddc6f47ad73d448fb157", func := "pursebearer/pursebearerlaw27.LinkBack", spec := "linkBack", unfollowed := true, recurses := true, apart := false, narrowed := true }
def LinkBackUptoSaid : Prop := linkBackUptoRow.holds Try.pinned (OpenSpec.upto linkBackSpec)

/-- 'pursebearerlaw27.LinkLoses', WHERE WHAT IT READS IS OF BULK AT MOST 1048576: true; the input reads as it did. -/
def linkLosesUptoRow : OpenClaim := { program := "ytmohmjanglkggaa", sum := "6c44c1a89c8e46d2c61cd72f04596c4e9a15ad0699f4ddc6f47ad73d448fb157", func := "pursebearer/pursebearerlaw27.LinkLoses", spec := "linkLoses", unfollowed := true, recurses := true, apart := false, narrowed := true }
def LinkLosesUptoSaid : Prop := linkLosesUptoRow.holds Try.pinned (OpenSpec.upto linkLosesSpec)

/-- 'pursebearerlaw27.LinkOn', WHERE WHAT IT READS IS OF BULK AT MOST 1048576: true; the input reads as it did. -/
def linkOnUptoRow : OpenClaim := { program := "ytmohmjanglkggaa", sum := "6c44c1a89c8e46d2c61cd72f04596c4e9a15ad0699f4ddc6f47ad73d448fb157", func := "pursebearer/pursebearerlaw27.LinkOn", spec := "linkOn", unfollowed := true, recurses := true, apart := false, narrowed := true }
def LinkOnUptoSaid : Prop := linkOnUptoRow.holds Try.pinned (OpenSpec.upto linkOnSpec)

end Rows
end Go.Proofs.Ytmohmjanglkggaa
