/-
  No cell of these rows narrows 'for every input' (looked for: loops, veiled, ifaces, maps, wideKeys, modest, calm, conditions, laid).
  DERIVED. THE GIVEN ROWS OF THIS SEAT. 5 by the template 'for every input the law returns true; each argument reads behind the call as it read before'; 0 by the template 'total and deterministic' (their statements: YtnmcdecdgcnmbaaTotals.lean).
  GIVEN WITH THE SEED: the statements are not yours to turn. If you find one false, say at which input.
  Laid BY PROGRAM, IN A SANDBOX (cutbox-rows.mjs): the forced cells as the released guide's own fill.sh prints them over the translation cd83f1cc6c60e50f… (all of the seat's roots in one cut). By AI agents, Wed Nov 11 2026. No macro, syntax, notation, axiom, sorry.
-/
import Derived.Test.YtnmcdecdgcnmbaaChecked
import GoSem.Claim
import GoSem.ClaimJoined
import GoSem.ClaimMapViews
import Derived.JoinedTies
import Derived.KernelRfl
namespace Go.Proofs.Ytnmcdecdgcnmbaa
/- THE CELL 'sum', in the pinned program and in every row, IS THE sha256 OF THE DUMP (.gsa) THAT YtnmcdecdgcnmbaaProg.lean LOADS. Nothing in Lean hashes anything: it is a label: what it is worth is what the hold of that sum in a sandbox is worth. -/
noncomputable def Try.pinned : Pinned := { name := "ytnmcdecdgcnmbaa", sum := "cd83f1cc6c60e50fc5f0e70e965110dcec66c08cca48729254b80fe203519d57", checked := Try.checked }
namespace Rows
def none {H : Type} : Left H := { results := [], args := [] }

/-- 'pursebearerlaw28.TraceNames': WHATEVER THE INPUT: true; the input reads as it did. -/
def traceNamesSpec : ChangeSpec := { name := "traceNames", fn := fun _ => fun
  | [d1, d2, d3, d4, d5] => { results := [.lit (.bool true)], args := [d1, d2, d3, d4, d5] }
  | _ => none }
def traceNamesRow : OpenClaim := { program := "ytnmcdecdgcnmbaa", sum := "cd83f1cc6c60e50fc5f0e70e965110dcec66c08cca48729254b80fe203519d57", func := "pursebearer/pursebearerlaw28.TraceNames", spec := "traceNames", unfollowed := true, recurses := true, apart := false }
def TraceNamesSaid : Prop := traceNamesRow.holds Try.pinned (OpenSpec.ofChange traceNamesSpec)

/-- ITS FALSE NEIGHBOUR: 'it returns false'. Refute it at one input. -/
def traceNamesWrong : ChangeSpec := { name := "traceNames", fn := fun _ => fun
  | [d1, d2, d3, d4, d5] => { results := [.lit (.bool false)], args := [d1, d2, d3, d4, d5] }
  | _ => none }
def TraceNamesWrongFalsely : Prop := traceNamesRow.holds Try.pinned (OpenSpec.ofChange traceNamesWrong)

/-- 'pursebearerlaw28.TraceNotes': WHATEVER THE INPUT: true; the input reads as it did. -/
def traceNotesSpec : ChangeSpec := { name := "traceNotes", fn := fun _ => fun
  | [d1, d2, d3, d4] => { results := [.lit (.bool true)], args := [d1, d2, d3, d4] }
  | _ => none }
def traceNotesRow : OpenClaim := { program := "ytnmcdecdgcnmbaa", sum := "cd83f1cc6c60e50fc5f0e70e965110dcec66c08cca48729254b80fe203519d57", func := "pursebearer/pursebearerlaw28.TraceNotes", spec := "traceNotes", unfollowed := true, recurses := true, apart := false }
def TraceNotesSaid : Prop := traceNotesRow.holds Try.pinned (OpenSpec.ofChange traceNotesSpec)

/-- ITS FALSE NEIGHBOUR: 'it returns false'. Refute it at one input. -/
def traceNotesWrong : ChangeSpec := { name := "traceNotes", fn := fun _ => fun
  | [d1, d2, d3, d4] => { results := [.lit (.bool false)], args := [d1, d2, d3, d4] }
  | _ => none }
def TraceNotesWrongFalsely : Prop := traceNotesRow.holds Try.pinned (OpenSpec.ofChange traceNotesWrong)

/-- 'pursebearerlaw28.TraceForest': WHATEVER THE INPUT: true; the input reads as it did. -/
def traceForestSpec : ChangeSpec := { name := "traceForest", fn := fun _ => fun
  | [d1, d2] => { results := [.lit (.bool true)], args := [d1, d2] }
  | _ => none }
def traceForestRow : OpenClaim := { program := "ytnmcdecdgcnmbaa", sum := "cd83f1cc6c60e50fc5f0e70e965110dcec66c08cca48729254b80fe203519d57", func := "pursebearer/pursebearerlaw28.TraceForest", spec := "traceForest", unfollowed := true, recurses := true, apart := false }
def TraceForestSaid : Prop := traceForestRow.holds Try.pinned (OpenSpec.ofChange traceForestSpec)

/-- ITS FALSE NEIGHBOUR: 'it returns false'. Refute it at one input. -/
def traceForestWrong : ChangeSpec := { name := "traceForest", fn := fun _ => fun
  | [d1, d2] => { results := [.lit (.bool false)], args := [d1, d2] }
  | _ => none }
def TraceForestWrongFalsely : Prop := traceForestRow.holds Try.pinned (OpenSpec.ofChange traceForestWrong)

/-- 'pursebearerlaw28.TraceRow': WHATEVER THE INPUT: true; the input reads as it did. -/
def traceRowSpec : ChangeSpec := { name := "traceRow", fn := fun _ => fun
  | [d] => { results := [.lit (.bool true)], args := [d] }
  | _ => none }
def traceRowRow : OpenClaim := { program := "ytnmcdecdgcnmbaa", sum := "cd83f1cc6c60e50fc5f0e70e965110dcec66c08cca48729254b80fe203519d57", func := "pursebearer/pursebearerlaw28.TraceRow", spec := "traceRow", unfollowed := true, recurses := true, apart := false }
def TraceRowSaid : Prop := traceRowRow.holds Try.pinned (OpenSpec.ofChange traceRowSpec)

/-- ITS FALSE NEIGHBOUR: 'it returns false'. Refute it at one input. -/
def traceRowWrong : ChangeSpec := { name := "traceRow", fn := fun _ => fun
  | [d] => { results := [.lit (.bool false)], args := [d] }
  | _ => none }
def TraceRowWrongFalsely : Prop := traceRowRow.holds Try.pinned (OpenSpec.ofChange traceRowWrong)

/-- 'pursebearerlaw28.TraceOrder': WHATEVER THE INPUT: true; the input reads as it did. -/
def traceOrderSpec : ChangeSpec := { name := "traceOrder", fn := fun _ => fun
  | [d1, d2, d3] => { results := [.lit (.bool true)], args := [d1, d2, d3] }
  | _ => none }
def traceOrderRow : OpenClaim := { program := "ytnmcdecdgcnmbaa", sum := "cd83f1cc6c60e50fc5f0e70e965110dcec66c08cca48729254b80fe203519d57", func := "pursebearer/pursebearerlaw28.TraceOrder", spec := "traceOrder", inPlace := ["internal/bytealg.CountString", "internal/bytealg.IndexByteString", "internal/bytealg.IndexString"], unfollowed := true, recurses := true, named := ["internal/bytealg.MaxLen"], apart := false }
def TraceOrderSaid : Prop := traceOrderRow.holds Try.pinned (OpenSpec.ofChange traceOrderSpec)

/-- ITS FALSE NEIGHBOUR: 'it returns false'. Refute it at one input. -/
def traceOrderWrong : ChangeSpec := { name := "traceOrder", fn := fun _ => fun
  | [d1, d2, d3] => { results := [.lit (.bool false)], args := [d1, d2, d3] }
  | _ => none }
def TraceOrderWrongFalsely : Prop := traceOrderRow.holds Try.pinned (OpenSpec.ofChange traceOrderWrong)

/- THE SECOND FORM. 'bulk': how many values and letters a reading holds, each counted each time it is reached (what is shared counts as often as it is met; a slice's spare places count too). A statement '..UptoSaid' is the law's where the arguments, and the package variables that the reading takes, are together of bulk at most 1048576: NARROWER than '..Said'. Prove '..Said' where nothing that the law and all that it calls make is longer than what came in: it says more and counts as full. Else prove '..UptoSaid'. A law counts once. -/
mutual
def uptoBulk {H : Type} : DataW H → Nat
  | .lit (.string bytes) => bytes.length + 1
  | .lit _ => 1
  | .nil => 1
  | .ptr d => uptoBulk d + 1
  | .slice elems spare => uptoBulkAll elems + uptoBulkAll spare + 1
  | .agg parts => uptoBulkAll parts + 1
  | .iface _ d => uptoBulk d + 1
  | .map entries => uptoBulkEntries entries + 1
  | .held _ => 1
def uptoBulkAll {H : Type} : List (DataW H) → Nat
  | [] => 0
  | d :: r => uptoBulk d + uptoBulkAll r
def uptoBulkEntries {H : Type} : List (Lit × DataW H) → Nat
  | [] => 0
  | x :: r => uptoBulkEntry x + uptoBulkEntries r
def uptoBulkEntry {H : Type} : Lit × DataW H → Nat
  | (.string bytes, d) => bytes.length + uptoBulk d + 1
  | (_, d) => uptoBulk d + 1
 end
def uptoSmall : (H : Type) → List (DataW H) → Bool := fun _ ds => decide (uptoBulkAll ds ≤ 1048576)
def OpenSpec.upto (s : _root_.Go.ChangeSpec) : _root_.Go.OpenSpec := { _root_.Go.OpenSpec.ofChange s with cond := some uptoSmall }

/-- 'pursebearerlaw28.TraceNames', WHERE WHAT IT READS IS OF BULK AT MOST 1048576: true; the input reads as it did. -/
def traceNamesUptoRow : OpenClaim := { program := "ytnmcdecdgcnmbaa", sum := "cd83f1cc6c60e50fc5f0e70e965110dcec66c08cca48729254b80fe203519d57", func := "pursebearer/pursebearerlaw28.TraceNames", spec := "traceNames", unfollowed := true, recurses := true, apart := false, narrowed := true }
def TraceNamesUptoSaid : Prop := traceNamesUptoRow.holds Try.pinned (OpenSpec.upto traceNamesSpec)

/-- 'pursebearerlaw28.TraceNotes', WHERE WHAT IT READS IS OF BULK AT MOST 1048576: true; the input reads as it did. -/
def traceNotesUptoRow : OpenClaim := { program := "ytnmcdecdgcnmbaa", sum := "cd83f1cc6c60e50fc5f0e70e965110dcec66c08cca48729254b80fe203519d57", func := "pursebearer/pursebearerlaw28.TraceNotes", spec := "traceNotes", unfollowed := true, recurses := true, apart := false, narrowed := true }
def TraceNotesUptoSaid : Prop := traceNotesUptoRow.holds Try.pinned (OpenSpec.upto traceNotesSpec)

/-- 'pursebearerlaw28.TraceForest', WHERE WHAT IT READS IS OF BULK AT MOST 1048576: true; the input reads as it did. -/
def traceForestUptoRow : OpenClaim := { program := "ytnmcdecdgcnmbaa", sum := "cd83f1cc6c60e50fc5f0e70e965110dcec66c08cca48729254b80fe203519d57", func := "pursebearer/pursebearerlaw28.TraceForest", spec := "traceForest", unfollowed := true, recurses := true, apart := false, narrowed := true }
def TraceForestUptoSaid : Prop := traceForestUptoRow.holds Try.pinned (OpenSpec.upto traceForestSpec)

/-- 'pursebearerlaw28.TraceRow', WHERE WHAT IT READS IS OF BULK AT MOST 1048576: true; the input reads as it did. -/
def traceRowUptoRow : OpenClaim := { program := "ytnmcdecdgcnmbaa", sum := "cd83f1cc6c60e50fc5f0e70e965110dcec66c08cca48729254b80fe203519d57", func := "pursebearer/pursebearerlaw28.TraceRow", spec := "traceRow", unfollowed := true, recurses := true, apart := false, narrowed := true }
def TraceRowUptoSaid : Prop := traceRowUptoRow.holds Try.pinned (OpenSpec.upto traceRowSpec)

/-- 'pursebearerlaw28.TraceOrder', WHERE WHAT IT READS IS OF BULK AT MOST 1048576: true; the input reads as it did. -/
def traceOrderUptoRow : OpenClaim := { program := "ytnmcdecdgcnmbaa", sum := "cd83f1cc6c60e50fc5f0e70e965110dcec66c08cca48729254b80fe203519d57", func := "pursebearer/pursebearerlaw28.TraceOrder", spec := "traceOrder", inPlace := ["internal/bytealg.CountString", "internal/bytealg.IndexByteString", "internal/bytealg.IndexString"], unfollowed := true, recurses := true, named := ["internal/bytealg.MaxLen"], apart := false, narrowed := true }
def TraceOrderUptoSaid : Prop := traceOrderUptoRow.holds Try.pinned (OpenSpec.upto traceOrderSpec)

end Rows
end Go.Proofs.Ytnmcdecdgcnmbaa
