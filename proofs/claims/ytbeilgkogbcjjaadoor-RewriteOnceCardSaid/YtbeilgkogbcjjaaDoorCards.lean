/-
  DERIVED. GIVEN WITH THE SEED: THE CARDS: each row of YtbeilgkogbcjjaaDoorRows.lean that lists a variable, with what it lists TIED to the program's text (the seventh form; the later family's looks); each row that meets fmt, with fmt's text TOLD by the authors' own Lean function (tested against real Go, not proved from fmt's source: count such statements apart). THE CARD IS WHAT COUNTS. Prove the row's statement (the work); the ties are given (YtbeilgkogbcjjaaDoorTie.lean); close each card by the builder's one call (the guide's Derived/Test/ToyasCard.lean, 'card_holds'). Laid BY PROGRAM, IN A SANDBOX (cutbox-door.mjs). By AI agents, Wed Nov 11 2026. No macro, syntax, notation, axiom, sorry.
-/
import Derived.Test.YtbeilgkogbcjjaaDoorRows
import GoSem.ClaimSeven
namespace Go.Proofs.YtbeilgkogbcjjaaDoor
namespace Rows

/-- THE TIED CARD OF 'pursebearerlaw07.RewritePaths'. -/
def rewritePathsCard : Claim7 := { stood := { row := rewritePathsRow, standIns := [], harness := (true, "d34c15e58170b90f304857e44dfe72f07f8a1258dc800362cb7fbeaf167477f3"), looks := false }, kinds := [], alts := [], laidByText := true, laidKinds := [.data, .pinned], laidTests := true, laidLooks := .later }
def RewritePathsCardSaid : Prop := Claim7.holds Tryd.pinned (.plain (OpenSpec.ofChange rewritePathsSpec)) rewritePathsCard

/-- THE TIED CARD OF 'pursebearerlaw07.RewriteStays'. -/
def rewriteStaysCard : Claim7 := { stood := { row := rewriteStaysRow, standIns := [], harness := (true, "d34c15e58170b90f304857e44dfe72f07f8a1258dc800362cb7fbeaf167477f3"), looks := false }, kinds := [], alts := [], laidByText := true, laidKinds := [.data, .pinned], laidTests := true, laidLooks := .later }
def RewriteStaysCardSaid : Prop := Claim7.holds Tryd.pinned (.plain (OpenSpec.ofChange rewriteStaysSpec)) rewriteStaysCard

/-- THE TIED CARD OF 'pursebearerlaw07.RewriteBack'. -/
def rewriteBackCard : Claim7 := { stood := { row := rewriteBackRow, standIns := [], harness := (true, "d34c15e58170b90f304857e44dfe72f07f8a1258dc800362cb7fbeaf167477f3"), looks := false }, kinds := [], alts := [], laidByText := true, laidKinds := [.data, .pinned], laidTests := true, laidLooks := .later }
def RewriteBackCardSaid : Prop := Claim7.holds Tryd.pinned (.plain (OpenSpec.ofChange rewriteBackSpec)) rewriteBackCard

/-- THE TIED CARD OF 'pursebearerlaw07.RewriteBegins'. -/
def rewriteBeginsCard : Claim7 := { stood := { row := rewriteBeginsRow, standIns := [], harness := (true, "d34c15e58170b90f304857e44dfe72f07f8a1258dc800362cb7fbeaf167477f3"), looks := false }, kinds := [], alts := [], laidByText := true, laidKinds := [.data, .pinned], laidTests := true, laidLooks := .later }
def RewriteBeginsCardSaid : Prop := Claim7.holds Tryd.pinned (.plain (OpenSpec.ofChange rewriteBeginsSpec)) rewriteBeginsCard

/-- THE TIED CARD OF 'pursebearerlaw07.RewriteHeads'. -/
def rewriteHeadsCard : Claim7 := { stood := { row := rewriteHeadsRow, standIns := [], harness := (true, "d34c15e58170b90f304857e44dfe72f07f8a1258dc800362cb7fbeaf167477f3"), looks := false }, kinds := [], alts := [], laidByText := true, laidKinds := [.data, .pinned], laidTests := true, laidLooks := .later }
def RewriteHeadsCardSaid : Prop := Claim7.holds Tryd.pinned (.plain (OpenSpec.ofChange rewriteHeadsSpec)) rewriteHeadsCard

/-- THE TIED CARD OF 'pursebearerlaw07.RewriteOnce'. -/
def rewriteOnceCard : Claim7 := { stood := { row := rewriteOnceRow, standIns := [], harness := (true, "d34c15e58170b90f304857e44dfe72f07f8a1258dc800362cb7fbeaf167477f3"), looks := false }, kinds := [], alts := [], laidByText := true, laidKinds := [.data, .pinned], laidTests := true, laidLooks := .later }
def RewriteOnceCardSaid : Prop := Claim7.holds Tryd.pinned (.plain (OpenSpec.ofChange rewriteOnceSpec)) rewriteOnceCard

/-- THE TIED CARD OF 'pursebearerlaw07.RewriteTurns'. -/
def rewriteTurnsCard : Claim7 := { stood := { row := rewriteTurnsRow, standIns := [], harness := (true, "d34c15e58170b90f304857e44dfe72f07f8a1258dc800362cb7fbeaf167477f3"), looks := false }, kinds := [], alts := [], laidByText := true, laidKinds := [.data, .pinned], laidTests := true, laidLooks := .later }
def RewriteTurnsCardSaid : Prop := Claim7.holds Tryd.pinned (.plain (OpenSpec.ofChange rewriteTurnsSpec)) rewriteTurnsCard

/-- THE SECOND FORM's CARD OF 'pursebearerlaw07.RewritePaths'. -/
def rewritePathsUptoCard : Claim7 := { stood := { row := rewritePathsUptoRow, standIns := [], harness := (true, "d34c15e58170b90f304857e44dfe72f07f8a1258dc800362cb7fbeaf167477f3"), looks := false }, kinds := [], alts := [], laidByText := true, laidKinds := [.data, .pinned], laidTests := true, laidLooks := .later }
def RewritePathsUptoCardSaid : Prop := Claim7.holds Tryd.pinned (.plain (OpenSpec.upto rewritePathsSpec)) rewritePathsUptoCard

/-- THE SECOND FORM's CARD OF 'pursebearerlaw07.RewriteStays'. -/
def rewriteStaysUptoCard : Claim7 := { stood := { row := rewriteStaysUptoRow, standIns := [], harness := (true, "d34c15e58170b90f304857e44dfe72f07f8a1258dc800362cb7fbeaf167477f3"), looks := false }, kinds := [], alts := [], laidByText := true, laidKinds := [.data, .pinned], laidTests := true, laidLooks := .later }
def RewriteStaysUptoCardSaid : Prop := Claim7.holds Tryd.pinned (.plain (OpenSpec.upto rewriteStaysSpec)) rewriteStaysUptoCard

/-- THE SECOND FORM's CARD OF 'pursebearerlaw07.RewriteBack'. -/
def rewriteBackUptoCard : Claim7 := { stood := { row := rewriteBackUptoRow, standIns := [], harness := (true, "d34c15e58170b90f304857e44dfe72f07f8a1258dc800362cb7fbeaf167477f3"), looks := false }, kinds := [], alts := [], laidByText := true, laidKinds := [.data, .pinned], laidTests := true, laidLooks := .later }
def RewriteBackUptoCardSaid : Prop := Claim7.holds Tryd.pinned (.plain (OpenSpec.upto rewriteBackSpec)) rewriteBackUptoCard

/-- THE SECOND FORM's CARD OF 'pursebearerlaw07.RewriteBegins'. -/
def rewriteBeginsUptoCard : Claim7 := { stood := { row := rewriteBeginsUptoRow, standIns := [], harness := (true, "d34c15e58170b90f304857e44dfe72f07f8a1258dc800362cb7fbeaf167477f3"), looks := false }, kinds := [], alts := [], laidByText := true, laidKinds := [.data, .pinned], laidTests := true, laidLooks := .later }
def RewriteBeginsUptoCardSaid : Prop := Claim7.holds Tryd.pinned (.plain (OpenSpec.upto rewriteBeginsSpec)) rewriteBeginsUptoCard

/-- THE SECOND FORM's CARD OF 'pursebearerlaw07.RewriteHeads'. -/
def rewriteHeadsUptoCard : Claim7 := { stood := { row := rewriteHeadsUptoRow, standIns := [], harness := (true, "d34c15e58170b90f304857e44dfe72f07f8a1258dc800362cb7fbeaf167477f3"), looks := false }, kinds := [], alts := [], laidByText := true, laidKinds := [.data, .pinned], laidTests := true, laidLooks := .later }
def RewriteHeadsUptoCardSaid : Prop := Claim7.holds Tryd.pinned (.plain (OpenSpec.upto rewriteHeadsSpec)) rewriteHeadsUptoCard

/-- THE SECOND FORM's CARD OF 'pursebearerlaw07.RewriteOnce'. -/
def rewriteOnceUptoCard : Claim7 := { stood := { row := rewriteOnceUptoRow, standIns := [], harness := (true, "d34c15e58170b90f304857e44dfe72f07f8a1258dc800362cb7fbeaf167477f3"), looks := false }, kinds := [], alts := [], laidByText := true, laidKinds := [.data, .pinned], laidTests := true, laidLooks := .later }
def RewriteOnceUptoCardSaid : Prop := Claim7.holds Tryd.pinned (.plain (OpenSpec.upto rewriteOnceSpec)) rewriteOnceUptoCard

/-- THE SECOND FORM's CARD OF 'pursebearerlaw07.RewriteTurns'. -/
def rewriteTurnsUptoCard : Claim7 := { stood := { row := rewriteTurnsUptoRow, standIns := [], harness := (true, "d34c15e58170b90f304857e44dfe72f07f8a1258dc800362cb7fbeaf167477f3"), looks := false }, kinds := [], alts := [], laidByText := true, laidKinds := [.data, .pinned], laidTests := true, laidLooks := .later }
def RewriteTurnsUptoCardSaid : Prop := Claim7.holds Tryd.pinned (.plain (OpenSpec.upto rewriteTurnsSpec)) rewriteTurnsUptoCard
end Rows
end Go.Proofs.YtbeilgkogbcjjaaDoor
