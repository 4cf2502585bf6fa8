/-
  DERIVED. GIVEN WITH THE SEED: THE CARDS: each row of YtjehdldjfnaniaaDoorRows.lean that lists a variable, with what it lists TIED to the program's text (the seventh form; the later family's looks); each row that meets fmt, with fmt's text TOLD by the authors' own Lean function (tested against real Go, not proved from fmt's source: count such statements apart). THE CARD IS WHAT COUNTS. Prove the row's statement (the work); the ties are given (YtjehdldjfnaniaaDoorTie.lean); close each card by the builder's one call (the guide's Derived/Test/ToyasCard.lean, 'card_holds'). Laid BY PROGRAM, IN A SANDBOX (cutbox-door.mjs). By AI agents, Wed Nov 11 2026. No macro, syntax, notation, axiom, sorry.
-/
import Derived.Test.YtjehdldjfnaniaaDoorRows
import GoSem.ClaimSeven
namespace Go.Proofs.YtjehdldjfnaniaaDoor
namespace Rows

/-- THE TIED CARD OF 'pursebearerlaw05.MatchRow'. -/
def matchRowCard : Claim7 := { stood := { row := matchRowRow, standIns := [], harness := (true, "b747811dbf5cd0cb353482dce15f22bc72c2d0170e9e6b93d25942c6592fa84c"), looks := false }, kinds := [], alts := [], laidByText := true, laidKinds := [.data, .pinned], laidTests := true, laidLooks := .later }
def MatchRowCardSaid : Prop := Claim7.holds Tryd.pinned (.plain (OpenSpec.ofChange matchRowSpec)) matchRowCard

/-- THE TIED CARD OF 'pursebearerlaw05.MatchOrder'. -/
def matchOrderCard : Claim7 := { stood := { row := matchOrderRow, standIns := [], harness := (true, "b747811dbf5cd0cb353482dce15f22bc72c2d0170e9e6b93d25942c6592fa84c"), looks := false }, kinds := [], alts := [], laidByText := true, laidKinds := [.data, .pinned], laidTests := true, laidLooks := .later }
def MatchOrderCardSaid : Prop := Claim7.holds Tryd.pinned (.plain (OpenSpec.ofChange matchOrderSpec)) matchOrderCard

/-- THE TIED CARD OF 'pursebearerlaw05.MatchBegins'. -/
def matchBeginsCard : Claim7 := { stood := { row := matchBeginsRow, standIns := [], harness := (true, "b747811dbf5cd0cb353482dce15f22bc72c2d0170e9e6b93d25942c6592fa84c"), looks := false }, kinds := [], alts := [], laidByText := true, laidKinds := [.data, .pinned], laidTests := true, laidLooks := .later }
def MatchBeginsCardSaid : Prop := Claim7.holds Tryd.pinned (.plain (OpenSpec.ofChange matchBeginsSpec)) matchBeginsCard

/-- THE TIED CARD OF 'pursebearerlaw05.MatchMore'. -/
def matchMoreCard : Claim7 := { stood := { row := matchMoreRow, standIns := [], harness := (true, "b747811dbf5cd0cb353482dce15f22bc72c2d0170e9e6b93d25942c6592fa84c"), looks := false }, kinds := [], alts := [], laidByText := true, laidKinds := [.data, .pinned], laidTests := true, laidLooks := .later }
def MatchMoreCardSaid : Prop := Claim7.holds Tryd.pinned (.plain (OpenSpec.ofChange matchMoreSpec)) matchMoreCard

/-- THE TIED CARD OF 'pursebearerlaw05.MatchPaths'. -/
def matchPathsCard : Claim7 := { stood := { row := matchPathsRow, standIns := [], harness := (true, "b747811dbf5cd0cb353482dce15f22bc72c2d0170e9e6b93d25942c6592fa84c"), looks := false }, kinds := [], alts := [], laidByText := true, laidKinds := [.data, .pinned], laidTests := true, laidLooks := .later }
def MatchPathsCardSaid : Prop := Claim7.holds Tryd.pinned (.plain (OpenSpec.ofChange matchPathsSpec)) matchPathsCard

/-- THE SECOND FORM's CARD OF 'pursebearerlaw05.MatchRow'. -/
def matchRowUptoCard : Claim7 := { stood := { row := matchRowUptoRow, standIns := [], harness := (true, "b747811dbf5cd0cb353482dce15f22bc72c2d0170e9e6b93d25942c6592fa84c"), looks := false }, kinds := [], alts := [], laidByText := true, laidKinds := [.data, .pinned], laidTests := true, laidLooks := .later }
def MatchRowUptoCardSaid : Prop := Claim7.holds Tryd.pinned (.plain (OpenSpec.upto matchRowSpec)) matchRowUptoCard

/-- THE SECOND FORM's CARD OF 'pursebearerlaw05.MatchOrder'. -/
def matchOrderUptoCard : Claim7 := { stood := { row := matchOrderUptoRow, standIns := [], harness := (true, "b747811dbf5cd0cb353482dce15f22bc72c2d0170e9e6b93d25942c6592fa84c"), looks := false }, kinds := [], alts := [], laidByText := true, laidKinds := [.data, .pinned], laidTests := true, laidLooks := .later }
def MatchOrderUptoCardSaid : Prop := Claim7.holds Tryd.pinned (.plain (OpenSpec.upto matchOrderSpec)) matchOrderUptoCard

/-- THE SECOND FORM's CARD OF 'pursebearerlaw05.MatchBegins'. -/
def matchBeginsUptoCard : Claim7 := { stood := { row := matchBeginsUptoRow, standIns := [], harness := (true, "b747811dbf5cd0cb353482dce15f22bc72c2d0170e9e6b93d25942c6592fa84c"), looks := false }, kinds := [], alts := [], laidByText := true, laidKinds := [.data, .pinned], laidTests := true, laidLooks := .later }
def MatchBeginsUptoCardSaid : Prop := Claim7.holds Tryd.pinned (.plain (OpenSpec.upto matchBeginsSpec)) matchBeginsUptoCard

/-- THE SECOND FORM's CARD OF 'pursebearerlaw05.MatchMore'. -/
def matchMoreUptoCard : Claim7 := { stood := { row := matchMoreUptoRow, standIns := [], harness := (true, "b747811dbf5cd0cb353482dce15f22bc72c2d0170e9e6b93d25942c6592fa84c"), looks := false }, kinds := [], alts := [], laidByText := true, laidKinds := [.data, .pinned], laidTests := true, laidLooks := .later }
def MatchMoreUptoCardSaid : Prop := Claim7.holds Tryd.pinned (.plain (OpenSpec.upto matchMoreSpec)) matchMoreUptoCard

/-- THE SECOND FORM's CARD OF 'pursebearerlaw05.MatchPaths'. -/
def matchPathsUptoCard : Claim7 := { stood := { row := matchPathsUptoRow, standIns := [], harness := (true, "b747811dbf5cd0cb353482dce15f22bc72c2d0170e9e6b93d25942c6592fa84c"), looks := false }, kinds := [], alts := [], laidByText := true, laidKinds := [.data, .pinned], laidTests := true, laidLooks := .later }
def MatchPathsUptoCardSaid : Prop := Claim7.holds Tryd.pinned (.plain (OpenSpec.upto matchPathsSpec)) matchPathsUptoCard
end Rows
end Go.Proofs.YtjehdldjfnaniaaDoor
