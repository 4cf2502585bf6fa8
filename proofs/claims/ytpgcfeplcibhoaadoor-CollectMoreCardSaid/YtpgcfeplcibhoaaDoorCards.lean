/-
  DERIVED. GIVEN WITH THE SEED: THE CARDS: each row of YtpgcfeplcibhoaaDoorRows.lean that lists a variable, with what it lists TIED to the program's text (the seventh form; the later family's looks); each row that meets fmt, with fmt's text TOLD by the authors' own Lean function (tested against real Go, not proved from fmt's source: count such statements apart). THE CARD IS WHAT COUNTS. Prove the row's statement (the work); the ties are given (YtpgcfeplcibhoaaDoorTie.lean); close each card by the builder's one call (the guide's Derived/Test/ToyasCard.lean, 'card_holds'). Laid BY PROGRAM, IN A SANDBOX (cutbox-door.mjs). By AI agents, Wed Nov 11 2026. No macro, syntax, notation, axiom, sorry.
-/
import Derived.Test.YtpgcfeplcibhoaaDoorRows
import GoSem.ClaimSeven
namespace Go.Proofs.YtpgcfeplcibhoaaDoor
namespace Rows

/-- THE TIED CARD OF 'pursebearerlaw30.CollectPlays'. -/
def collectPlaysCard : Claim7 := { stood := { row := collectPlaysRow, standIns := [], harness := (true, "c448e1a9ceb0b5904fb2fed0b825877a87f685af09b35cd3a968b127817c7506"), looks := false }, kinds := [], alts := [], laidByText := true, laidKinds := [.data, .data, .data], laidTests := true, laidLooks := .later }
def CollectPlaysCardSaid : Prop := Claim7.holds Tryd.pinned (.plain (OpenSpec.ofChange collectPlaysSpec)) collectPlaysCard

/-- THE TIED CARD OF 'pursebearerlaw30.CollectLate'. -/
def collectLateCard : Claim7 := { stood := { row := collectLateRow, standIns := [], harness := (true, "c448e1a9ceb0b5904fb2fed0b825877a87f685af09b35cd3a968b127817c7506"), looks := false }, kinds := [], alts := [], laidByText := true, laidKinds := [.data, .data, .data], laidTests := true, laidLooks := .later }
def CollectLateCardSaid : Prop := Claim7.holds Tryd.pinned (.plain (OpenSpec.ofChange collectLateSpec)) collectLateCard

/-- THE TIED CARD OF 'pursebearerlaw30.CollectForest'. -/
def collectForestCard : Claim7 := { stood := { row := collectForestRow, standIns := [], harness := (true, "c448e1a9ceb0b5904fb2fed0b825877a87f685af09b35cd3a968b127817c7506"), looks := false }, kinds := [], alts := [], laidByText := true, laidKinds := [.data, .data, .data], laidTests := true, laidLooks := .later }
def CollectForestCardSaid : Prop := Claim7.holds Tryd.pinned (.plain (OpenSpec.ofChange collectForestSpec)) collectForestCard

/-- THE TIED CARD OF 'pursebearerlaw30.CollectMissing'. -/
def collectMissingCard : Claim7 := { stood := { row := collectMissingRow, standIns := [], harness := (true, "c448e1a9ceb0b5904fb2fed0b825877a87f685af09b35cd3a968b127817c7506"), looks := false }, kinds := [], alts := [], laidByText := true, laidKinds := [.data, .data, .data], laidTests := true, laidLooks := .later }
def CollectMissingCardSaid : Prop := Claim7.holds Tryd.pinned (.plain (OpenSpec.ofChange collectMissingSpec)) collectMissingCard

/-- THE TIED CARD OF 'pursebearerlaw30.CollectMore'. -/
def collectMoreCard : Claim7 := { stood := { row := collectMoreRow, standIns := [], harness := (true, "c448e1a9ceb0b5904fb2fed0b825877a87f685af09b35cd3a968b127817c7506"), looks := false }, kinds := [], alts := [], laidByText := true, laidKinds := [.data, .data, .data], laidTests := true, laidLooks := .later }
def CollectMoreCardSaid : Prop := Claim7.holds Tryd.pinned (.plain (OpenSpec.ofChange collectMoreSpec)) collectMoreCard

/-- THE TIED CARD OF 'pursebearerlaw30.CollectWhole'. -/
def collectWholeCard : Claim7 := { stood := { row := collectWholeRow, standIns := [], harness := (true, "c448e1a9ceb0b5904fb2fed0b825877a87f685af09b35cd3a968b127817c7506"), looks := false }, kinds := [], alts := [], laidByText := true, laidKinds := [.data, .data, .data], laidTests := true, laidLooks := .later }
def CollectWholeCardSaid : Prop := Claim7.holds Tryd.pinned (.plain (OpenSpec.ofChange collectWholeSpec)) collectWholeCard

/-- THE TIED CARD OF 'pursebearerlaw30.CollectApart'. -/
def collectApartCard : Claim7 := { stood := { row := collectApartRow, standIns := [], harness := (true, "c448e1a9ceb0b5904fb2fed0b825877a87f685af09b35cd3a968b127817c7506"), looks := false }, kinds := [], alts := [], laidByText := true, laidKinds := [.data, .data, .data], laidTests := true, laidLooks := .later }
def CollectApartCardSaid : Prop := Claim7.holds Tryd.pinned (.plain (OpenSpec.ofChange collectApartSpec)) collectApartCard

/-- THE SECOND FORM's CARD OF 'pursebearerlaw30.CollectPlays'. -/
def collectPlaysUptoCard : Claim7 := { stood := { row := collectPlaysUptoRow, standIns := [], harness := (true, "c448e1a9ceb0b5904fb2fed0b825877a87f685af09b35cd3a968b127817c7506"), looks := false }, kinds := [], alts := [], laidByText := true, laidKinds := [.data, .data, .data], laidTests := true, laidLooks := .later }
def CollectPlaysUptoCardSaid : Prop := Claim7.holds Tryd.pinned (.plain (OpenSpec.upto collectPlaysSpec)) collectPlaysUptoCard

/-- THE SECOND FORM's CARD OF 'pursebearerlaw30.CollectLate'. -/
def collectLateUptoCard : Claim7 := { stood := { row := collectLateUptoRow, standIns := [], harness := (true, "c448e1a9ceb0b5904fb2fed0b825877a87f685af09b35cd3a968b127817c7506"), looks := false }, kinds := [], alts := [], laidByText := true, laidKinds := [.data, .data, .data], laidTests := true, laidLooks := .later }
def CollectLateUptoCardSaid : Prop := Claim7.holds Tryd.pinned (.plain (OpenSpec.upto collectLateSpec)) collectLateUptoCard

/-- THE SECOND FORM's CARD OF 'pursebearerlaw30.CollectForest'. -/
def collectForestUptoCard : Claim7 := { stood := { row := collectForestUptoRow, standIns := [], harness := (true, "c448e1a9ceb0b5904fb2fed0b825877a87f685af09b35cd3a968b127817c7506"), looks := false }, kinds := [], alts := [], laidByText := true, laidKinds := [.data, .data, .data], laidTests := true, laidLooks := .later }
def CollectForestUptoCardSaid : Prop := Claim7.holds Tryd.pinned (.plain (OpenSpec.upto collectForestSpec)) collectForestUptoCard

/-- THE SECOND FORM's CARD OF 'pursebearerlaw30.CollectMissing'. -/
def collectMissingUptoCard : Claim7 := { stood := { row := collectMissingUptoRow, standIns := [], harness := (true, "c448e1a9ceb0b5904fb2fed0b825877a87f685af09b35cd3a968b127817c7506"), looks := false }, kinds := [], alts := [], laidByText := true, laidKinds := [.data, .data, .data], laidTests := true, laidLooks := .later }
def CollectMissingUptoCardSaid : Prop := Claim7.holds Tryd.pinned (.plain (OpenSpec.upto collectMissingSpec)) collectMissingUptoCard

/-- THE SECOND FORM's CARD OF 'pursebearerlaw30.CollectMore'. -/
def collectMoreUptoCard : Claim7 := { stood := { row := collectMoreUptoRow, standIns := [], harness := (true, "c448e1a9ceb0b5904fb2fed0b825877a87f685af09b35cd3a968b127817c7506"), looks := false }, kinds := [], alts := [], laidByText := true, laidKinds := [.data, .data, .data], laidTests := true, laidLooks := .later }
def CollectMoreUptoCardSaid : Prop := Claim7.holds Tryd.pinned (.plain (OpenSpec.upto collectMoreSpec)) collectMoreUptoCard

/-- THE SECOND FORM's CARD OF 'pursebearerlaw30.CollectWhole'. -/
def collectWholeUptoCard : Claim7 := { stood := { row := collectWholeUptoRow, standIns := [], harness := (true, "c448e1a9ceb0b5904fb2fed0b825877a87f685af09b35cd3a968b127817c7506"), looks := false }, kinds := [], alts := [], laidByText := true, laidKinds := [.data, .data, .data], laidTests := true, laidLooks := .later }
def CollectWholeUptoCardSaid : Prop := Claim7.holds Tryd.pinned (.plain (OpenSpec.upto collectWholeSpec)) collectWholeUptoCard

/-- THE SECOND FORM's CARD OF 'pursebearerlaw30.CollectApart'. -/
def collectApartUptoCard : Claim7 := { stood := { row := collectApartUptoRow, standIns := [], harness := (true, "c448e1a9ceb0b5904fb2fed0b825877a87f685af09b35cd3a968b127817c7506"), looks := false }, kinds := [], alts := [], laidByText := true, laidKinds := [.data, .data, .data], laidTests := true, laidLooks := .later }
def CollectApartUptoCardSaid : Prop := Claim7.holds Tryd.pinned (.plain (OpenSpec.upto collectApartSpec)) collectApartUptoCard
end Rows
end Go.Proofs.YtpgcfeplcibhoaaDoor
