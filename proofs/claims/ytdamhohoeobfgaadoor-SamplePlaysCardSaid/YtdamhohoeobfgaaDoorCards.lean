/-
  DERIVED. GIVEN WITH THE SEED: THE CARDS: each row of YtdamhohoeobfgaaDoorRows.lean that lists a variable, with what it lists TIED to the program's text (the seventh form; the later family's looks); each row that meets fmt, with fmt's text TOLD by the authors' own Lean function (tested against real Go, not proved from fmt's source: count such statements apart). THE CARD IS WHAT COUNTS. Prove the row's statement (the work); the ties are given (YtdamhohoeobfgaaDoorTie.lean); close each card by the builder's one call (the guide's Derived/Test/ToyasCard.lean, 'card_holds'). Laid BY PROGRAM, IN A SANDBOX (cutbox-door.mjs). By AI agents, Wed Nov 11 2026. No macro, syntax, notation, axiom, sorry.
-/
import Derived.Test.YtdamhohoeobfgaaDoorRows
import GoSem.ClaimSeven
namespace Go.Proofs.YtdamhohoeobfgaaDoor
namespace Rows

/-- THE TIED CARD OF 'pursebearerlaw29.SampleHeads'. -/
def sampleHeadsCard : Claim7 := { stood := { row := sampleHeadsRow, standIns := [], harness := (true, "756fe5d75ed8a30b3711cd27f01ddb44f9aa6f54419f421ffcfd561be2f49b6e"), looks := false }, kinds := [], alts := [], laidByText := true, laidKinds := [.data, .data, .data], laidTests := true, laidLooks := .later }
def SampleHeadsCardSaid : Prop := Claim7.holds Tryd.pinned (.plain (OpenSpec.ofChange sampleHeadsSpec)) sampleHeadsCard

/-- THE TIED CARD OF 'pursebearerlaw29.SamplePlays'. -/
def samplePlaysCard : Claim7 := { stood := { row := samplePlaysRow, standIns := [], harness := (true, "756fe5d75ed8a30b3711cd27f01ddb44f9aa6f54419f421ffcfd561be2f49b6e"), looks := false }, kinds := [], alts := [], laidByText := true, laidKinds := [.data, .data, .data], laidTests := true, laidLooks := .later }
def SamplePlaysCardSaid : Prop := Claim7.holds Tryd.pinned (.plain (OpenSpec.ofChange samplePlaysSpec)) samplePlaysCard

/-- THE TIED CARD OF 'pursebearerlaw29.SampleOnce'. -/
def sampleOnceCard : Claim7 := { stood := { row := sampleOnceRow, standIns := [], harness := (true, "756fe5d75ed8a30b3711cd27f01ddb44f9aa6f54419f421ffcfd561be2f49b6e"), looks := false }, kinds := [], alts := [], laidByText := true, laidKinds := [.data, .data, .data], laidTests := true, laidLooks := .later }
def SampleOnceCardSaid : Prop := Claim7.holds Tryd.pinned (.plain (OpenSpec.ofChange sampleOnceSpec)) sampleOnceCard

/-- THE TIED CARD OF 'pursebearerlaw29.SampleMore'. -/
def sampleMoreCard : Claim7 := { stood := { row := sampleMoreRow, standIns := [], harness := (true, "756fe5d75ed8a30b3711cd27f01ddb44f9aa6f54419f421ffcfd561be2f49b6e"), looks := false }, kinds := [], alts := [], laidByText := true, laidKinds := [.data, .data, .data], laidTests := true, laidLooks := .later }
def SampleMoreCardSaid : Prop := Claim7.holds Tryd.pinned (.plain (OpenSpec.ofChange sampleMoreSpec)) sampleMoreCard

/-- THE TIED CARD OF 'pursebearerlaw29.SampleShare'. -/
def sampleShareCard : Claim7 := { stood := { row := sampleShareRow, standIns := [], harness := (true, "756fe5d75ed8a30b3711cd27f01ddb44f9aa6f54419f421ffcfd561be2f49b6e"), looks := false }, kinds := [], alts := [], laidByText := true, laidKinds := [.data, .data, .data], laidTests := true, laidLooks := .later }
def SampleShareCardSaid : Prop := Claim7.holds Tryd.pinned (.plain (OpenSpec.ofChange sampleShareSpec)) sampleShareCard

/-- THE TIED CARD OF 'pursebearerlaw29.SampleFails'. -/
def sampleFailsCard : Claim7 := { stood := { row := sampleFailsRow, standIns := [], harness := (true, "756fe5d75ed8a30b3711cd27f01ddb44f9aa6f54419f421ffcfd561be2f49b6e"), looks := false }, kinds := [], alts := [], laidByText := true, laidKinds := [.data, .data, .data], laidTests := true, laidLooks := .later }
def SampleFailsCardSaid : Prop := Claim7.holds Tryd.pinned (.plain (OpenSpec.ofChange sampleFailsSpec)) sampleFailsCard

/-- THE TIED CARD OF 'pursebearerlaw29.SampleRequests'. -/
def sampleRequestsCard : Claim7 := { stood := { row := sampleRequestsRow, standIns := [], harness := (true, "756fe5d75ed8a30b3711cd27f01ddb44f9aa6f54419f421ffcfd561be2f49b6e"), looks := false }, kinds := [], alts := [], laidByText := true, laidKinds := [.data, .data, .data], laidTests := true, laidLooks := .later }
def SampleRequestsCardSaid : Prop := Claim7.holds Tryd.pinned (.plain (OpenSpec.ofChange sampleRequestsSpec)) sampleRequestsCard

/-- THE SECOND FORM's CARD OF 'pursebearerlaw29.SampleHeads'. -/
def sampleHeadsUptoCard : Claim7 := { stood := { row := sampleHeadsUptoRow, standIns := [], harness := (true, "756fe5d75ed8a30b3711cd27f01ddb44f9aa6f54419f421ffcfd561be2f49b6e"), looks := false }, kinds := [], alts := [], laidByText := true, laidKinds := [.data, .data, .data], laidTests := true, laidLooks := .later }
def SampleHeadsUptoCardSaid : Prop := Claim7.holds Tryd.pinned (.plain (OpenSpec.upto sampleHeadsSpec)) sampleHeadsUptoCard

/-- THE SECOND FORM's CARD OF 'pursebearerlaw29.SamplePlays'. -/
def samplePlaysUptoCard : Claim7 := { stood := { row := samplePlaysUptoRow, standIns := [], harness := (true, "756fe5d75ed8a30b3711cd27f01ddb44f9aa6f54419f421ffcfd561be2f49b6e"), looks := false }, kinds := [], alts := [], laidByText := true, laidKinds := [.data, .data, .data], laidTests := true, laidLooks := .later }
def SamplePlaysUptoCardSaid : Prop := Claim7.holds Tryd.pinned (.plain (OpenSpec.upto samplePlaysSpec)) samplePlaysUptoCard

/-- THE SECOND FORM's CARD OF 'pursebearerlaw29.SampleOnce'. -/
def sampleOnceUptoCard : Claim7 := { stood := { row := sampleOnceUptoRow, standIns := [], harness := (true, "756fe5d75ed8a30b3711cd27f01ddb44f9aa6f54419f421ffcfd561be2f49b6e"), looks := false }, kinds := [], alts := [], laidByText := true, laidKinds := [.data, .data, .data], laidTests := true, laidLooks := .later }
def SampleOnceUptoCardSaid : Prop := Claim7.holds Tryd.pinned (.plain (OpenSpec.upto sampleOnceSpec)) sampleOnceUptoCard

/-- THE SECOND FORM's CARD OF 'pursebearerlaw29.SampleMore'. -/
def sampleMoreUptoCard : Claim7 := { stood := { row := sampleMoreUptoRow, standIns := [], harness := (true, "756fe5d75ed8a30b3711cd27f01ddb44f9aa6f54419f421ffcfd561be2f49b6e"), looks := false }, kinds := [], alts := [], laidByText := true, laidKinds := [.data, .data, .data], laidTests := true, laidLooks := .later }
def SampleMoreUptoCardSaid : Prop := Claim7.holds Tryd.pinned (.plain (OpenSpec.upto sampleMoreSpec)) sampleMoreUptoCard

/-- THE SECOND FORM's CARD OF 'pursebearerlaw29.SampleShare'. -/
def sampleShareUptoCard : Claim7 := { stood := { row := sampleShareUptoRow, standIns := [], harness := (true, "756fe5d75ed8a30b3711cd27f01ddb44f9aa6f54419f421ffcfd561be2f49b6e"), looks := false }, kinds := [], alts := [], laidByText := true, laidKinds := [.data, .data, .data], laidTests := true, laidLooks := .later }
def SampleShareUptoCardSaid : Prop := Claim7.holds Tryd.pinned (.plain (OpenSpec.upto sampleShareSpec)) sampleShareUptoCard

/-- THE SECOND FORM's CARD OF 'pursebearerlaw29.SampleFails'. -/
def sampleFailsUptoCard : Claim7 := { stood := { row := sampleFailsUptoRow, standIns := [], harness := (true, "756fe5d75ed8a30b3711cd27f01ddb44f9aa6f54419f421ffcfd561be2f49b6e"), looks := false }, kinds := [], alts := [], laidByText := true, laidKinds := [.data, .data, .data], laidTests := true, laidLooks := .later }
def SampleFailsUptoCardSaid : Prop := Claim7.holds Tryd.pinned (.plain (OpenSpec.upto sampleFailsSpec)) sampleFailsUptoCard

/-- THE SECOND FORM's CARD OF 'pursebearerlaw29.SampleRequests'. -/
def sampleRequestsUptoCard : Claim7 := { stood := { row := sampleRequestsUptoRow, standIns := [], harness := (true, "756fe5d75ed8a30b3711cd27f01ddb44f9aa6f54419f421ffcfd561be2f49b6e"), looks := false }, kinds := [], alts := [], laidByText := true, laidKinds := [.data, .data, .data], laidTests := true, laidLooks := .later }
def SampleRequestsUptoCardSaid : Prop := Claim7.holds Tryd.pinned (.plain (OpenSpec.upto sampleRequestsSpec)) sampleRequestsUptoCard
end Rows
end Go.Proofs.YtdamhohoeobfgaaDoor
