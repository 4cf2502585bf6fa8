/-
  DERIVED. GIVEN WITH THE SEED: THE CARDS: each row of YtnmcdecdgcnmbaaDoorRows.lean that lists a variable, with what it lists TIED to the program's text (the seventh form; the later family's looks); each row that meets fmt, with fmt's text TOLD by the authors' own Lean function (tested against real Go, not proved from fmt's source: count such statements apart). THE CARD IS WHAT COUNTS. Prove the row's statement (the work); the ties are given (YtnmcdecdgcnmbaaDoorTie.lean); close each card by the builder's one call (the guide's Derived/Test/ToyasCard.lean, 'card_holds'). Laid BY PROGRAM, IN A SANDBOX (cutbox-door.mjs). By AI agents, Wed Nov 11 2026. No macro, syntax, notation, axiom, sorry.
-/
import Derived.Test.YtnmcdecdgcnmbaaDoorRows
import GoSem.ClaimSeven
namespace Go.Proofs.YtnmcdecdgcnmbaaDoor
namespace Rows

/-- THE TIED CARD OF 'pursebearerlaw28.TraceMakes'. -/
def traceMakesCard : Claim7 := { stood := { row := traceMakesRow, standIns := [], harness := (true, "4a92e204cec20909fdbd8829aea8ef20f3ca51309e89db5d620557107bd430e4"), looks := false }, kinds := [], alts := [], laidByText := true, laidKinds := [.data, .data, .data], laidTests := true, laidLooks := .later }
def TraceMakesCardSaid : Prop := Claim7.holds Tryd.pinned (.plain (OpenSpec.ofChange traceMakesSpec)) traceMakesCard

/-- THE SECOND FORM's CARD OF 'pursebearerlaw28.TraceMakes'. -/
def traceMakesUptoCard : Claim7 := { stood := { row := traceMakesUptoRow, standIns := [], harness := (true, "4a92e204cec20909fdbd8829aea8ef20f3ca51309e89db5d620557107bd430e4"), looks := false }, kinds := [], alts := [], laidByText := true, laidKinds := [.data, .data, .data], laidTests := true, laidLooks := .later }
def TraceMakesUptoCardSaid : Prop := Claim7.holds Tryd.pinned (.plain (OpenSpec.upto traceMakesSpec)) traceMakesUptoCard
end Rows
end Go.Proofs.YtnmcdecdgcnmbaaDoor
