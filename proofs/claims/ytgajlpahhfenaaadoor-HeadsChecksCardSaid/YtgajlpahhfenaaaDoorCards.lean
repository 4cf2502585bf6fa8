/-
  DERIVED. GIVEN WITH THE SEED: THE CARDS: each row of YtgajlpahhfenaaaDoorRows.lean that lists a variable, with what it lists TIED to the program's text (the seventh form; the later family's looks); each row that meets fmt, with fmt's text TOLD by the authors' own Lean function (tested against real Go, not proved from fmt's source: count such statements apart). THE CARD IS WHAT COUNTS. Prove the row's statement (the work); the ties are given (YtgajlpahhfenaaaDoorTie.lean); close each card by the builder's one call (the guide's Derived/Test/ToyasCard.lean, 'card_holds'). Laid BY PROGRAM, IN A SANDBOX (cutbox-door.mjs). By AI agents, Wed Nov 11 2026. No macro, syntax, notation, axiom, sorry.
-/
import Derived.Test.YtgajlpahhfenaaaDoorRows
import GoSem.ClaimSeven
namespace Go.Proofs.YtgajlpahhfenaaaDoor
namespace Rows

/-- THE TIED CARD OF 'pursebearerlaw04.HeadsChecks'. -/
def headsChecksCard : Claim7 := { stood := { row := headsChecksRow, standIns := [], harness := (true, "141b1255effacc6efbdbfe4e10258e4726176dcedac75e5f29206476b5f335ed"), looks := false }, kinds := [], alts := [], laidByText := true, laidKinds := [.data, .data, .data], laidTests := true, laidLooks := .later }
def HeadsChecksCardSaid : Prop := Claim7.holds Tryd.pinned (.plain (OpenSpec.ofChange headsChecksSpec)) headsChecksCard

/-- THE TIED CARD OF 'pursebearerlaw04.HeadsEdges'. -/
def headsEdgesCard : Claim7 := { stood := { row := headsEdgesRow, standIns := [], harness := (true, "141b1255effacc6efbdbfe4e10258e4726176dcedac75e5f29206476b5f335ed"), looks := false }, kinds := [], alts := [], laidByText := true, laidKinds := [.data, .data, .data], laidTests := true, laidLooks := .later }
def HeadsEdgesCardSaid : Prop := Claim7.holds Tryd.pinned (.plain (OpenSpec.ofChange headsEdgesSpec)) headsEdgesCard

/-- THE TIED CARD OF 'pursebearerlaw04.HeadsSets'. -/
def headsSetsCard : Claim7 := { stood := { row := headsSetsRow, standIns := [], harness := (true, "141b1255effacc6efbdbfe4e10258e4726176dcedac75e5f29206476b5f335ed"), looks := false }, kinds := [], alts := [], laidByText := true, laidKinds := [.data, .data, .data], laidTests := true, laidLooks := .later }
def HeadsSetsCardSaid : Prop := Claim7.holds Tryd.pinned (.plain (OpenSpec.ofChange headsSetsSpec)) headsSetsCard

/-- THE TIED CARD OF 'pursebearerlaw04.HeadsRoom'. -/
def headsRoomCard : Claim7 := { stood := { row := headsRoomRow, standIns := [], harness := (true, "141b1255effacc6efbdbfe4e10258e4726176dcedac75e5f29206476b5f335ed"), looks := false }, kinds := [], alts := [], laidByText := true, laidKinds := [.data, .data, .data], laidTests := true, laidLooks := .later }
def HeadsRoomCardSaid : Prop := Claim7.holds Tryd.pinned (.plain (OpenSpec.ofChange headsRoomSpec)) headsRoomCard

/-- THE TIED CARD OF 'pursebearerlaw04.HeadsOwns'. -/
def headsOwnsCard : Claim7 := { stood := { row := headsOwnsRow, standIns := [], harness := (true, "141b1255effacc6efbdbfe4e10258e4726176dcedac75e5f29206476b5f335ed"), looks := false }, kinds := [], alts := [], laidByText := true, laidKinds := [.data, .data, .data], laidTests := true, laidLooks := .later }
def HeadsOwnsCardSaid : Prop := Claim7.holds Tryd.pinned (.plain (OpenSpec.ofChange headsOwnsSpec)) headsOwnsCard

/-- THE TIED CARD OF 'pursebearerlaw04.HeadsPrints'. -/
def headsPrintsCard : Claim7 := { stood := { row := headsPrintsRow, standIns := [], harness := (true, "141b1255effacc6efbdbfe4e10258e4726176dcedac75e5f29206476b5f335ed"), looks := false }, kinds := [], alts := [], laidByText := true, laidKinds := [.data, .data, .data], laidTests := true, laidLooks := .later }
def HeadsPrintsCardSaid : Prop := Claim7.holds Tryd.pinned (.plain (OpenSpec.ofChange headsPrintsSpec)) headsPrintsCard

/-- THE TIED CARD OF 'pursebearerlaw04.HeadsOne'. -/
def headsOneCard : Claim7 := { stood := { row := headsOneRow, standIns := [], harness := (true, "141b1255effacc6efbdbfe4e10258e4726176dcedac75e5f29206476b5f335ed"), looks := false }, kinds := [], alts := [], laidByText := true, laidKinds := [.data, .data, .data], laidTests := true, laidLooks := .later }
def HeadsOneCardSaid : Prop := Claim7.holds Tryd.pinned (.plain (OpenSpec.ofChange headsOneSpec)) headsOneCard

/-- THE TIED CARD OF 'pursebearerlaw04.HeadsTurns'. -/
def headsTurnsCard : Claim7 := { stood := { row := headsTurnsRow, standIns := [], harness := (true, "141b1255effacc6efbdbfe4e10258e4726176dcedac75e5f29206476b5f335ed"), looks := false }, kinds := [], alts := [], laidByText := true, laidKinds := [.data, .data, .data], laidTests := true, laidLooks := .later }
def HeadsTurnsCardSaid : Prop := Claim7.holds Tryd.pinned (.plain (OpenSpec.ofChange headsTurnsSpec)) headsTurnsCard

/-- THE TIED CARD OF 'pursebearerlaw04.HeadsDrops'. -/
def headsDropsCard : Claim7 := { stood := { row := headsDropsRow, standIns := [], harness := (true, "141b1255effacc6efbdbfe4e10258e4726176dcedac75e5f29206476b5f335ed"), looks := false }, kinds := [], alts := [], laidByText := true, laidKinds := [.data, .data, .data], laidTests := true, laidLooks := .later }
def HeadsDropsCardSaid : Prop := Claim7.holds Tryd.pinned (.plain (OpenSpec.ofChange headsDropsSpec)) headsDropsCard

/-- THE SECOND FORM's CARD OF 'pursebearerlaw04.HeadsChecks'. -/
def headsChecksUptoCard : Claim7 := { stood := { row := headsChecksUptoRow, standIns := [], harness := (true, "141b1255effacc6efbdbfe4e10258e4726176dcedac75e5f29206476b5f335ed"), looks := false }, kinds := [], alts := [], laidByText := true, laidKinds := [.data, .data, .data], laidTests := true, laidLooks := .later }
def HeadsChecksUptoCardSaid : Prop := Claim7.holds Tryd.pinned (.plain (OpenSpec.upto headsChecksSpec)) headsChecksUptoCard

/-- THE SECOND FORM's CARD OF 'pursebearerlaw04.HeadsEdges'. -/
def headsEdgesUptoCard : Claim7 := { stood := { row := headsEdgesUptoRow, standIns := [], harness := (true, "141b1255effacc6efbdbfe4e10258e4726176dcedac75e5f29206476b5f335ed"), looks := false }, kinds := [], alts := [], laidByText := true, laidKinds := [.data, .data, .data], laidTests := true, laidLooks := .later }
def HeadsEdgesUptoCardSaid : Prop := Claim7.holds Tryd.pinned (.plain (OpenSpec.upto headsEdgesSpec)) headsEdgesUptoCard

/-- THE SECOND FORM's CARD OF 'pursebearerlaw04.HeadsSets'. -/
def headsSetsUptoCard : Claim7 := { stood := { row := headsSetsUptoRow, standIns := [], harness := (true, "141b1255effacc6efbdbfe4e10258e4726176dcedac75e5f29206476b5f335ed"), looks := false }, kinds := [], alts := [], laidByText := true, laidKinds := [.data, .data, .data], laidTests := true, laidLooks := .later }
def HeadsSetsUptoCardSaid : Prop := Claim7.holds Tryd.pinned (.plain (OpenSpec.upto headsSetsSpec)) headsSetsUptoCard

/-- THE SECOND FORM's CARD OF 'pursebearerlaw04.HeadsRoom'. -/
def headsRoomUptoCard : Claim7 := { stood := { row := headsRoomUptoRow, standIns := [], harness := (true, "141b1255effacc6efbdbfe4e10258e4726176dcedac75e5f29206476b5f335ed"), looks := false }, kinds := [], alts := [], laidByText := true, laidKinds := [.data, .data, .data], laidTests := true, laidLooks := .later }
def HeadsRoomUptoCardSaid : Prop := Claim7.holds Tryd.pinned (.plain (OpenSpec.upto headsRoomSpec)) headsRoomUptoCard

/-- THE SECOND FORM's CARD OF 'pursebearerlaw04.HeadsOwns'. -/
def headsOwnsUptoCard : Claim7 := { stood := { row := headsOwnsUptoRow, standIns := [], harness := (true, "141b1255effacc6efbdbfe4e10258e4726176dcedac75e5f29206476b5f335ed"), looks := false }, kinds := [], alts := [], laidByText := true, laidKinds := [.data, .data, .data], laidTests := true, laidLooks := .later }
def HeadsOwnsUptoCardSaid : Prop := Claim7.holds Tryd.pinned (.plain (OpenSpec.upto headsOwnsSpec)) headsOwnsUptoCard

/-- THE SECOND FORM's CARD OF 'pursebearerlaw04.HeadsPrints'. -/
def headsPrintsUptoCard : Claim7 := { stood := { row := headsPrintsUptoRow, standIns := [], harness := (true, "141b1255effacc6efbdbfe4e10258e4726176dcedac75e5f29206476b5f335ed"), looks := false }, kinds := [], alts := [], laidByText := true, laidKinds := [.data, .data, .data], laidTests := true, laidLooks := .later }
def HeadsPrintsUptoCardSaid : Prop := Claim7.holds Tryd.pinned (.plain (OpenSpec.upto headsPrintsSpec)) headsPrintsUptoCard

/-- THE SECOND FORM's CARD OF 'pursebearerlaw04.HeadsOne'. -/
def headsOneUptoCard : Claim7 := { stood := { row := headsOneUptoRow, standIns := [], harness := (true, "141b1255effacc6efbdbfe4e10258e4726176dcedac75e5f29206476b5f335ed"), looks := false }, kinds := [], alts := [], laidByText := true, laidKinds := [.data, .data, .data], laidTests := true, laidLooks := .later }
def HeadsOneUptoCardSaid : Prop := Claim7.holds Tryd.pinned (.plain (OpenSpec.upto headsOneSpec)) headsOneUptoCard

/-- THE SECOND FORM's CARD OF 'pursebearerlaw04.HeadsTurns'. -/
def headsTurnsUptoCard : Claim7 := { stood := { row := headsTurnsUptoRow, standIns := [], harness := (true, "141b1255effacc6efbdbfe4e10258e4726176dcedac75e5f29206476b5f335ed"), looks := false }, kinds := [], alts := [], laidByText := true, laidKinds := [.data, .data, .data], laidTests := true, laidLooks := .later }
def HeadsTurnsUptoCardSaid : Prop := Claim7.holds Tryd.pinned (.plain (OpenSpec.upto headsTurnsSpec)) headsTurnsUptoCard

/-- THE SECOND FORM's CARD OF 'pursebearerlaw04.HeadsDrops'. -/
def headsDropsUptoCard : Claim7 := { stood := { row := headsDropsUptoRow, standIns := [], harness := (true, "141b1255effacc6efbdbfe4e10258e4726176dcedac75e5f29206476b5f335ed"), looks := false }, kinds := [], alts := [], laidByText := true, laidKinds := [.data, .data, .data], laidTests := true, laidLooks := .later }
def HeadsDropsUptoCardSaid : Prop := Claim7.holds Tryd.pinned (.plain (OpenSpec.upto headsDropsSpec)) headsDropsUptoCard
end Rows
end Go.Proofs.YtgajlpahhfenaaaDoor
