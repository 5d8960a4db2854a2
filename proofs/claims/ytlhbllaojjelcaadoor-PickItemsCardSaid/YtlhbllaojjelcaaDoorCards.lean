/-
  DERIVED. GIVEN WITH THE SEED: THE CARDS: each row of YtlhbllaojjelcaaDoorRows.lean that lists a variable, with what it lists TIED to the program's text (the seventh form; the later family's looks); each row that meets fmt, with fmt's text TOLD by the authors' own Lean function (tested against real Go, not proved from fmt's source: count such statements apart). THE CARD IS WHAT COUNTS. Prove the row's statement (the work); the ties are given (YtlhbllaojjelcaaDoorTie.lean); close each card by the builder's one call (the guide's Derived/Test/ToyasCard.lean, 'card_holds'). Laid BY PROGRAM, IN A SANDBOX (cutbox-door.mjs). By AI agents, Wed Nov 11 2026. No macro, syntax, notation, axiom, sorry.
-/
import Derived.Test.YtlhbllaojjelcaaDoorRows
import GoSem.ClaimSeven
namespace Go.Proofs.YtlhbllaojjelcaaDoor
namespace Rows

/-- THE TIED CARD OF 'darninglaw22.PickItems'. -/
def pickItemsCard : Claim7 := { stood := { row := pickItemsRow, standIns := [], harness := (true, "a0e3c8bafd22a0691d0fef373cdc9c65d00503af4fd7091dc81326bcdf791c39"), looks := false }, kinds := [], alts := [], laidByText := true, laidKinds := [.data, .pinned], laidTests := true, laidLooks := .later }
def PickItemsCardSaid : Prop := Claim7.holds Tryd.pinned (.plain (OpenSpec.ofChange pickItemsSpec)) pickItemsCard

/-- THE SECOND FORM's CARD OF 'darninglaw22.PickItems'. -/
def pickItemsUptoCard : Claim7 := { stood := { row := pickItemsUptoRow, standIns := [], harness := (true, "a0e3c8bafd22a0691d0fef373cdc9c65d00503af4fd7091dc81326bcdf791c39"), looks := false }, kinds := [], alts := [], laidByText := true, laidKinds := [.data, .pinned], laidTests := true, laidLooks := .later }
def PickItemsUptoCardSaid : Prop := Claim7.holds Tryd.pinned (.plain (OpenSpec.upto pickItemsSpec)) pickItemsUptoCard
end Rows
end Go.Proofs.YtlhbllaojjelcaaDoor
