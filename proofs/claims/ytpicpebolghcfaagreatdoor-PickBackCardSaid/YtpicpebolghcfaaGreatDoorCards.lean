/-
  DERIVED. GIVEN WITH THE SEED: THE CARDS: each row of YtpicpebolghcfaaGreatDoorRows.lean that lists a variable, with what it lists TIED to the program's text (the seventh form; the later family's looks); each row that meets fmt, with fmt's text TOLD by the authors' own Lean function (tested against real Go, not proved from fmt's source: count such statements apart). THE CARD IS WHAT COUNTS. Prove the row's statement (the work); the ties are given (YtpicpebolghcfaaGreatDoorTie.lean); close each card by the builder's one call (the guide's Derived/Test/ToyasCard.lean, 'card_holds'). Laid BY PROGRAM, IN A SANDBOX (cutbox-door.mjs). By AI agents, Wed Nov 11 2026. No macro, syntax, notation, axiom, sorry.
-/
import Derived.Test.YtpicpebolghcfaaGreatDoorRows
import GoSem.ClaimSeven
namespace Go.Proofs.YtpicpebolghcfaaGreatDoor
namespace Rows

/-- THE TIED CARD OF 'darninglaw22.PickLists'. -/
def pickListsCard : Claim7 := { stood := { row := pickListsRow, standIns := [], harness := (true, "79f835b1262de371cba8379c2744bb35cf06fb16d595d968d8fd9ead20e38a49"), looks := false }, kinds := [], alts := [], laidByText := true, laidKinds := [.data, .pinned], laidTests := true, laidLooks := .later }
def PickListsCardSaid : Prop := Claim7.holds Tryz.pinned (.plain (OpenSpec.ofChange pickListsSpec)) pickListsCard

/-- THE TIED CARD OF 'darninglaw22.PickGets'. -/
def pickGetsCard : Claim7 := { stood := { row := pickGetsRow, standIns := [], harness := (true, "79f835b1262de371cba8379c2744bb35cf06fb16d595d968d8fd9ead20e38a49"), looks := false }, kinds := [], alts := [], laidByText := true, laidKinds := [.data, .pinned], laidTests := true, laidLooks := .later }
def PickGetsCardSaid : Prop := Claim7.holds Tryz.pinned (.plain (OpenSpec.ofChange pickGetsSpec)) pickGetsCard

/-- THE TIED CARD OF 'darninglaw22.PickBack'. -/
def pickBackCard : Claim7 := { stood := { row := pickBackRow, standIns := [], harness := (true, "79f835b1262de371cba8379c2744bb35cf06fb16d595d968d8fd9ead20e38a49"), looks := false }, kinds := [], alts := [], laidByText := true, laidKinds := [.data, .pinned], laidTests := true, laidLooks := .later }
def PickBackCardSaid : Prop := Claim7.holds Tryz.pinned (.plain (OpenSpec.ofChange pickBackSpec)) pickBackCard

/-- THE SECOND FORM's CARD OF 'darninglaw22.PickLists'. -/
def pickListsUptoCard : Claim7 := { stood := { row := pickListsUptoRow, standIns := [], harness := (true, "79f835b1262de371cba8379c2744bb35cf06fb16d595d968d8fd9ead20e38a49"), looks := false }, kinds := [], alts := [], laidByText := true, laidKinds := [.data, .pinned], laidTests := true, laidLooks := .later }
def PickListsUptoCardSaid : Prop := Claim7.holds Tryz.pinned (.plain (OpenSpec.upto pickListsSpec)) pickListsUptoCard

/-- THE SECOND FORM's CARD OF 'darninglaw22.PickGets'. -/
def pickGetsUptoCard : Claim7 := { stood := { row := pickGetsUptoRow, standIns := [], harness := (true, "79f835b1262de371cba8379c2744bb35cf06fb16d595d968d8fd9ead20e38a49"), looks := false }, kinds := [], alts := [], laidByText := true, laidKinds := [.data, .pinned], laidTests := true, laidLooks := .later }
def PickGetsUptoCardSaid : Prop := Claim7.holds Tryz.pinned (.plain (OpenSpec.upto pickGetsSpec)) pickGetsUptoCard

/-- THE SECOND FORM's CARD OF 'darninglaw22.PickBack'. -/
def pickBackUptoCard : Claim7 := { stood := { row := pickBackUptoRow, standIns := [], harness := (true, "79f835b1262de371cba8379c2744bb35cf06fb16d595d968d8fd9ead20e38a49"), looks := false }, kinds := [], alts := [], laidByText := true, laidKinds := [.data, .pinned], laidTests := true, laidLooks := .later }
def PickBackUptoCardSaid : Prop := Claim7.holds Tryz.pinned (.plain (OpenSpec.upto pickBackSpec)) pickBackUptoCard
end Rows
end Go.Proofs.YtpicpebolghcfaaGreatDoor
