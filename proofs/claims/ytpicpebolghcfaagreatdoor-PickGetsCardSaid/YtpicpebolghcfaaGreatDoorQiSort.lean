/- Plain words for a stable sort in place: what swaps, shifts, rotations and merges make of a list. No program is named. -/
import Derived.WalkKit

namespace Go.Proofs.YtpicpebolghcfaaGreatDoor
set_option linter.unusedVariables false

section
variable {key : Nat → Int}

/-! Insertion. -/

/-! Swapping two ranges; rotating. -/

/-! Merging. -/

end

end Go.Proofs.YtpicpebolghcfaaGreatDoor

/- Plain words for a stable sort in place: blocks that are merged, and the one sorted list. No program is named. -/

namespace Go.Proofs.YtpicpebolghcfaaGreatDoor
set_option linter.unusedVariables false

section
variable {key : Nat → Int}

/-! The one sorted list. -/

end

end Go.Proofs.YtpicpebolghcfaaGreatDoor
