/- The walk of the law ScalarPuts, out of its callees' contracts. -/
import Derived.Test.YtnnphodgegcddaaGreatQfW8

namespace Go.Proofs.YtnnphodgegcddaaGreat
open Go.RowKit
set_option linter.unusedVariables false

end Go.Proofs.YtnnphodgegcddaaGreat

/- The walk of the law ScalarReads, out of its callees' contracts. -/

namespace Go.Proofs.YtnnphodgegcddaaGreat
open Go.RowKit
set_option linter.unusedVariables false

theorem sRead_0 {k : Int} (hk : numberB k = true) (bs : List UInt8) : (readS k bs).2 = if fitsV (wireI k) bs = true then 0 else 12 := by
 unfold fitsV
 rcases number_three hk with ⟨h12, hw⟩ | ⟨h12, h9, hw⟩ | ⟨h12, h9, hw⟩
 · rw [readS_12 hk h12, hw]
   by_cases h : bs.length = 8 <;> simp [h]
 · rw [readS_9 hk h12 h9, hw]
   by_cases h : bs.length = 4 <;> simp [h]
 · rcases hv : readV bs with ⟨W, N, C⟩
   rw [readS_0 hk h12 h9 hv, hw]
   by_cases h : C = 0 ∧ N = bs.length <;> simp [h]

end Go.Proofs.YtnnphodgegcddaaGreat
