/- Words of my own for memory: slices of bytes that a call makes one by one. -/
import Derived.Test.YtnnphodgegcddaaQeW16
import Derived.Test.YtnnphodgegcddaaQeW17
import Derived.Test.YtnnphodgegcddaaQeM14p

namespace Go.Proofs.Ytnnphodgegcddaa
open Go.RowKit Go.Shelf
set_option linter.unusedVariables false

theorem uses_lt {w : World} {A : Option Addr} {n c : Nat} {bs : List UInt8} (h : BytesAt w A n c bs) {b : Nat} (hu : UsesA A n b) : b < w.heap.size := by
  obtain ⟨h0, p, rfl, rfl⟩ := hu
  obtain ⟨b, off, e, hb, _⟩ := h.at_ h0
  cases e
  exact hb

theorem own_new {w0 w : World} {A : Option Addr} {n c : Nat} {xs : List Value} {e : TypeId} {size : Nat} (h : Own w0 w e size A n c xs) : ∀ b, UsesA A n b → w0.heap.size ≤ b := by
  rintro b ⟨h0, p, rfl, rfl⟩
  have := (h.row.lt p.block (Reads.row_uses (b := p.block) ⟨h0, p, rfl, rfl⟩ h |> fun q => by rw [ownBlock_any _ n c 0 0]; exact q)).1
  exact this

end Go.Proofs.Ytnnphodgegcddaa
