/- Contracts of layer 17: slices of slices of bytes, one behind the other. -/
import Derived.Test.YtnnphodgegcddaaGreatQdW11
import Derived.Lib.AppendZerosOnto

namespace Go.Proofs.YtnnphodgegcddaaGreat
open Go.RowKit
set_option linter.unusedVariables false

structure BRow where
 A : Option Addr
 n : Nat
 c : Nat
 bs : List UInt8

def browV (r : BRow) : Value := .slice r.A r.n r.c

def BRowsAt (w : World) (A : Option Addr) (n c : Nat) (l : List BRow) : Prop := Reads w A n c 1 (l.map browV) ∧ ∀ r ∈ l, BytesAt w r.A r.n r.c r.bs

section
variable {w w' : World} {A : Option Addr} {n c : Nat} {l : List BRow}

theorem BRowsAt.up (h : BRowsAt w A n c l) (k : Ext w w') : BRowsAt w' A n c l := ⟨h.1.ext k, fun r hr => (h.2 r hr).ext k⟩

theorem BRowsAt.length (h : BRowsAt w A n c l) : l.length = n := by have := h.1.len; simpa using this

theorem BRowsAt.row (h : BRowsAt w A n c l) {k : Nat} (hk : k < n) : ∃ b off r, A = some ⟨b, off, none⟩ ∧ l[k]? = some r ∧ b < w.heap.size ∧ BytesAt w r.A r.n r.c r.bs ∧ w.cell? ⟨b, off + k, none⟩ = some (.slice r.A r.n r.c) := by
 obtain ⟨b, off, e, hb, hc⟩ := h.1.at_ (by omega)
 have hl := h.length
 have hx : l[k]? = some (l[k]'(by omega)) := List.getElem?_eq_getElem (by omega)
 exact ⟨b, off, _, e, hx, hb, h.2 _ (List.mem_of_getElem? hx), hc k _ (by rw [List.getElem?_map, hx]; rfl)⟩
end

end Go.Proofs.YtnnphodgegcddaaGreat
