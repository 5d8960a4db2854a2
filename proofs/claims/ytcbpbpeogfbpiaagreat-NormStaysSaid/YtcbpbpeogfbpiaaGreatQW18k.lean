/- Contracts of layer 18: records are struck out of a slice of the call's own, in place. -/
import Derived.Test.YtcbpbpeogfbpiaaGreatQW18h

namespace Go.Proofs.YtcbpbpeogfbpiaaGreat
open Go.RowKit Go.Shelf
set_option linter.unusedVariables false

theorem Reads.rec' {w : World} {A : Option Addr} {n c : Nat} {l : List Rec} (h : Reads w A n c 5 (l.flatMap recC)) {k : Nat} (hk : k < n) :
    ∃ b off v, A = some ⟨b, off, none⟩ ∧ l[k]? = some v ∧ b < w.heap.size ∧ w.cell? ⟨b, off + k * 5, none⟩ = some (.int .i64 (v.n : Int)) ∧ w.cell? ⟨b, off + k * 5 + 1, none⟩ = some (.int .i64 (v.w : Int)) ∧
      w.cell? ⟨b, off + k * 5 + 2, none⟩ = some (.int .i64 (v.f : Int)) ∧ w.cell? ⟨b, off + k * 5 + 3, none⟩ = some (.int .i64 (v.a : Int)) ∧ w.cell? ⟨b, off + k * 5 + 4, none⟩ = some (.int .i64 (v.t : Int)) := by
  obtain ⟨b, off, r, e, hx, hb, hj⟩ := h.elem (size := 5) (fun _ => rfl) (by omega) hk
  exact ⟨b, off, r, e, hx, hb, hj 0 _ rfl, hj 1 _ rfl, hj 2 _ rfl, hj 3 _ rfl, hj 4 _ rfl⟩

end Go.Proofs.YtcbpbpeogfbpiaaGreat
