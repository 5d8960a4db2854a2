/- Contracts of layer 9: the reference. -/
import Derived.Test.YtgjhglehghjoeaaGreatQbW9
import Derived.Test.YtgjhglehghjoeaaGreatQbSA
import Derived.Test.YtgjhglehghjoeaaGreatQbW6
import Derived.Test.YtgjhglehghjoeaaGreatQbKScalarReads

/- Contracts of layer 9: the reference's ends of a run's values. -/
namespace Go.Proofs.YtgjhglehghjoeaaGreat
open Go.RowKit
set_option linter.unusedVariables false

def IntsAt (w : World) (A : Option Addr) (n c : Nat) (l : List Nat) : Prop := Reads w A n c 1 (l.map iv)

end Go.Proofs.YtgjhglehghjoeaaGreat

/- Contracts of layer 9: the reference's words of a run. -/
namespace Go.Proofs.YtgjhglehghjoeaaGreat
open Go.RowKit
set_option linter.unusedVariables false

theorem IntsAt.num {w : World} {A : Option Addr} {n c : Nat} {l : List Nat} (h : IntsAt w A n c l) {k : Nat} (hk : k < n) :
    ∃ b off x, A = some ⟨b, off, none⟩ ∧ l[k]? = some x ∧ w.cell? ⟨b, off + k, none⟩ = some (.int .i64 (x : Int)) := by
  obtain ⟨b, off, e, _, hc⟩ := Reads.at_ h (by omega)
  have hl : l.length = n := by have := Reads.len h; simpa using this
  have hx : l[k]? = some (l[k]'(by omega)) := List.getElem?_eq_getElem (by omega)
  exact ⟨b, off, _, e, hx, hc k _ (by rw [List.getElem?_map, hx]; rfl)⟩

end Go.Proofs.YtgjhglehghjoeaaGreat

/- Contracts of layer 9: the word of a place. -/
namespace Go.Proofs.YtgjhglehghjoeaaGreat
open Go.RowKit
set_option linter.unusedVariables false

end Go.Proofs.YtgjhglehghjoeaaGreat
