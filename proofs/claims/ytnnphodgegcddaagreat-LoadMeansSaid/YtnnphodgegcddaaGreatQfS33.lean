/- Plain words of layer 14: how many things a meaning has. No program is named. -/
import Derived.Test.YtnnphodgegcddaaGreatQfM14
import Derived.Test.YtnnphodgegcddaaGreatQfOpenT
import Derived.Test.YtnnphodgegcddaaGreatQfS18

namespace Go.Proofs.YtnnphodgegcddaaGreat
open Go.RowKit
set_option linter.unusedVariables false

end Go.Proofs.YtnnphodgegcddaaGreat

/- Plain words of layers 14 and 16: a right meaning's bytes are at most 30 times as many as its things. No program is named. -/


namespace Go.Proofs.YtnnphodgegcddaaGreat
open Go.RowKit
set_option linter.unusedVariables false

theorem flat_most {α : Type} {g : α → List UInt8} {c : α → Nat} : ∀ {l : List α}, (∀ x ∈ l, (g x).length ≤ 30 * c x) → ((l.map g).flatten).length ≤ 30 * (l.map c).sum
 | [], _ => Nat.zero_le _
 | x :: l, h => by
   have h1 := h x List.mem_cons_self
   have h2 := flat_most (g := g) (c := c) (l := l) (fun y hy => h y (List.mem_cons_of_mem _ hy))
   rw [List.map_cons, List.flatten_cons, List.length_append, List.map_cons, List.sum_cons]
   omega

end Go.Proofs.YtnnphodgegcddaaGreat
