/- Contracts of layer 14: tree.Of. -/
import Derived.Test.YtcbpbpeogfbpiaaGreatQW14u
import Derived.Test.YtcbpbpeogfbpiaaGreatQW14x
import Derived.Test.YtcbpbpeogfbpiaaGreatQW11b
import Derived.Test.YtcbpbpeogfbpiaaGreatQKSchemaChecks

namespace Go.Proofs.YtcbpbpeogfbpiaaGreat
open Go.RowKit Go.Shelf
set_option linter.unusedVariables false

theorem rOf {S : List MsgV} (hR : rightS (S.map MsgV.d) = true) : ∀ d, d ≤ 100000 → OfR S (d + 1) (ofV (S.map MsgV.d) d)
  | 0, _ => rStep hR (Nat.zero_le _) (fun w SA sn sc m A n c bs _ _ _ h => absurd h (Nat.not_lt_zero n))
  | d + 1, h => rStep hR (by omega) (rOf hR d (by omega))

end Go.Proofs.YtcbpbpeogfbpiaaGreat
