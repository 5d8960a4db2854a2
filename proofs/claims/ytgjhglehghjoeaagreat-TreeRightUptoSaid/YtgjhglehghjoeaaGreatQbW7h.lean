/- Contracts of layer 7: a copy of a schema. -/
import Derived.Test.YtgjhglehghjoeaaGreatQbW7g

namespace Go.Proofs.YtgjhglehghjoeaaGreat
open Go.RowKit
set_option linter.unusedVariables false

theorem eqlNil {P : Program} {t e : TypeId} (h : P.underlying t = some (.slice e)) (a : Option Addr) (n c : Nat) (w : World) : (Go.binOp .eql t (.slice a n c) (.slice none 0 0)).run P w = .ok (.bool a.isNone) w := by
  simp only [Go.binOp]
  simp [run_equal_slice_nil (P := P) w t e a n c h]

structure MsgsOwn (w0 w : World) (S : List MsgV) : Prop where
  each : ∀ m ∈ S, Own w0 w 25 6 m.A m.n m.c (m.d.fields.flatMap fieldC)

theorem MsgsOwn.up {w0 w w' : World} {S : List MsgV} (h : MsgsOwn w0 w S) (k : Ext w w') : MsgsOwn w0 w' S := ⟨fun m hm => (h.each m hm).up k⟩

end Go.Proofs.YtgjhglehghjoeaaGreat
