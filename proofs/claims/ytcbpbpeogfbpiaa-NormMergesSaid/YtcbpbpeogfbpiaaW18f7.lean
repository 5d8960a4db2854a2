/- Contracts of layer 18: a field's records behind others. -/
import Derived.Test.YtcbpbpeogfbpiaaW18f1
import Derived.Test.YtcbpbpeogfbpiaaW18f2
import Derived.Test.YtcbpbpeogfbpiaaW18f3
import Derived.Test.YtcbpbpeogfbpiaaW18f4
import Derived.Test.YtcbpbpeogfbpiaaW18f5
import Derived.Test.YtcbpbpeogfbpiaaW18f6
namespace Go.Proofs.Ytcbpbpeogfbpiaa
open Go.RowKit Go.Shelf
set_option linter.unusedVariables false

section
variable {w0 w : World} {SA : Option Addr} {sn sc : Nat} {S : List MsgV} {f : FieldD} {xs : List UInt8} {A : Option Addr} {n c : Nat} {B : Option Addr} {bn bc : Nat} {bs : List UInt8} {V : Option Addr} {vc : Nat} {vs : List ViewD} {se : Nat → MsgT → List UInt8} {sub : Nat → List UInt8 → MsgT}

/-- A field's records, whatever its kind. -/
theorem nField {d : Nat} (ih : NormP S d se sub) (hsm : ∀ (o : Nat) (x : List UInt8), x.length ≤ 100000 → (se o (sub o x)).length ≤ 32 * x.length) (h : FieldPre w0 w SA sn sc S f xs A n c B bn bc bs V vc vs) (hd : bn ≤ d) (hof : f.kind = 17 → ∃ m : Nat, f.of_ = (m : Int) ∧ m < S.length) :
    Calls Try.prog 31 #[.slice A n c, .slice SA sn sc, fieldV f, .slice B bn bc, .slice V vs.length vc] w (FieldPost w0 w (xs ++ fieldE se sub f (vs.flatMap (wordsO f bs)) (vs.flatMap (piecesO f bs)))) := by
  have hrun := h.2.2.2.2.2.2.2.2.2.2.2.2.2.1
  rcases hk : numberB f.kind with _ | _
  · rw [words_none hk (hrun hk), pieces_map hk (hrun hk)]
    by_cases h17 : f.kind = 17
    · rcases hr : f.rep with _ | _
      · exact nFieldJoin ih hsm h hd (hof h17) h17 hr
      · exact nFieldSubs ih hsm h hd (hof h17) h17 hr
    · rcases hr : f.rep with _ | _
      · exact nFieldText h hk h17 hr
      · exact nFieldTexts h hk h17 hr
  · rw [pieces_number hk]
    rcases hr : f.rep with _ | _
    · exact nFieldWord h hk hr
    · exact nFieldRun h hk hr
end

end Go.Proofs.Ytcbpbpeogfbpiaa
