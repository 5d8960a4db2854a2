/- Contracts of layer 14: the same meanings. -/
import Derived.Test.YtnnphodgegcddaaQeM14
import Derived.Test.YtnnphodgegcddaaQeW10

namespace Go.Proofs.Ytnnphodgegcddaa
open Go.RowKit
set_option linter.unusedVariables false

noncomputable def eqB (p : Prop) : Bool := @decide p (Classical.propDecidable p)

theorem eqB_yes {p : Prop} (h : p) : eqB p = true := by unfold eqB; exact @decide_eq_true p (Classical.propDecidable p) h

theorem eqB_no {p : Prop} (h : ¬ p) : eqB p = false := by unfold eqB; exact @decide_eq_false p (Classical.propDecidable p) h

theorem wordCell {w : World} {A : Option Addr} {n c k : Nat} {l : List Nat} (h : Reads w A n c 1 (l.map uv)) (hk : k < n) :
    ∃ b off x, A = some ⟨b, off, none⟩ ∧ l[k]? = some x ∧ b < w.heap.size ∧ w.cell? ⟨b, off + k, none⟩ = some (.int .u64 (x : Int)) := by
  obtain ⟨b, off, e, hb, hc⟩ := h.at_ (by omega)
  have hl : l.length = n := by have := h.len; simpa using this
  have hx : l[k]? = some (l[k]'(by omega)) := List.getElem?_eq_getElem (by omega)
  exact ⟨b, off, _, e, hx, hb, hc k _ (by rw [List.getElem?_map, hx]; rfl)⟩

theorem bareV_iff {v u : ValR} : bareV v = bareV u ↔ v.number = u.number ∧ v.words = u.words ∧ v.texts = u.texts ∧ v.subs.map bare = u.subs.map bare := by
  unfold bareV
  simp only [ValG.mk.injEq, true_and]

theorem bare_iff {x y : MsgR} : bare x = bare y ↔ x.unk = y.unk ∧ x.vals.map bareV = y.vals.map bareV := by
  rw [bare_eq, bare_eq]
  simp only [MsgX.mk.injEq, true_and]
  exact And.comm

end Go.Proofs.Ytnnphodgegcddaa
