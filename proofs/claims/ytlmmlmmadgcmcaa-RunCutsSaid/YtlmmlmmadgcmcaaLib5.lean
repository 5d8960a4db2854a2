/- Words for slices of slices of bytes that the call makes. No program is named. -/
import Derived.Test.YtlmmlmmadgcmcaaLib4
namespace Go.Proofs.Ytlmmlmmadgcmcaa
open Go.RowKit
set_option linter.unusedVariables false

/-- Two rows of the call's own whose elements are of other types lie in other blocks. -/
theorem Own.other {w0 w1 w : World} {e e' : TypeId} {size size' : Nat} {A B : Option Addr} {n c m d : Nat} {xs ys : List Value} (h : Own w0 w e size A n c xs) (o : Own w1 w e' size' B m d ys) (hne : e ≠ e') {g : Nat} (hA : A = some ⟨g, 0, none⟩) :
    (Value.slice B m d).ownBlock ≠ some g := by
  subst hA
  rcases h.row.2 with ⟨hv, _⟩ | ⟨g1, _, cur, hv, _, hh, _⟩
  · cases hv
  · cases hv
    rcases o.row.2 with ⟨hv2, _⟩ | ⟨g2, _, cur2, hv2, _, hh2, _⟩
    · cases hv2; simp [Value.ownBlock]
    · cases hv2
      intro he
      have : g2 = g := by simpa [Value.ownBlock] using he
      subst this
      rw [hh] at hh2
      injection hh2 with hh2
      injection hh2 with _ ht
      exact hne ht

/-- An append onto a row of another element type leaves this row. -/
theorem Own.beside {w0 w1 w W w' : World} {e e' : TypeId} {size size' : Nat} {A B : Option Addr} {n c m d : Nat} {xs ys : List Value} (h : Own w0 w e size A n c xs) (o : Own w1 w e' size' B m d ys) (hne : e ≠ e') (hE : Ext w W)
    (hg : W.grownBy w' (Value.slice B m d).ownBlock) (hx : Ext w0 w') : Own w0 w' e size A n c xs := by
  have hW := h.up hE
  refine ⟨⟨hW.row.1, ?_⟩, hx⟩
  rcases hW.row.2 with h2 | ⟨g, cap, cur, hv, hb, hh, r⟩
  · exact .inl h2
  · refine .inr ⟨g, cap, cur, hv, hb, ?_, r⟩
    have hA : A = some ⟨g, 0, none⟩ := by injection hv
    have hn := h.other o hne hA
    rw [hg.block g (Array.getElem?_eq_some_iff.1 hh).1 (fun e => hn e.symm)]
    exact hh

/-- The values of a slice of slices of bytes, each of them the call's own. -/
structure Rows (w0 w : World) (eb : TypeId) (vs : List Value) (rows : List (List UInt8)) : Prop where
  len : vs.length = rows.length
  row : ∀ (i : Nat) r, rows[i]? = some r → ∃ A n c, vs[i]? = some (.slice A n c) ∧ r.length = n ∧ Own w0 w eb 1 A n c (r.map bv)

section
variable {w0 w w' : World} {eb : TypeId} {vs : List Value} {rows : List (List UInt8)}

theorem Rows.nil (w0 w : World) (eb : TypeId) : Rows w0 w eb [] [] := ⟨rfl, fun i r h => by simp at h⟩

theorem Rows.up (h : Rows w0 w eb vs rows) (k : Ext w w') : Rows w0 w' eb vs rows :=
  ⟨h.len, fun i r hr => by
    obtain ⟨A, n, c, h1, h2, h3⟩ := h.row i r hr
    exact ⟨A, n, c, h1, h2, h3.up k⟩⟩

theorem Rows.beside {w1 W : World} {e' : TypeId} {size' : Nat} {B : Option Addr} {m d : Nat} {ys : List Value} (h : Rows w0 w eb vs rows) (o : Own w1 w e' size' B m d ys) (hne : eb ≠ e') (hE : Ext w W)
    (hg : W.grownBy w' (Value.slice B m d).ownBlock) (hx : Ext w0 w') : Rows w0 w' eb vs rows :=
  ⟨h.len, fun i r hr => by
    obtain ⟨A, n, c, h1, h2, h3⟩ := h.row i r hr
    exact ⟨A, n, c, h1, h2, h3.beside o hne hE hg hx⟩⟩

theorem Rows.snoc (h : Rows w0 w eb vs rows) {A : Option Addr} {n c : Nat} {r : List UInt8} (hr : r.length = n) (o : Own w0 w eb 1 A n c (r.map bv)) : Rows w0 w eb (vs ++ [.slice A n c]) (rows ++ [r]) := by
  refine ⟨by simp [h.len], fun i x hx => ?_⟩
  by_cases hi : i < rows.length
  · rw [List.getElem?_append_left hi] at hx
    obtain ⟨A', n', c', h1, h2, h3⟩ := h.row i x hx
    exact ⟨A', n', c', by rw [List.getElem?_append_left (by rw [h.len]; exact hi)]; exact h1, h2, h3⟩
  · rw [List.getElem?_append_right (by omega)] at hx
    have h0 : i - rows.length = 0 := by
      rcases Nat.eq_zero_or_pos (i - rows.length) with h | h
      · exact h
      · rw [List.getElem?_eq_none (by simp; omega)] at hx; cases hx
    rw [h0] at hx
    simp at hx
    subst hx
    exact ⟨A, n, c, by rw [List.getElem?_append_right (by rw [h.len]; omega), h.len, h0]; rfl, hr, o⟩
end

end Go.Proofs.Ytlmmlmmadgcmcaa
