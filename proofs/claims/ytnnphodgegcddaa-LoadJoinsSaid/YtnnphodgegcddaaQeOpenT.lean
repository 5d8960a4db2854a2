/- What a law is handed: meanings and fields, in my own words for memory, with the bound on their bulk. -/
import Derived.Test.YtnnphodgegcddaaRows
import Derived.Test.YtnnphodgegcddaaQeM14
import Derived.Test.YtnnphodgegcddaaQeOpenM
import Derived.SliceStrings

namespace Go.Proofs.Ytnnphodgegcddaa
open Go.ChangeShapes Go.WideShapes Go.ChangeAt Go.RowKit Go.Deep Go.Joins
set_option linter.unusedVariables false

section
variable {τ : Type} {B C : Nat} {x : MsgX τ}

end

section
variable {H : Type} {enc : TypeId × Value → H} {P : Program} {w : World} {base : Nat} {held : Bool}

end

section
variable {H : Type} {enc : TypeId × Value → H} {P : Program} {w : World} {base : Nat} {spare : Nat → Bool} {held : Bool}

theorem open_field {r : Reach} {b0 : Nat} {t : TypeId} {f0 f1 f2 f3 f4 f5 : Field} {v : Value} {d : DataW H} {p : List MemPlace} (hs : P.underlying t = some (.struct #[f0, f1, f2, f3, f4, f5])) (hone : oneCellFields P #[f0, f1, f2, f3, f4, f5] = true) (hC : P.cellsOf t = 6)
    (u0 : P.underlying f0.type = some .string) (u1 : P.underlying f1.type = some (.int .i64)) (u2 : P.underlying f2.type = some (.int .i64)) (u3 : P.underlying f3.type = some .bool) (u4 : P.underlying f4.type = some .bool) (u5 : P.underlying f5.type = some (.int .i64))
    (hv : Value.okWide P w r b0 t v) (h : DataW.Trod enc P w base spare held t v d p) : ∃ f : FieldD, v = fieldV f ∧ f.Ok := by
  obtain ⟨cs, rfl, hsz⟩ := okWide_struct hs hv
  obtain ⟨l⟩ := cs
  match l, hsz.trans hC with
  | [c0, c1, c2, c3, c4, c5], _ =>
    obtain ⟨fuel, hf⟩ := h
    obtain ⟨xs, n, _, hx, _, hlen, hg⟩ := DataW.trod_struct hs hf
    match xs, hlen with
    | [y0, y1, y2, y3, y4, y5], _ =>
      have k0 := hone_of hone 0 f0 rfl
      have k1 := hone_of hone 1 f1 rfl
      have k2 := hone_of hone 2 f2 rfl
      have k3 := hone_of hone 3 f3 rfl
      have k4 := hone_of hone 4 f4 rfl
      have k5 := hone_of hone 5 f5 rfl
      have g0 : DataW.trod enc P w base spare held n f0.type [c0] = some y0 := by simpa [Value.cells, k0.1, k0.2] using hg 0 f0 rfl
      have g1 : DataW.trod enc P w base spare held n f1.type [c1] = some y1 := by simpa [Value.cells, k1.1, k1.2] using hg 1 f1 rfl
      have g2 : DataW.trod enc P w base spare held n f2.type [c2] = some y2 := by simpa [Value.cells, k2.1, k2.2] using hg 2 f2 rfl
      have g3 : DataW.trod enc P w base spare held n f3.type [c3] = some y3 := by simpa [Value.cells, k3.1, k3.2] using hg 3 f3 rfl
      have g4 : DataW.trod enc P w base spare held n f4.type [c4] = some y4 := by simpa [Value.cells, k4.1, k4.2] using hg 4 f4 rfl
      have g5 : DataW.trod enc P w base spare held n f5.type [c5] = some y5 := by simpa [Value.cells, k5.1, k5.2] using hg 5 f5 rfl
      obtain ⟨s, e0, _, w0⟩ := DataW.trod_string u0 g0
      obtain ⟨x1, e1, _, w1⟩ := DataW.trod_int u1 g1
      obtain ⟨x2, e2, _, w2⟩ := DataW.trod_int u2 g2
      obtain ⟨x3, e3, _⟩ := DataW.trod_bool u3 g3
      obtain ⟨x4, e4, _⟩ := DataW.trod_bool u4 g4
      obtain ⟨x5, e5, _, w5⟩ := DataW.trod_int u5 g5
      simp only [List.cons.injEq, and_true] at e0 e1 e2 e3 e4 e5
      subst e0 e1 e2 e3 e4 e5
      simp [Lit.wf, IntKind.min, IntKind.max, IntKind.signed, IntKind.bits] at w1 w2 w5
      unfold maxLen at w0
      exact ⟨⟨s, x1, x2, x3, x4, x5⟩, rfl, ⟨⟨by simp only; omega, by simp only; omega⟩, ⟨by simp only; omega, by simp only; omega⟩, ⟨by simp only; omega, by simp only; omega⟩, by show s.size ≤ _; omega⟩⟩
end

end Go.Proofs.Ytnnphodgegcddaa
