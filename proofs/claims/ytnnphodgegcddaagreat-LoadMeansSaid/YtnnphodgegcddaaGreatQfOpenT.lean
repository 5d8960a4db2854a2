/- What a law is handed: meanings and fields, in my own words for memory, with the bound on their bulk. -/
import Derived.Test.YtnnphodgegcddaaGreatRows
import Derived.Test.YtnnphodgegcddaaGreatQfM14
import Derived.Test.YtnnphodgegcddaaGreatQfOpenM
import Derived.SliceStrings

namespace Go.Proofs.YtnnphodgegcddaaGreat
open Go.ChangeShapes Go.WideShapes Go.ChangeAt Go.RowKit Go.Deep Go.Joins
set_option linter.unusedVariables false

inductive LongT {τ : Type} (B : Nat) : MsgX τ → Prop
 | mk (x : MsgX τ) (unk : ∀ t ∈ x.unk, t.data.toList.length ≤ B) (texts : ∀ v ∈ x.vals, ∀ t ∈ v.texts, t.data.toList.length ≤ B) (sub : ∀ v ∈ x.vals, ∀ y ∈ v.subs, LongT B y) : LongT B x

section
variable {τ : Type} {B C : Nat} {x : MsgX τ}

theorem LongT.unk (h : LongT B x) : ∀ t ∈ x.unk, t.data.toList.length ≤ B := by cases h; assumption

theorem LongT.texts (h : LongT B x) : ∀ v ∈ x.vals, ∀ t ∈ v.texts, t.data.toList.length ≤ B := by cases h; assumption

theorem LongT.sub (h : LongT B x) : ∀ v ∈ x.vals, ∀ y ∈ v.subs, LongT B y := by cases h; assumption

end

section
variable {H : Type} {enc : TypeId × Value → H} {P : Program} {w : World} {base : Nat} {held : Bool}

end

section
variable {H : Type} {enc : TypeId × Value → H} {P : Program} {w : World} {base : Nat} {spare : Nat → Bool} {held : Bool}

end

end Go.Proofs.YtnnphodgegcddaaGreat
