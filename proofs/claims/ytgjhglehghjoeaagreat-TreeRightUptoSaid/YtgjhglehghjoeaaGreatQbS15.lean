/- Plain words of layers 15 and 17: meanings, joined. -/
import Derived.Test.YtgjhglehghjoeaaGreatQbS4
import Derived.Test.YtgjhglehghjoeaaGreatQbS14o

/- Plain words of layer 17: where a message may be cut. No program is named. -/
namespace Go.Proofs.YtgjhglehghjoeaaGreat
open Go.RowKit
set_option linter.unusedVariables false

section
variable {S : List MsgD} {d m : Nat} {M : MsgD}

end

end Go.Proofs.YtgjhglehghjoeaaGreat

/- Plain words of layer 15: meanings, joined; what two messages' bytes mean, one behind the other. -/
namespace Go.Proofs.YtgjhglehghjoeaaGreat
open Go.RowKit
set_option linter.unusedVariables false

section
variable {fs : List FieldD} {a b : List UInt8} {i : Nat} {f : FieldD}

end

section
variable {fs : List FieldD} {a b bs : List UInt8} {i : Nat} {f : FieldD} {sub : Nat → List UInt8 → MsgT} {sj : Nat → MsgT → MsgT → MsgT}

end

end Go.Proofs.YtgjhglehghjoeaaGreat

/- Plain words of layer 15: values put one by one; what two messages mean, one behind the other, is their meanings, joined. -/
namespace Go.Proofs.YtgjhglehghjoeaaGreat
open Go.RowKit
set_option linter.unusedVariables false

section
variable {v : ValT} {F : List Nat} {N : Nat → Int} {g : Nat → Option ValT}

end

end Go.Proofs.YtgjhglehghjoeaaGreat

/- Plain words of layer 15: what two valid messages mean, one behind the other, is their meanings, joined. -/
namespace Go.Proofs.YtgjhglehghjoeaaGreat
open Go.RowKit
set_option linter.unusedVariables false

section
variable {S : List MsgD} {m : Nat} {M : MsgD} {fs : List FieldD} {bs : List UInt8} {i : Nat} {f : FieldD} {sub : Nat → List UInt8 → MsgT} {sj : Nat → MsgT → MsgT → MsgT}

end

end Go.Proofs.YtgjhglehghjoeaaGreat

/- Plain words of layers 16 and 18: right meanings, and their bytes. -/


/- Plain words of layers 16 and 18: a meaning's bytes; a record put alone, viewed; the views of pieces, one behind the other. -/
namespace Go.Proofs.YtgjhglehghjoeaaGreat
open Go.RowKit
open Go.Lib (uvarint)
set_option linter.unusedVariables false

section
variable {fs : List FieldD} {i : Nat} {f : FieldD}

end

end Go.Proofs.YtgjhglehghjoeaaGreat

/- Plain words of layers 14 and 16: right meanings, and that their bytes mean them. -/
namespace Go.Proofs.YtgjhglehghjoeaaGreat
open Go.RowKit
open Go.Lib (uvarint)
set_option linter.unusedVariables false

def RightF (rs : Nat → MsgT → Prop) (f : FieldD) (v : ValT) : Prop :=
  v.number = f.number ∧ manyU v ≠ 0 ∧ (f.rep = false → manyU v = 1) ∧
    ((numberB f.kind = true ∧ v.texts = [] ∧ v.subs = [] ∧ ∀ w ∈ v.words, w < 18446744073709551616 ∧ canonN f.kind w = w) ∨
      (numberB f.kind = false ∧ kindB f.kind = true ∧ f.kind ≠ 17 ∧ v.words = [] ∧ v.subs = [] ∧ (f.kind = 15 → ∀ t ∈ v.texts, rightT t.data.toList = true)) ∨
      (f.kind = 17 ∧ v.words = [] ∧ v.texts = [] ∧ ∀ y ∈ v.subs, rs f.of_.toNat y))

def RightJ (rs : Nat → MsgT → Prop) (S : List MsgD) (m : Nat) (x : MsgT) : Prop := ∃ M, S[m]? = some M ∧ x.vals.Pairwise (fun u v => u.number < v.number) ∧
  (∀ v ∈ x.vals, ∃ (i : Nat) (f : FieldD), M.fields[i]? = some f ∧ RightF rs f v) ∧
  ∀ t ∈ x.unk, ∃ T V a, headV t.data.toList = (T, V, a, t.data.toList.length, 0) ∧ M.fields.find? (fun f => f.number == (T : Int)) = none

def RightV (S : List MsgD) : Nat → Nat → MsgT → Prop
  | 0 => RightJ (fun _ _ => False) S
  | d + 1 => RightJ (RightV S d) S

section
variable {S : List MsgD} {m : Nat} {M : MsgD} {i : Nat} {f : FieldD} {se : Nat → MsgT → List UInt8} {v : ValT}

end

end Go.Proofs.YtgjhglehghjoeaaGreat

/- Plain words of layers 14 and 16: what valid bytes mean is right. -/
namespace Go.Proofs.YtgjhglehghjoeaaGreat
open Go.RowKit
set_option linter.unusedVariables false

section
variable {S : List MsgD} {m : Nat} {M : MsgD} {fs : List FieldD} {bs : List UInt8} {i : Nat} {f : FieldD} {sub : Nat → List UInt8 → MsgT}

end

end Go.Proofs.YtgjhglehghjoeaaGreat

/- Plain words of layers 14 and 16: a right meaning's bytes are valid. -/
namespace Go.Proofs.YtgjhglehghjoeaaGreat
open Go.RowKit
set_option linter.unusedVariables false

end Go.Proofs.YtgjhglehghjoeaaGreat
