/- Plain words of layer 14: meanings. No program is named. -/
import Derived.Test.YthnoknheodecgaaGreatS11
import Derived.Test.YthnoknheodecgaaGreatSortB
namespace Go.Proofs.YthnoknheodecgaaGreat
open Go.RowKit
set_option linter.unusedVariables false

/-- A value: where its three slices lie (in τ), its number, its words, its texts, its messages. -/
structure ValG (τ σ : Type) where
  a : τ
  b : τ
  c : τ
  number : Int
  words : List Nat
  texts : List ByteArray
  subs : List σ

/-- A meaning, and where its slices lie. -/
inductive MsgX (τ : Type) where
  | mk (a b : τ) (vals : List (ValG τ (MsgX τ))) (unk : List ByteArray)

namespace MsgX
variable {τ : Type}

def a : MsgX τ → τ
  | .mk a _ _ _ => a

def b : MsgX τ → τ
  | .mk _ b _ _ => b

def vals : MsgX τ → List (ValG τ (MsgX τ))
  | .mk _ _ v _ => v

def unk : MsgX τ → List ByteArray
  | .mk _ _ _ u => u

theorem sub_lt {x : MsgX τ} {v : ValG τ (MsgX τ)} {y : MsgX τ} (hv : v ∈ x.vals) (hy : y ∈ v.subs) : SizeOf.sizeOf y < SizeOf.sizeOf x := by
  obtain ⟨a, b, vs, u⟩ := x
  have h1 := List.sizeOf_lt_of_mem (show v ∈ vs from hv)
  have h2 := List.sizeOf_lt_of_mem hy
  obtain ⟨va, vb, vc, n, ws, ts, ss⟩ := v
  simp only [MsgX.mk.sizeOf_spec]
  simp only [ValG.mk.sizeOf_spec] at h1
  simp only at h2
  omega

/-- What holds of a meaning, if of all its messages. -/
theorem ind {P : MsgX τ → Prop} (h : ∀ x : MsgX τ, (∀ v ∈ x.vals, ∀ y ∈ v.subs, P y) → P x) (x : MsgX τ) : P x :=
  h x (fun v hv y hy => ind h y)
termination_by SizeOf.sizeOf x
decreasing_by exact sub_lt hv hy

end MsgX

theorem attach_map {α β : Type} (l : List α) (g : α → β) : l.attach.map (fun x => g x.1) = l.map g := by
  have h : l.attach.map (fun x => g x.1) = (l.attach.map Subtype.val).map g := by rw [List.map_map]; rfl
  rw [h, List.attach_map_subtype_val]

abbrev MsgT := MsgX Unit

abbrev ValT := ValG Unit MsgT

/-- A meaning, without where it lies. -/
def bare {τ : Type} (x : MsgX τ) : MsgT :=
  .mk () () (x.vals.attach.map fun v => ⟨(), (), (), v.1.number, v.1.words, v.1.texts, v.1.subs.attach.map fun y => bare y.1⟩) x.unk
termination_by SizeOf.sizeOf x
decreasing_by exact MsgX.sub_lt v.2 y.2

def bareV {τ : Type} (v : ValG τ (MsgX τ)) : ValT := ⟨(), (), (), v.number, v.words, v.texts, v.subs.map bare⟩

theorem bare_eq {τ : Type} (x : MsgX τ) : bare x = .mk () () (x.vals.map bareV) x.unk := by
  rw [bare]
  congr 1
  rw [attach_map x.vals (fun v => (⟨(), (), (), v.number, v.words, v.texts, v.subs.attach.map fun y => bare y.1⟩ : ValT))]
  refine List.map_congr_left fun v _ => ?_
  unfold bareV
  rw [attach_map v.subs bare]

end Go.Proofs.YthnoknheodecgaaGreat
