/- Plain words of layer 20: the load of a value. -/
import Derived.Test.YtnnphodgegcddaaGreatQfW32
import Derived.Test.YtnnphodgegcddaaGreatQfS33
import Derived.Test.YtnnphodgegcddaaGreatQfS18

namespace Go.Proofs.YtnnphodgegcddaaGreat
open Go.RowKit
open Go.Lib (uvarint)
set_option linter.unusedVariables false

def partsL (S : List MsgD) (D : Nat) (f : FieldD) (v : ValT) : List (List UInt8) := (v.texts.map fun t => t.data.toList) ++ v.subs.map fun y => encV S D f.of_.toNat y

def partL (rep : Bool) (b : List UInt8) : List UInt8 := (if rep = true then uvarint b.length else []) ++ b

def fromL (S : List MsgD) (D : Nat) (f : FieldD) (v : ValT) : List UInt8 :=
 if numberB f.kind = true then packW f.kind v.words else ((partsL S D f v).map (partL f.rep)).flatten

open Classical in
noncomputable def codeFL (S : List MsgD) (f : FieldD) (v : ValT) : Nat :=
 if argsL S f 0 = 0 then (if FitP S f v ∨ (manyU v = 0 ∧ f.rep = true) then 0 else 12) else argsL S f 0

theorem codeFL_bad {S : List MsgD} {f : FieldD} {v : ValT} (h : argsL S f 0 ≠ 0) : codeFL S f v = argsL S f 0 := if_neg h

theorem codeFL_form {S : List MsgD} {f : FieldD} {v : ValT} (h : argsL S f 0 = 0) (h1 : ¬ FitP S f v) (h2 : ¬ (manyU v = 0 ∧ f.rep = true)) : codeFL S f v = 12 := by
 unfold codeFL
 rw [if_pos h, if_neg (by rintro (q | q); exact h1 q; exact h2 q)]

theorem codeFL_fine {S : List MsgD} {f : FieldD} {v : ValT} (h : argsL S f 0 = 0) (h1 : FitP S f v ∨ (manyU v = 0 ∧ f.rep = true)) : codeFL S f v = 0 := by
 unfold codeFL
 rw [if_pos h, if_pos h1]

theorem partL_no (b : List UInt8) : partL false b = b := rfl

theorem partL_yes (b : List UInt8) : partL true b = uvarint b.length ++ b := rfl

theorem flat_bd {α : Type} {l : List α} {g : α → List UInt8} {B : Nat} (h : ∀ x ∈ l, (g x).length ≤ B) : ((l.map g).flatten).length ≤ l.length * B := by
 induction l with
 | nil => simp
 | cons x l ih =>
   rw [List.map_cons, List.flatten_cons, List.length_append, List.length_cons, Nat.add_mul, Nat.one_mul]
   have h1 := h x List.mem_cons_self
   have h2 := ih (fun y hy => h y (List.mem_cons_of_mem _ hy))
   omega

theorem packW_one {k : Int} {l : List Nat} (h : l.length = 1) : ∃ x, l = [x] ∧ packW k l = putS k x := by
 rcases l with _ | ⟨x, _ | ⟨y, l⟩⟩
 · cases h
 · exact ⟨x, rfl, by simp [packW]⟩
 · simp at h

theorem FitP.kinds {S : List MsgD} {f : FieldD} {v : ValT} (h : FitP S f v ∨ (manyU v = 0 ∧ f.rep = true)) :
  (numberB f.kind = true ∧ v.texts = [] ∧ v.subs = []) ∨ (numberB f.kind = false ∧ v.words = [] ∧ ∀ y ∈ v.subs, RI S f.of_ y) ∨ (v.words = [] ∧ v.texts = [] ∧ v.subs = []) := by
 rcases h with ⟨_, _, ⟨a, b, c, _⟩ | ⟨a, _, _, b, c, _⟩ | ⟨a, b, _, c⟩⟩ | ⟨h, _⟩
 · exact .inl ⟨a, b, c⟩
 · exact .inr (.inl ⟨a, b, fun y hy => by rw [c] at hy; cases hy⟩)
 · exact .inr (.inl ⟨by rw [a]; decide, b, c⟩)
 · unfold manyU at h
   refine .inr (.inr ⟨List.eq_nil_of_length_eq_zero (by omega), List.eq_nil_of_length_eq_zero (by omega), List.eq_nil_of_length_eq_zero (by omega)⟩)

end Go.Proofs.YtnnphodgegcddaaGreat

/- Plain words of layer 20: how long a load is. No program is named. -/

namespace Go.Proofs.YtnnphodgegcddaaGreat
open Go.RowKit
open Go.Lib (uvarint)
set_option linter.unusedVariables false

theorem partL_length (rep : Bool) {b : List UInt8} (h : b.length ≤ 1000000) : (partL rep b).length ≤ b.length + 10 := by
 unfold partL
 rw [List.length_append]
 split
 · have := Go.Lib.uvarint_length64 (x := b.length) (by omega)
   omega
 · simp

end Go.Proofs.YtnnphodgegcddaaGreat
