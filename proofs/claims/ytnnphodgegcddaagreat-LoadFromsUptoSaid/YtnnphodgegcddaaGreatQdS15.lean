/- Plain words of layers 15 and 17: meanings, joined. -/
import Derived.Test.YtnnphodgegcddaaGreatQdS4
import Derived.Test.YtnnphodgegcddaaGreatQdS14o

/- Plain words of layer 17: where a message may be cut. No program is named. -/
namespace Go.Proofs.YtnnphodgegcddaaGreat
open Go.RowKit
set_option linter.unusedVariables false

section
variable {S : List MsgD} {d m : Nat} {M : MsgD}

end

end Go.Proofs.YtnnphodgegcddaaGreat

/- Plain words of layer 15: meanings, joined; what two messages' bytes mean, one behind the other. -/
namespace Go.Proofs.YtnnphodgegcddaaGreat
open Go.RowKit
set_option linter.unusedVariables false

section
variable {fs : List FieldD} {a b : List UInt8} {i : Nat} {f : FieldD}

end

section
variable {fs : List FieldD} {a b bs : List UInt8} {i : Nat} {f : FieldD} {sub : Nat → List UInt8 → MsgT} {sj : Nat → MsgT → MsgT → MsgT}

end

end Go.Proofs.YtnnphodgegcddaaGreat

/- Plain words of layer 15: values put one by one; what two messages mean, one behind the other, is their meanings, joined. -/
namespace Go.Proofs.YtnnphodgegcddaaGreat
open Go.RowKit
set_option linter.unusedVariables false

section
variable {v : ValT} {F : List Nat} {N : Nat → Int} {g : Nat → Option ValT}

end

end Go.Proofs.YtnnphodgegcddaaGreat

/- Plain words of layer 15: what two valid messages mean, one behind the other, is their meanings, joined. -/
namespace Go.Proofs.YtnnphodgegcddaaGreat
open Go.RowKit
set_option linter.unusedVariables false

section
variable {S : List MsgD} {m : Nat} {M : MsgD} {fs : List FieldD} {bs : List UInt8} {i : Nat} {f : FieldD} {sub : Nat → List UInt8 → MsgT} {sj : Nat → MsgT → MsgT → MsgT}

end

end Go.Proofs.YtnnphodgegcddaaGreat

/- Plain words of layers 16 and 18: right meanings, and their bytes. -/


/- Plain words of layers 16 and 18: a meaning's bytes; a record put alone, viewed; the views of pieces, one behind the other. -/
namespace Go.Proofs.YtnnphodgegcddaaGreat
open Go.RowKit
open Go.Lib (uvarint)
set_option linter.unusedVariables false

section
variable {fs : List FieldD} {i : Nat} {f : FieldD}

end

def valueE (se : Nat → MsgT → List UInt8) (f : FieldD) (v : ValT) : List (List UInt8) :=
 if numberB f.kind = true then
  if f.rep = true then [putB f.number 2 (packW f.kind v.words)] else v.words.map fun w => putB f.number (wireI f.kind) (putS f.kind w)
 else (v.texts.map fun t => putB f.number 2 t.data.toList) ++ v.subs.map fun y => putB f.number 2 (se f.of_.toNat y)

def encC (se : Nat → MsgT → List UInt8) (S : List MsgD) (m : Nat) (x : MsgT) : List (List UInt8) := match S[m]? with
 | none => []
 | some M => (x.vals.flatMap fun v => match M.fields.find? (fun f => f.number == v.number) with
   | none => []
   | some f => valueE se f v) ++ x.unk.map fun t => t.data.toList

def encV (S : List MsgD) : Nat → Nat → MsgT → List UInt8
 | 0, m, x => (encC (fun _ _ => []) S m x).flatten
 | d + 1, m, x => (encC (encV S d) S m x).flatten

end Go.Proofs.YtnnphodgegcddaaGreat

/- Plain words of layers 14 and 16: right meanings, and that their bytes mean them. -/
namespace Go.Proofs.YtnnphodgegcddaaGreat
open Go.RowKit
open Go.Lib (uvarint)
set_option linter.unusedVariables false

def RightF (rs : Nat → MsgT → Prop) (f : FieldD) (v : ValT) : Prop :=
 v.number = f.number ∧ manyU v ≠ 0 ∧ (f.rep = false → manyU v = 1) ∧
  ((numberB f.kind = true ∧ v.texts = [] ∧ v.subs = [] ∧ ∀ w ∈ v.words, w < 18446744073709551616 ∧ canonN f.kind w = w) ∨
    (numberB f.kind = false ∧ kindB f.kind = true ∧ f.kind ≠ 17 ∧ v.words = [] ∧ v.subs = [] ∧ (f.kind = 15 → ∀ t ∈ v.texts, rightT t.data.toList = true)) ∨
    (f.kind = 17 ∧ v.words = [] ∧ v.texts = [] ∧ ∀ y ∈ v.subs, rs f.of_.toNat y))

def RightJ (rs : Nat → MsgT → Prop) (S : List MsgD) (m : Nat) (x : MsgT) : Prop := ∃ M, S[m]? = some M ∧ x.vals.Pairwise (fun u v => u.number < v.number) ∧
 (∀ v ∈ x.vals, ∃ (i : Nat) (f : FieldD), M.fields[i]? = some f ∧ RightF rs f v) ∧
 ∀ t ∈ x.unk, ∃ T V a, headV t.data.toList = (T, V, a, t.data.toList.length, 0) ∧ M.fields.find? (fun f => f.number == (T : Int)) = none

def RightV (S : List MsgD) : Nat → Nat → MsgT → Prop
 | 0 => RightJ (fun _ _ => False) S
 | d + 1 => RightJ (RightV S d) S

section
variable {S : List MsgD} {m : Nat} {M : MsgD} {i : Nat} {f : FieldD} {se : Nat → MsgT → List UInt8} {v : ValT}

theorem right_number (hR : rightS S = true) (hM : S[m]? = some M) (hf : M.fields[i]? = some f) : (∃ T : Nat, f.number = (T : Int)) ∧ 1 ≤ f.number ∧ f.number ≤ 536870911 ∧ kindB f.kind = true := by
 obtain ⟨_, _, h3, _, h5, _⟩ := faultV_inv ((right_msg hR hM).2.2.2 i f hf)
 unfold usableB at h3
 simp only [Bool.and_eq_true, decide_eq_true_eq] at h3
 exact ⟨⟨f.number.toNat, by omega⟩, by omega, by omega, h5⟩

theorem rightB_of {T : Nat} {V : Int} (h1 : 1 ≤ (T : Int)) (h2 : (T : Int) ≤ 536870911) (h : V = 0 ∨ V = 1 ∨ V = 2 ∨ V = 5) : rightB (T : Int) V = true := by
 unfold rightB
 exact decide_eq_true ⟨h1, h2, h⟩

theorem wire_fits {k : Int} (hk : numberB k = true) {w : Nat} (hw : w < 18446744073709551616) : ∃ V : Nat, wireI k = (V : Int) ∧ ((V : Int) = 0 ∨ (V : Int) = 1 ∨ (V : Int) = 2 ∨ (V : Int) = 5) ∧ fitsV (V : Int) (putS k w) = true := by
 have hc := canonN_lt k hw
 have hk' := number_kind hk
 rcases number_three hk with ⟨h1, h2⟩ | ⟨h1, h9, h2⟩ | ⟨h1, h9, h2⟩
 · refine ⟨1, h2, by decide, ?_⟩
   rw [putS_12 h1]
   unfold fitsV
   refine decide_eq_true (.inr (.inl ⟨rfl, ?_⟩))
   simp [littleB_length]
 · refine ⟨5, h2, by decide, ?_⟩
   rw [putS_9 h1 h9]
   unfold fitsV
   refine decide_eq_true (.inr (.inr (.inl ⟨rfl, ?_⟩)))
   simp [littleB_length]
 · refine ⟨0, h2, by decide, ?_⟩
   rw [putS_0 h1 h9]
   have hv := readV_uvarint (canonN k w) [] hc
   rw [List.append_nil] at hv
   unfold fitsV
   refine decide_eq_true (.inl ⟨rfl, ?_, ?_⟩)
   · rw [hv]
   · rw [hv]

end

theorem mem_flatten_le {cs : List (List UInt8)} {c : List UInt8} (h : c ∈ cs) : c.length ≤ cs.flatten.length := by
 induction cs with
 | nil => cases h
 | cons d cs ih =>
   rw [List.flatten_cons, List.length_append]
   rcases List.mem_cons.1 h with rfl | h
   · omega
   · have := ih h
     omega

end Go.Proofs.YtnnphodgegcddaaGreat

/- Plain words of layers 14 and 16: what valid bytes mean is right. -/
namespace Go.Proofs.YtnnphodgegcddaaGreat
open Go.RowKit
set_option linter.unusedVariables false

section
variable {S : List MsgD} {m : Nat} {M : MsgD} {fs : List FieldD} {bs : List UInt8} {i : Nat} {f : FieldD} {sub : Nat → List UInt8 → MsgT}

end

end Go.Proofs.YtnnphodgegcddaaGreat

/- Plain words of layers 14 and 16: a right meaning's bytes are valid. -/
namespace Go.Proofs.YtnnphodgegcddaaGreat
open Go.RowKit
set_option linter.unusedVariables false

end Go.Proofs.YtnnphodgegcddaaGreat
