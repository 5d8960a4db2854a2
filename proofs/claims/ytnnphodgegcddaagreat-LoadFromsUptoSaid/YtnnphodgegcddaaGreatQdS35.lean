/- Plain words of layer 20: the load of a value. -/
import Derived.Test.YtnnphodgegcddaaGreatQdW32
import Derived.Test.YtnnphodgegcddaaGreatQdS33
import Derived.Test.YtnnphodgegcddaaGreatQdS18

namespace Go.Proofs.YtnnphodgegcddaaGreat
open Go.RowKit
open Go.Lib (uvarint)
set_option linter.unusedVariables false

def partsL (S : List MsgD) (D : Nat) (f : FieldD) (v : ValT) : List (List UInt8) := (v.texts.map fun t => t.data.toList) ++ v.subs.map fun y => encV S D f.of_.toNat y

def partL (rep : Bool) (b : List UInt8) : List UInt8 := (if rep = true then uvarint b.length else []) ++ b

def fromL (S : List MsgD) (D : Nat) (f : FieldD) (v : ValT) : List UInt8 :=
 if numberB f.kind = true then packW f.kind v.words else ((partsL S D f v).map (partL f.rep)).flatten

open Classical in
noncomputable def codeFL (S : List MsgD) (f : FieldD) (v : ValT) : Nat :=
 if argsL S f 0 = 0 then (if FitP S f v ∨ (manyU v = 0 ∧ f.rep = true) then 0 else 12) else argsL S f 0

theorem codeFL_bad {S : List MsgD} {f : FieldD} {v : ValT} (h : argsL S f 0 ≠ 0) : codeFL S f v = argsL S f 0 := if_neg h

theorem codeFL_form {S : List MsgD} {f : FieldD} {v : ValT} (h : argsL S f 0 = 0) (h1 : ¬ FitP S f v) (h2 : ¬ (manyU v = 0 ∧ f.rep = true)) : codeFL S f v = 12 := by
 unfold codeFL
 rw [if_pos h, if_neg (by rintro (q | q); exact h1 q; exact h2 q)]

theorem codeFL_fine {S : List MsgD} {f : FieldD} {v : ValT} (h : argsL S f 0 = 0) (h1 : FitP S f v ∨ (manyU v = 0 ∧ f.rep = true)) : codeFL S f v = 0 := by
 unfold codeFL
 rw [if_pos h, if_pos h1]

theorem partL_no (b : List UInt8) : partL false b = b := rfl

theorem partL_yes (b : List UInt8) : partL true b = uvarint b.length ++ b := rfl

theorem packW_one {k : Int} {l : List Nat} (h : l.length = 1) : ∃ x, l = [x] ∧ packW k l = putS k x := by
 rcases l with _ | ⟨x, _ | ⟨y, l⟩⟩
 · cases h
 · exact ⟨x, rfl, by simp [packW]⟩
 · simp at h

theorem depth_all {S : List MsgD} {m : Nat} : ∀ {l : List MsgT}, (∀ y ∈ l, ∃ d, RightV S d m y) → ∃ D, ∀ y ∈ l, RightV S D m y
 | [], _ => ⟨0, fun y hy => by cases hy⟩
 | x :: l, h => by
   obtain ⟨D, hD⟩ := depth_all (l := l) (fun y hy => h y (List.mem_cons_of_mem _ hy))
   obtain ⟨d, hd⟩ := h x List.mem_cons_self
   refine ⟨D + d, fun y hy => ?_⟩
   rcases List.mem_cons.1 hy with rfl | hy
   · exact hd.mono (by omega)
   · exact (hD y hy).mono (by omega)

theorem FitP.kinds {S : List MsgD} {f : FieldD} {v : ValT} (h : FitP S f v ∨ (manyU v = 0 ∧ f.rep = true)) :
  (numberB f.kind = true ∧ v.texts = [] ∧ v.subs = []) ∨ (numberB f.kind = false ∧ v.words = [] ∧ ∀ y ∈ v.subs, RI S f.of_ y) ∨ (v.words = [] ∧ v.texts = [] ∧ v.subs = []) := by
 rcases h with ⟨_, _, ⟨a, b, c, _⟩ | ⟨a, _, _, b, c, _⟩ | ⟨a, b, _, c⟩⟩ | ⟨h, _⟩
 · exact .inl ⟨a, b, c⟩
 · exact .inr (.inl ⟨a, b, fun y hy => by rw [c] at hy; cases hy⟩)
 · exact .inr (.inl ⟨by rw [a]; decide, b, c⟩)
 · unfold manyU at h
   refine .inr (.inr ⟨List.eq_nil_of_length_eq_zero (by omega), List.eq_nil_of_length_eq_zero (by omega), List.eq_nil_of_length_eq_zero (by omega)⟩)

end Go.Proofs.YtnnphodgegcddaaGreat

/- Plain words of layer 20: how long a load is. No program is named. -/

namespace Go.Proofs.YtnnphodgegcddaaGreat
open Go.RowKit
open Go.Lib (uvarint)
set_option linter.unusedVariables false

theorem partL_length (rep : Bool) {b : List UInt8} (h : b.length ≤ 1000000) : (partL rep b).length ≤ b.length + 10 := by
 unfold partL
 rw [List.length_append]
 split
 · have := Go.Lib.uvarint_length64 (x := b.length) (by omega)
   omega
 · simp

theorem parts_size {S : List MsgD} {D : Nat} {f : FieldD} {v : ValT} (hR : rightS S = true) (hD : ∀ y ∈ v.subs, RightV S D f.of_.toNat y) (hsz : sizeU v ≤ 3000) :
  (∀ b ∈ partsL S D f v, b.length ≤ 1000000) ∧ (((partsL S D f v).map (partL f.rep)).flatten).length ≤ 1000000 ∧ (partsL S D f v).length ≤ 1000000 := by
 have hU : sizeU v = 1 + v.words.length + textsN v.texts + (v.subs.map sizeT).sum := rfl
 have ht : ∀ t ∈ v.texts, t.data.toList.length ≤ 3000 := fun t h => by have := textsN_mem h; omega
 have hy : ∀ y ∈ v.subs, (encV S D f.of_.toNat y).length + 30 ≤ 30 * sizeT y ∧ sizeT y < 3000 := fun y h => by
  have h1 := sizeT_mem h
  exact ⟨encV_size hR D _ y (hD y h) (by omega), by omega⟩
 have hl := sizeU_lens v
 refine ⟨fun b hb => ?_, ?_, ?_⟩
 · unfold partsL at hb
   rcases List.mem_append.1 hb with hb | hb
   · obtain ⟨t, h, rfl⟩ := List.mem_map.1 hb
     have := ht t h
     omega
   · obtain ⟨y, h, rfl⟩ := List.mem_map.1 hb
     have := hy y h
     omega
 · unfold partsL
   rw [List.map_append, List.flatten_append, List.length_append, List.map_map, List.map_map]
   have h1 := flat_most (g := partL f.rep ∘ fun t : ByteArray => t.data.toList) (c := fun t => 1 + t.data.toList.length) (l := v.texts) (fun t h => by
    have := ht t h
    have := partL_length f.rep (b := t.data.toList) (by omega)
    simp only [Function.comp_apply]
    omega)
   have h2 := flat_most (g := partL f.rep ∘ fun y => encV S D f.of_.toNat y) (c := sizeT) (l := v.subs) (fun y h => by
    have := hy y h
    have := partL_length f.rep (b := encV S D f.of_.toNat y) (by omega)
    simp only [Function.comp_apply]
    omega)
   rw [← textsN_sum] at h1
   omega
 · unfold partsL
   rw [List.length_append, List.length_map, List.length_map]
   omega

end Go.Proofs.YtnnphodgegcddaaGreat
