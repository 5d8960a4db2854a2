/- Plain words of layer 9: where a run's values end. No program is named. -/
import Derived.Test.YtlmmlmmadgcmcaaS9c
namespace Go.Proofs.Ytlmmlmmadgcmcaa
open Go.RowKit
set_option linter.unusedVariables false

def sumL : List (List UInt8 × Nat) → Nat
  | [] => 0
  | v :: l => v.1.length + sumL l

theorem sumL_snoc (x : List UInt8 × Nat) : ∀ l, sumL (l ++ [x]) = sumL l + x.1.length
  | [] => by simp [sumL]
  | y :: l => by simp [sumL, sumL_snoc x l]; omega

/-- Where each value ends. -/
def endsOf (a : Nat) : List (List UInt8 × Nat) → List Nat
  | [] => []
  | v :: l => (a + v.1.length) :: endsOf (a + v.1.length) l

theorem endsOf_snoc (x : List UInt8 × Nat) : ∀ (l : List (List UInt8 × Nat)) (a : Nat), endsOf a (l ++ [x]) = endsOf a l ++ [a + sumL l + x.1.length]
  | [], a => by simp [endsOf, sumL]
  | y :: l, a => by simp [endsOf, sumL, endsOf_snoc x l]; omega

theorem endsOf_len : ∀ (l : List (List UInt8 × Nat)) (a : Nat), (endsOf a l).length = l.length
  | [], a => rfl
  | y :: l, a => by simp [endsOf, endsOf_len l]

/-- The ends of a run, if it is one; the code. -/
def endsV (k : Int) (bs : List UInt8) : List Nat × Nat := (if codeV k bs = 0 then endsOf 0 (valsV k bs) else [], codeV k bs)

/-- So far: these values, all there, of so many bytes. -/
structure SoFar (k : Int) (bs : List UInt8) (d : List (List UInt8 × Nat)) (p : Nat) : Prop where
  list : valsV k bs = d ++ valsF k (bs.drop p).length (bs.drop p)
  fine : ∀ x ∈ d, x.2 = 0
  sum : p = sumL d
  len : d.length ≤ p

theorem SoFar.start {k : Int} (hk : numberB k = true) (bs : List UInt8) : SoFar k bs [] 0 :=
  ⟨by unfold valsV; rw [if_neg (by rw [hk]; simp)]; rfl, fun x h => (by cases h), rfl, Nat.le_refl _⟩

theorem SoFar.ends {k : Int} {bs : List UInt8} {d : List (List UInt8 × Nat)} {p : Nat} (h : SoFar k bs d p) (hp : p = bs.length) : endsV k bs = (endsOf 0 d, 0) := by
  have e : valsV k bs = d := by
    rw [h.list, List.drop_of_length_le (by omega)]
    simp [valsF]
  have hc : codeV k bs = 0 := codeV_fine (fun j x hx => by rw [e] at hx; exact h.fine x (List.mem_of_getElem? hx))
  unfold endsV
  rw [hc, if_pos rfl, e]

theorem SoFar.bad {k : Int} {bs : List UInt8} {d : List (List UInt8 × Nat)} {p C : Nat} (h : SoFar k bs d p) (hp : p < bs.length) (hs : stepN k (bs.drop p) = (0, C)) (hC : C ≠ 0) : endsV k bs = ([], C) := by
  have hl : (bs.drop p).length = (bs.drop p).length - 1 + 1 := by rw [List.length_drop]; omega
  have hne : bs.drop p ≠ [] := by
    intro e
    rw [e] at hl
    simp at hl
  have e1 : valsF k ((bs.drop p).length - 1 + 1) (bs.drop p) = [([], C)] := by
    conv => lhs; unfold valsF
    rw [if_neg hne, hs, if_neg hC]
  have e : valsV k bs = d ++ [([], C)] := by rw [h.list, hl, e1]
  have hc : codeV k bs = C := codeV_bad (j := d.length) (x := ([], C)) (by rw [e]; simp) hC
  unfold endsV
  rw [hc, if_neg hC]

theorem SoFar.more {k : Int} {bs : List UInt8} {d : List (List UInt8 × Nat)} {p N : Nat} (h : SoFar k bs d p) (hp : p < bs.length) (hs : stepN k (bs.drop p) = (N, 0)) : SoFar k bs (d ++ [((bs.drop p).take N, 0)]) (p + N) ∧ endsOf 0 (d ++ [((bs.drop p).take N, 0)]) = endsOf 0 d ++ [p + N] := by
  have hl : (bs.drop p).length = (bs.drop p).length - 1 + 1 := by rw [List.length_drop]; omega
  have hne : bs.drop p ≠ [] := by
    intro e
    rw [e] at hl
    simp at hl
  have hbd := stepN_bd k (bs.drop p)
  rw [hs] at hbd
  simp only at hbd
  have hN : 1 ≤ N ∧ N ≤ (bs.drop p).length := by omega
  have ht : ((bs.drop p).take N).length = N := by rw [List.length_take]; omega
  refine ⟨⟨?_, fun x hx => ?_, ?_, ?_⟩, ?_⟩
  · rw [h.list]
    conv => lhs; rw [hl, valsF_ok hne hs]
    rw [List.drop_drop, List.append_assoc]
    congr 2
    exact valsF_fuel k _ _ _ (by simp only [List.length_drop]; omega) (Nat.le_refl _)
  · rcases List.mem_append.1 hx with hx | hx
    · exact h.fine x hx
    · simp only [List.mem_singleton] at hx; subst hx; rfl
  · rw [sumL_snoc, ht, ← h.sum]
  · have := h.len
    rw [List.length_append]
    simp only [List.length_singleton]
    omega
  · rw [endsOf_snoc, ht, ← h.sum]
    simp

end Go.Proofs.Ytlmmlmmadgcmcaa
