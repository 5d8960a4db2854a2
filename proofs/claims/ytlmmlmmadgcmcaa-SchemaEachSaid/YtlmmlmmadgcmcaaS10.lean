/- Plain laws of layer 10: views. No program is named. -/
import Derived.Test.YtlmmlmmadgcmcaaS7
import Derived.Test.YtlmmlmmadgcmcaaS5b
import Derived.Test.YtlmmlmmadgcmcaaS6
namespace Go.Proofs.Ytlmmlmmadgcmcaa
open Go.RowKit Go.Lib
set_option linter.unusedVariables false

structure ViewD where
  r : Rec
  field : Int
  run : Bool
  deriving DecidableEq

def ViewD.zero : ViewD := ⟨Rec.zero, 0, false⟩

/-- Has a field this number? -/
def numP (x : Int) (f : FieldD) : Bool := f.number == x

/-- A record as a field; the code. -/
def seenV (l : List FieldD) (r : Rec) : ViewD × Nat :=
  match l.findIdx? (numP (r.n : Int)) with
  | none => (⟨r, -1, false⟩, 0)
  | some i => match l[i]? with
    | none => (ViewD.zero, 0)
    | some f => if (f.rep && numberB f.kind && r.w == 2) = true then (⟨r, (i : Int), true⟩, 0) else if kindB f.kind = true ∧ wireI f.kind = (r.w : Int) then (⟨r, (i : Int), false⟩, 0) else (ViewD.zero, 6)

/-- The view of the record at a place; the code. -/
def lookV (l : List FieldD) (bs : List UInt8) (p : Nat) : ViewD × Nat := if (nextV bs p).2 = 0 then seenV l (nextV bs p).1 else (ViewD.zero, (nextV bs p).2)

def lookI (l : List FieldD) (bs : List UInt8) (p : Int) : ViewD × Nat := if (nextI bs p).2 = 0 then seenV l (nextI bs p).1 else (ViewD.zero, (nextI bs p).2)

theorem seenV_none {l : List FieldD} {r : Rec} (h : idxB (numP (r.n : Int)) l = -1) : seenV l r = (⟨r, -1, false⟩, 0) := by
  unfold seenV
  unfold idxB at h
  rcases hf : l.findIdx? (numP (r.n : Int)) with _ | i
  · rfl
  · rw [hf] at h; simp only at h; omega

theorem seenV_some {l : List FieldD} {r : Rec} {k : Nat} {f : FieldD} (h : idxB (numP (r.n : Int)) l = (k : Nat)) (hf : l[k]? = some f) :
    seenV l r = if (f.rep && numberB f.kind && r.w == 2) = true then (⟨r, (k : Int), true⟩, 0) else if kindB f.kind = true ∧ wireI f.kind = (r.w : Int) then (⟨r, (k : Int), false⟩, 0) else (ViewD.zero, 6) := by
  unfold seenV
  unfold idxB at h
  rcases hi : l.findIdx? (numP (r.n : Int)) with _ | i
  · rw [hi] at h; simp only at h; omega
  · rw [hi] at h
    simp only at h
    obtain rfl : i = k := by omega
    simp only [hf]

theorem seenV_r {l : List FieldD} {r : Rec} {v : ViewD} (h : seenV l r = (v, 0)) (hz : v ≠ ViewD.zero) : v.r = r := by
  rcases idxB_cases (numP (r.n : Int)) l with ⟨h1, _⟩ | ⟨k, f, h1, h2, _⟩
  · rw [seenV_none h1] at h; cases h; rfl
  · rw [seenV_some h1 h2] at h
    split at h
    · cases h; rfl
    · split at h
      · cases h; rfl
      · cases h

end Go.Proofs.Ytlmmlmmadgcmcaa
