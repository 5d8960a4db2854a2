/- Plain words of layer 7: fields, messages, schemas as data. No program is named. -/
import Derived.Test.YtlmmlmmadgcmcaaLib2
namespace Go.Proofs.Ytlmmlmmadgcmcaa
open Go.RowKit
set_option linter.unusedVariables false

structure FieldD where
  name : ByteArray
  number : Int
  kind : Int
  rep : Bool
  packed : Bool
  of_ : Int
  deriving DecidableEq

instance : Inhabited FieldD := ⟨⟨⟨#[]⟩, 0, 0, false, false, 0⟩⟩

def fieldC (f : FieldD) : List Value := [.string f.name, .int .i64 f.number, .int .i64 f.kind, .bool f.rep, .bool f.packed, .int .i64 f.of_]

def fieldV (f : FieldD) : Value := .agg #[.string f.name, .int .i64 f.number, .int .i64 f.kind, .bool f.rep, .bool f.packed, .int .i64 f.of_]

/-- What Go's types allow. -/
structure FieldD.Ok (f : FieldD) : Prop where
  number : -9223372036854775808 ≤ f.number ∧ f.number < 9223372036854775808
  kind : -9223372036854775808 ≤ f.kind ∧ f.kind < 9223372036854775808
  of_ : -9223372036854775808 ≤ f.of_ ∧ f.of_ < 9223372036854775808
  name : f.name.size ≤ 9223372036854775807

/-- A slice of fields. -/
def FieldsAt (w : World) (A : Option Addr) (n c : Nat) (l : List FieldD) : Prop := Reads w A n c 6 (l.flatMap fieldC) ∧ ∀ f ∈ l, f.Ok

section
variable {w w' : World} {A : Option Addr} {n c : Nat} {l : List FieldD}

theorem FieldsAt.up (h : FieldsAt w A n c l) (k : Ext w w') : FieldsAt w' A n c l := ⟨h.1.ext k, h.2⟩

theorem FieldsAt.length (h : FieldsAt w A n c l) : l.length = n := by
  have := h.1.len
  rw [flat_length (size := 6) (fun _ => rfl)] at this
  omega

theorem FieldsAt.field (h : FieldsAt w A n c l) {k : Nat} (hk : k < n) :
    ∃ b off f, A = some ⟨b, off, none⟩ ∧ l[k]? = some f ∧ f.Ok ∧ b < w.heap.size ∧ w.cell? ⟨b, off + k * 6, none⟩ = some (.string f.name) ∧ w.cell? ⟨b, off + k * 6 + 1, none⟩ = some (.int .i64 f.number) ∧
      w.cell? ⟨b, off + k * 6 + 2, none⟩ = some (.int .i64 f.kind) ∧ w.cell? ⟨b, off + k * 6 + 3, none⟩ = some (.bool f.rep) ∧ w.cell? ⟨b, off + k * 6 + 4, none⟩ = some (.bool f.packed) ∧ w.cell? ⟨b, off + k * 6 + 5, none⟩ = some (.int .i64 f.of_) := by
  obtain ⟨b, off, f, e, hx, hb, hj⟩ := h.1.elem (size := 6) (fun _ => rfl) (by omega) hk
  exact ⟨b, off, f, e, hx, h.2 f (List.mem_of_getElem? hx), hb, hj 0 _ rfl, hj 1 _ rfl, hj 2 _ rfl, hj 3 _ rfl, hj 4 _ rfl, hj 5 _ rfl⟩
end

/-- The first place at which p holds; -1. -/
def idxB {α : Type} (p : α → Bool) (l : List α) : Int := match l.findIdx? p with
  | some i => (i : Int)
  | none => -1

theorem idxB_found {α : Type} {p : α → Bool} {l : List α} {k : Nat} {x : α} (hx : l[k]? = some x) (hp : p x = true) (hn : ∀ (j : Nat) y, j < k → l[j]? = some y → p y = false) : idxB p l = k := by
  have : l.findIdx? p = some k := by
    rw [List.findIdx?_eq_some_iff_getElem]
    have hlt := (List.getElem?_eq_some_iff.1 hx).1
    have he := (List.getElem?_eq_some_iff.1 hx).2
    refine ⟨hlt, by rw [he]; exact hp, fun j hj => ?_⟩
    have := hn j (l[j]'(by omega)) hj (List.getElem?_eq_getElem (by omega))
    simp [this]
  unfold idxB
  rw [this]

theorem idxB_none {α : Type} {p : α → Bool} {l : List α} (hn : ∀ (j : Nat) y, l[j]? = some y → p y = false) : idxB p l = -1 := by
  have : l.findIdx? p = none := by
    rw [List.findIdx?_eq_none_iff]
    intro x hx
    obtain ⟨j, hj, rfl⟩ := List.getElem_of_mem hx
    exact hn j _ (List.getElem?_eq_getElem hj)
  unfold idxB
  rw [this]

theorem idxB_cases {α : Type} (p : α → Bool) (l : List α) : idxB p l = -1 ∧ (∀ x ∈ l, p x = false) ∨ ∃ k x, idxB p l = (k : Nat) ∧ l[k]? = some x ∧ p x = true ∧ ∀ (j : Nat) y, j < k → l[j]? = some y → p y = false := by
  rcases h : l.findIdx? p with _ | k
  · left
    refine ⟨by unfold idxB; rw [h], ?_⟩
    rw [List.findIdx?_eq_none_iff] at h
    exact h
  · right
    have h' := h
    rw [List.findIdx?_eq_some_iff_getElem] at h'
    obtain ⟨hlt, hp, hj⟩ := h'
    refine ⟨k, l[k], by unfold idxB; rw [h], List.getElem?_eq_getElem hlt, hp, fun j y hjk hy => ?_⟩
    have := hj j hjk
    rw [(List.getElem?_eq_some_iff.1 hy).2] at this
    simpa using this

theorem idxB_bd {α : Type} (p : α → Bool) (l : List α) : -1 ≤ idxB p l ∧ idxB p l < l.length := by
  rcases idxB_cases p l with ⟨h, _⟩ | ⟨k, x, h, hx, _⟩
  · omega
  · have := (List.getElem?_eq_some_iff.1 hx).1
    omega

end Go.Proofs.Ytlmmlmmadgcmcaa
