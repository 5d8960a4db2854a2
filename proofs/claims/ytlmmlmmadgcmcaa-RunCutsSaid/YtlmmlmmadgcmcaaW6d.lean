/- Contracts of layer 6: all kinds; a kind by its name; the names. -/
import Derived.Test.YtlmmlmmadgcmcaaW6b
namespace Go.Proofs.Ytlmmlmmadgcmcaa
open Go.RowKit
set_option linter.unusedVariables false

/-- A number in a cell. -/
def iv (x : Nat) : Value := .int .i64 (x : Int)

theorem iv_one (l : List Nat) : ∀ u ∈ l.map iv, u.oneCell' = true := by
  intro u hu
  obtain ⟨b, _, rfl⟩ := List.mem_map.1 hu
  rfl

theorem elemI : Elem Try.prog 82 3 1 8 := Elem.mk' (z := .int .i64 0) Try.underlying82 (by kernel_rfl) rfl (by omega)

/-- The kinds' numbers. -/
def kindsN (n : Nat) : List Nat := (List.range n).map (· + 1)

theorem kindsN_succ (n : Nat) : kindsN (n + 1) = kindsN n ++ [n + 1] := by
  unfold kindsN
  rw [List.range_succ, List.map_append]
  rfl

/-- The names, by their kinds' numbers. -/
def namesL : List Value := (List.range 18).map fun k => .string (formOf (k : Nat)).1

theorem names_at {k : Nat} (h : k < 18) : namesL[k]? = some (.string (formOf (k : Nat)).1) := by
  unfold namesL
  rw [List.getElem?_map, List.getElem?_range h]
  rfl

theorem str_eq {a b : ByteArray} : (a.toList == b.toList) = decide (a = b) := by
  by_cases h : a = b
  · subst h; simp
  · rw [decide_eq_false h]
    simp only [beq_eq_false_iff_ne]
    intro e
    rw [ByteArray.toList_eq, ByteArray.toList_eq] at e
    exact h (ByteArray.ext (Array.toList_inj.1 e))

theorem str_same {a b : ByteArray} (h : a = b) : (a.toList == b.toList) = true := by rw [str_eq]; exact decide_eq_true h

theorem str_ne {a b : ByteArray} (h : a ≠ b) : (a.toList == b.toList) = false := by rw [str_eq]; exact decide_eq_false h

theorem ret_kc' {a a' : Int} {c : Value} (h : a = a') : Ending.returned (.tuple #[.int .i64 a, c]) = .returned (.tuple #[.int .i64 a', c]) := by rw [h]

theorem kinds_at {j : Nat} (h : j < 17) : ((kindsN 17).map iv)[j]? = some (.int .i64 ((j : Int) + 1)) := by
  unfold kindsN
  rw [List.getElem?_map, List.getElem?_map, List.getElem?_range h]
  rfl

/-- The code of a parse. -/
def parseC (K : Nat) : Int := if K = 0 then 11 else 0

theorem parseC_0 : parseC 0 = 11 := rfl

theorem parseC_pos {K : Nat} (h : 0 < K) : parseC K = 0 := if_neg (by omega)

end Go.Proofs.Ytlmmlmmadgcmcaa
