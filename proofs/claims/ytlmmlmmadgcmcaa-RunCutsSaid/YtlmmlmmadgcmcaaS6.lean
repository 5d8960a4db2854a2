/- Plain laws of layer 6: kinds. No program is named. -/
import Derived.Test.YtlmmlmmadgcmcaaMap
import Derived.Test.YtlmmlmmadgcmcaaS1
namespace Go.Proofs.Ytlmmlmmadgcmcaa
open Go.RowKit
set_option linter.unusedVariables false

/-- The kinds: their numbers, names, wire types, and how many bits their words have. -/
def formL : List (Int × ByteArray × Int × Int) := [
  (1, ⟨#[105, 110, 116, 51, 50]⟩, 0, 32),
  (2, ⟨#[105, 110, 116, 54, 52]⟩, 0, 64),
  (3, ⟨#[117, 105, 110, 116, 51, 50]⟩, 0, 32),
  (4, ⟨#[117, 105, 110, 116, 54, 52]⟩, 0, 64),
  (5, ⟨#[115, 105, 110, 116, 51, 50]⟩, 0, 32),
  (6, ⟨#[115, 105, 110, 116, 54, 52]⟩, 0, 64),
  (7, ⟨#[98, 111, 111, 108]⟩, 0, 1),
  (8, ⟨#[101, 110, 117, 109]⟩, 0, 32),
  (9, ⟨#[102, 105, 120, 101, 100, 51, 50]⟩, 5, 32),
  (10, ⟨#[115, 102, 105, 120, 101, 100, 51, 50]⟩, 5, 32),
  (11, ⟨#[102, 108, 111, 97, 116]⟩, 5, 32),
  (12, ⟨#[102, 105, 120, 101, 100, 54, 52]⟩, 1, 64),
  (13, ⟨#[115, 102, 105, 120, 101, 100, 54, 52]⟩, 1, 64),
  (14, ⟨#[100, 111, 117, 98, 108, 101]⟩, 1, 64),
  (15, ⟨#[115, 116, 114, 105, 110, 103]⟩, 2, 0),
  (16, ⟨#[98, 121, 116, 101, 115]⟩, 2, 0),
  (17, ⟨#[109, 101, 115, 115, 97, 103, 101]⟩, 2, 0)]

/-- A form as the program holds it. -/
def formV (p : ByteArray × Int × Int) : Value := .agg #[.string p.1, .int .i64 p.2.1, .int .i64 p.2.2]

def formsM : List (Int × Value) := formL.map fun p => (p.1, formV p.2)

/-- The form of a kind; of none: nothing. -/
def formOf (k : Int) : ByteArray × Int × Int := ((formL.find? fun p => decide (k = p.1)).map (·.2)).getD (⟨#[]⟩, 0, 0)

theorem valI_map (k : Int) : ∀ (l : List (Int × ByteArray × Int × Int)), valI k (l.map fun p => (p.1, formV p.2)) = ((l.find? fun p => decide (k = p.1)).map (·.2)).map formV
  | [] => rfl
  | p :: r => by
    rw [List.map_cons, valI, List.find?_cons]
    by_cases h : k = p.1
    · rw [if_pos h, decide_eq_true h]; rfl
    · rw [if_neg h, decide_eq_false h]; exact valI_map k r

theorem valI_forms (k : Int) : (valI k formsM).getD (formV (⟨#[]⟩, 0, 0)) = formV (formOf k) := by
  unfold formsM formOf
  rw [valI_map]
  generalize (formL.find? fun p => decide (k = p.1)).map (·.2) = o
  cases o <;> rfl

/-- Right kind? -/
def kindB (k : Int) : Bool := decide (1 ≤ k ∧ k ≤ 17)

theorem kind_cases {k : Int} (h : 1 ≤ k ∧ k ≤ 17) : k = 1 ∨ k = 2 ∨ k = 3 ∨ k = 4 ∨ k = 5 ∨ k = 6 ∨ k = 7 ∨ k = 8 ∨ k = 9 ∨ k = 10 ∨ k = 11 ∨ k = 12 ∨ k = 13 ∨ k = 14 ∨ k = 15 ∨ k = 16 ∨ k = 17 := by omega

theorem form_none {k : Int} (h : ¬ (1 ≤ k ∧ k ≤ 17)) : (formL.find? fun p => decide (k = p.1)) = none := by
  rw [List.find?_eq_none]
  intro p hp
  have : 1 ≤ p.1 ∧ p.1 ≤ 17 := by
    have hall : ∀ p ∈ formL, 1 ≤ p.1 ∧ p.1 ≤ 17 := by decide
    exact hall p hp
  simp only [decide_eq_true_eq]
  omega

theorem valI_some (k : Int) : (valI k formsM).isSome = kindB k := by
  unfold formsM
  rw [valI_map, Option.isSome_map, Option.isSome_map]
  by_cases h : 1 ≤ k ∧ k ≤ 17
  · have e : kindB k = true := decide_eq_true h
    rw [e]
    rcases kind_cases h with h | h | h | h | h | h | h | h | h | h | h | h | h | h | h | h | h <;> subst h <;> decide
  · have e : kindB k = false := decide_eq_false h
    rw [form_none h, e]; rfl

/-- Wire type of a kind. -/
def wireI (k : Int) : Int := if k ≤ 8 then 0 else if k ≤ 11 then 5 else if k ≤ 14 then 1 else 2

theorem formOf_wire {k : Int} (h : 1 ≤ k ∧ k ≤ 17) : (formOf k).2.1 = wireI k := by
  rcases kind_cases h with h | h | h | h | h | h | h | h | h | h | h | h | h | h | h | h | h <;> subst h <;> decide

theorem formOf_none {k : Int} (h : ¬ (1 ≤ k ∧ k ≤ 17)) : formOf k = (⟨#[]⟩, 0, 0) := by
  unfold formOf
  rw [form_none h]; rfl

/-- Number's kind? -/
def numberB (k : Int) : Bool := decide (1 ≤ k ∧ k ≤ 14)

/-- The canonical word of a number's kind. -/
def canonN (k : Int) (w : Nat) : Nat :=
  if k = 1 ∨ k = 8 then (wideI (sign32I w)).toNat
  else if k = 7 then (if w = 0 then 0 else 1)
  else if k = 3 ∨ k = 5 ∨ k = 9 ∨ k = 10 ∨ k = 11 then w % 4294967296
  else w

theorem formOf_bits {k : Int} (h : 1 ≤ k ∧ k ≤ 14) : ((formOf k).2.2 = 32 ↔ (k = 1 ∨ k = 3 ∨ k = 5 ∨ k = 8 ∨ k = 9 ∨ k = 10 ∨ k = 11)) := by
  rcases kind_cases (k := k) ⟨h.1, by omega⟩ with h | h | h | h | h | h | h | h | h | h | h | h | h | h | h | h | h <;> subst h <;> first | decide | omega

theorem sign32I_wide_lt (w : Nat) : 0 ≤ wideI (sign32I w) ∧ wideI (sign32I w) < 18446744073709551616 := by
  have := sign32I_bd w
  exact wideI_bd _ (by omega) (by omega)

theorem canonN_lt (k : Int) {w : Nat} (h : w < 18446744073709551616) : canonN k w < 18446744073709551616 := by
  have := sign32I_wide_lt w
  unfold canonN
  split
  · omega
  · split
    · split <;> omega
    · split <;> omega

/-- A word as a number of two's complement. -/
def twosI (w : Nat) : Int := if w < 9223372036854775808 then (w : Int) else (w : Int) - 18446744073709551616

/-- What a word means, signed; whether the kind is signed. -/
def signedI (k : Int) (w : Nat) : Int :=
  if k = 1 ∨ k = 8 ∨ k = 10 then sign32I w
  else if k = 2 ∨ k = 13 then twosI w
  else if k = 5 then zagI (w % 4294967296)
  else if k = 6 then zagI w
  else 0

def signedB (k : Int) : Bool := decide (k = 1 ∨ k = 8 ∨ k = 10 ∨ k = 2 ∨ k = 13 ∨ k = 5 ∨ k = 6)

theorem number_kind {k : Int} (h : numberB k = true) : 1 ≤ k ∧ k ≤ 14 := of_decide_eq_true h

theorem signed_number {k : Int} (h : numberB k = false) (x : Nat) : signedB k = false ∧ signedI k x = 0 := by
  have hn : ¬ (1 ≤ k ∧ k ≤ 14) := of_decide_eq_false h
  constructor
  · exact decide_eq_false (by omega)
  · unfold signedI
    rw [if_neg (by omega), if_neg (by omega), if_neg (by omega), if_neg (by omega)]

theorem canonN_stays {k : Int} {x : Nat} (hx : x < 18446744073709551616) : canonN k (canonN k x) = canonN k x ∧ signedI k (canonN k x) = signedI k x := by
  have key : ((wideI (sign32I x)).toNat : Int) = wideI (sign32I x) := by have := sign32I_wide_lt x; omega
  have e1 : sign32I ((wideI (sign32I x)).toNat : Int) = sign32I x := by
    rw [key]
    unfold wideI sign32I
    repeat' split
    all_goals omega
  unfold canonN signedI
  by_cases h1 : k = 1 ∨ k = 8
  · simp only [if_pos h1, e1]
    refine ⟨trivial, ?_⟩
    rw [if_pos (by omega), if_pos (by omega)]
  · by_cases h7 : k = 7
    · subst h7
      simp only [if_neg h1]
      by_cases h0 : x = 0
      · subst h0; simp
      · simp [h0]
    · by_cases h3 : k = 3 ∨ k = 5 ∨ k = 9 ∨ k = 10 ∨ k = 11
      · simp only [if_neg h1, if_neg h7, if_pos h3]
        refine ⟨Nat.mod_mod _ _, ?_⟩
        have a1 : (((x % 4294967296 : Nat) : Nat) : Int) = (x : Int) % 4294967296 := by omega
        rcases h3 with h | h | h | h | h
        · subst h; simp
        · subst h; simp [a1]
        · subst h; simp
        · subst h
          rw [if_pos (by decide), if_pos (by decide), a1]
          unfold sign32I
          split <;> split <;> omega
        · subst h; simp
      · simp only [if_neg h1, if_neg h7, if_neg h3]
        trivial

/-- The name of the kind k's number; 0: no kind has it. -/
def isKind (s : ByteArray) (K : Nat) : Prop := K ≤ 17 ∧ ∀ j : Nat, 1 ≤ j → j ≤ 17 → ((formOf (j : Nat)).1 = s ↔ j = K)

theorem names_inj {j k : Nat} (h1 : 1 ≤ j) (h2 : j ≤ 17) (h3 : 1 ≤ k) (h4 : k ≤ 17) (h : (formOf (j : Nat)).1 = (formOf (k : Nat)).1) : j = k := by
  have hall : ∀ a ∈ (List.range 17), ∀ b ∈ (List.range 17), (formOf ((a + 1 : Nat) : Int)).1.data.toList = (formOf ((b + 1 : Nat) : Int)).1.data.toList → a = b := by decide +kernel
  have := hall (j - 1) (by simp; omega) (k - 1) (by simp; omega) (by rw [show j - 1 + 1 = j by omega, show k - 1 + 1 = k by omega, h])
  omega

theorem isKind_name {k : Nat} (h3 : 1 ≤ k) (h4 : k ≤ 17) : isKind (formOf (k : Nat)).1 k :=
  ⟨h4, fun j h1 h2 => ⟨fun h => names_inj h1 h2 h3 h4 h, fun h => by rw [h]⟩⟩

theorem isKind_has (s : ByteArray) : ∃ K, isKind s K := by
  by_cases h : ∃ k : Nat, 1 ≤ k ∧ k ≤ 17 ∧ (formOf (k : Nat)).1 = s
  · obtain ⟨k, h1, h2, rfl⟩ := h
    exact ⟨k, isKind_name h1 h2⟩
  · refine ⟨0, by omega, fun j h1 h2 => ⟨fun e => absurd ⟨j, h1, h2, e⟩ h, fun e => by omega⟩⟩

end Go.Proofs.Ytlmmlmmadgcmcaa
