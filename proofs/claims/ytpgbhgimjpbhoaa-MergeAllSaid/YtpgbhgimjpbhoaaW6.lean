/- Contracts of layer 6. -/
import Derived.Test.YtpgbhgimjpbhoaaChecked
import Derived.Test.YtpgbhgimjpbhoaaSA
import Derived.Test.YtpgbhgimjpbhoaaWA

/- Contracts of layer 6: kinds. -/
namespace Go.Proofs.Ytpgbhgimjpbhoaa
open Go.RowKit
set_option linter.unusedVariables false

set_option maxHeartbeats 4000000 in
theorem kForms (w : World) : Calls Try.prog 116 #[] w fun e w' => ∃ b, e = .returned (.map (some b)) ∧ MapI w' b .i64 formsM ∧ Ext w w' := by
  have hmm := @run_makeMap Try.prog
  go_enter Try.func116, Try.ntmps116
  have own := MapI.made w .i64
  have hE := (Ext.refl w).alloc (.map #[] 0)
  have hb : w.heap.size ≤ w.heap.size := Nat.le_refl _
  go_wp2_with ((with_reducible show wpList _ _ _ ({ dst := _, op := Op.insert _ _ _ _, type := _, pos := _, after := _, guard := _ } :: _) _ _); refine wpList_insert rfl _ _ _ rfl Try.underlying169 Try.underlying3 rfl own rfl rfl rfl ?_; intro w1 own1 hg1; replace hE := hE.put hg1 hb; replace own := own1; clear own1 hg1)
  go_ret
  exact ⟨_, rfl, own, hE⟩

end Go.Proofs.Ytpgbhgimjpbhoaa

/- Contracts of layer 6: what a kind is. -/
namespace Go.Proofs.Ytpgbhgimjpbhoaa
open Go.RowKit
set_option linter.unusedVariables false

theorem zForm (w : World) : (zeroValue 167).run Try.prog w = .ok (formV (⟨#[]⟩, 0, 0)) w := by kernel_rfl

theorem formsLook {w : World} {b : Nat} (h : MapI w b .i64 formsM) (k : Int) {s : ByteArray} {y z : Int} (hf : Hid (formOf k = (s, y, z))) :
    (Instr.lookup 169 (.map (some b)) (.int .i64 k) false).run Try.prog w = .ok (.agg #[.string s, .int .i64 y, .int .i64 z]) w ∧
    (Instr.lookup 169 (.map (some b)) (.int .i64 k) true).run Try.prog w = .ok (.tuple #[.agg #[.string s, .int .i64 y, .int .i64 z], .bool (kindB k)]) w := by
  have := h.look Try.underlying169 Try.underlying3 (zForm w) k
  rw [valI_forms, valI_some, hf.out] at this
  exact this

theorem formField0 (s : ByteArray) (y z : Int) (w : World) : (Instr.field 167 (.agg #[.string s, .int .i64 y, .int .i64 z]) 0).run Try.prog w = .ok (.string s) w := by kernel_rfl

theorem formField2 (s : ByteArray) (y z : Int) (w : World) : (Instr.field 167 (.agg #[.string s, .int .i64 y, .int .i64 z]) 2).run Try.prog w = .ok (.int .i64 z) w := by kernel_rfl

/-- The wire type of a kind; of none: 0. -/
def wireOr (k : Int) : Int := if kindB k = true then wireI k else 0

set_option maxRecDepth 100000 in
theorem kWire (k : Int) (w : World) :
    Calls Try.prog 102 #[.int .i64 k] w fun e w' => e = .returned (.tuple #[.int .i64 (wireOr k), .int .u8 (if kindB k = true then 0 else 2)]) ∧ Ext w w' := by
  rcases hf : formOf k with ⟨s, y, z⟩
  have Hf := Lib.hid hf
  clear hf
  by_cases hk : 1 ≤ k ∧ k ≤ 17
  · have hB : kindB k = true := decide_eq_true hk
    have hW := formOf_wire hk
    have hO : wireOr k = y := by
      have := Hf.out
      unfold wireOr
      rw [if_pos hB, ← hW, this]
    clear hW
    rw [hO, hB]
    clear hO
    go_enter Try.func102, Try.ntmps102
    go_wp2_with (go_at_call 116; refine (kForms _).mono ?_; rintro e w1 ⟨b, rfl, own, E1⟩; have hl := (formsLook own k Hf).2; rw [hB] at hl; clear own)
    go_ret2
    exact ⟨rfl, E1.alloc _⟩
  · have hB : kindB k = false := decide_eq_false hk
    have hO : wireOr k = 0 := by
      unfold wireOr
      rw [hB]; rfl
    rw [hO, hB]
    clear hO
    go_enter Try.func102, Try.ntmps102
    go_wp2_with (go_at_call 116; refine (kForms _).mono ?_; rintro e w1 ⟨b, rfl, own, E1⟩; have hl := (formsLook own k Hf).2; rw [hB] at hl; clear own)
    go_ret2
    exact ⟨rfl, E1.alloc _⟩

theorem kRight (k : Int) (w : World) :
    Calls Try.prog 107 #[.int .i64 k] w fun e w' => e = .returned (.bool (kindB k)) ∧ w = w' := by
  by_cases h1 : 1 ≤ k
  · by_cases h2 : k ≤ 17
    · have hB : kindB k = true := decide_eq_true ⟨h1, h2⟩
      rw [hB]
      clear hB
      go_enter Try.func107, Try.ntmps107
      go_wp2
      go_ret
      exact ⟨ret_bool (by simp), rfl⟩
    · have hB : kindB k = false := decide_eq_false (by omega)
      rw [hB]
      clear hB
      go_enter Try.func107, Try.ntmps107
      go_wp2
      go_ret
      exact ⟨ret_bool (by simp), rfl⟩
  · have hB : kindB k = false := decide_eq_false (by omega)
    rw [hB]
    clear hB
    go_enter Try.func107, Try.ntmps107
    go_wp2
    go_ret
    exact ⟨rfl, rfl⟩

theorem kRightR (k : Int) (w : World) :
    Calls Try.prog 93 #[.int .i64 k] w fun e w' => e = .returned (.bool (kindB k)) ∧ w = w' := by
  by_cases h1 : 1 ≤ k
  · by_cases h2 : k ≤ 17
    · have hB : kindB k = true := decide_eq_true ⟨h1, h2⟩
      rw [hB]
      clear hB
      go_enter Try.func93, Try.ntmps93
      go_wp2
      go_ret
      exact ⟨ret_bool (by simp), rfl⟩
    · have hB : kindB k = false := decide_eq_false (by omega)
      rw [hB]
      clear hB
      go_enter Try.func93, Try.ntmps93
      go_wp2
      go_ret
      exact ⟨ret_bool (by simp), rfl⟩
  · have hB : kindB k = false := decide_eq_false (by omega)
    rw [hB]
    clear hB
    go_enter Try.func93, Try.ntmps93
    go_wp2
    go_ret
    exact ⟨rfl, rfl⟩

theorem kNumberR (k : Int) (w : World) :
    Calls Try.prog 92 #[.int .i64 k] w fun e w' => e = .returned (.bool (numberB k)) ∧ w = w' := by
  by_cases h1 : 1 ≤ k
  · by_cases h2 : k ≤ 14
    · have hB : numberB k = true := decide_eq_true ⟨h1, h2⟩
      rw [hB]
      clear hB
      go_enter Try.func92, Try.ntmps92
      go_wp2
      go_ret
      exact ⟨ret_bool (by simp), rfl⟩
    · have hB : numberB k = false := decide_eq_false (by omega)
      rw [hB]
      clear hB
      go_enter Try.func92, Try.ntmps92
      go_wp2
      go_ret
      exact ⟨ret_bool (by simp), rfl⟩
  · have hB : numberB k = false := decide_eq_false (by omega)
    rw [hB]
    clear hB
    go_enter Try.func92, Try.ntmps92
    go_wp2
    go_ret
    exact ⟨rfl, rfl⟩

theorem kNumber (k : Int) (w : World) :
    Calls Try.prog 101 #[.int .i64 k] w fun e w' => e = .returned (.bool (numberB k)) ∧ Ext w w' := by
  by_cases hk : 1 ≤ k ∧ k ≤ 17
  · have hB : kindB k = true := decide_eq_true hk
    have hN : numberB k = !(decide (wireI k = 2)) := by
      unfold numberB wireI
      rcases kind_cases hk with h | h | h | h | h | h | h | h | h | h | h | h | h | h | h | h | h <;> subst h <;> rfl
    have HN := Lib.hid hN
    clear hN
    have hO : wireOr k = wireI k := by unfold wireOr; rw [if_pos hB]
    go_enter Try.func101, Try.ntmps101
    go_wp2_with (go_at_call 102; refine (kWire k _).mono ?_; rw [hO, hB]; rintro e w1 ⟨rfl, E1⟩)
    go_ret
    exact ⟨ret_bool (by rw [HN.out]; by_cases h : wireI k = 2 <;> simp [h]), E1⟩
  · have hB : kindB k = false := decide_eq_false hk
    have hN : numberB k = false := decide_eq_false (by omega)
    rw [hN]
    clear hN
    have hO : wireOr k = 0 := by unfold wireOr; rw [hB]; rfl
    go_enter Try.func101, Try.ntmps101
    go_wp2_with (go_at_call 102; refine (kWire k _).mono ?_; rw [hO, hB]; rintro e w1 ⟨rfl, E1⟩)
    go_ret
    exact ⟨rfl, E1⟩

theorem kWireR {k : Int} (h : kindB k = true) (w : World) :
    Calls Try.prog 94 #[.int .i64 k] w fun e w' => e = .returned (.int .i64 (wireI k)) ∧ w = w' := by
  have hk : 1 ≤ k ∧ k ≤ 17 := of_decide_eq_true h
  clear h
  go_enter Try.func94, Try.ntmps94
  go_wp2
  all_goals go_ret
  all_goals refine ⟨ret_int ?_, rfl⟩
  all_goals unfold wireI
  all_goals repeat' split
  all_goals omega

theorem ifB {a b : Bool} {x y : Int} (h : a = b) : (if a = true then x else y) = (if b = true then x else y) := by rw [h]

end Go.Proofs.Ytpgbhgimjpbhoaa

/- Contracts of layer 6: what a word means. -/
namespace Go.Proofs.Ytpgbhgimjpbhoaa
open Go.RowKit
set_option linter.unusedVariables false

theorem ret_sc {a a' : Int} {u u' : Value} (h1 : a = a') (h2 : u = u') : Ending.returned (.tuple #[.int .i64 a, u]) = .returned (.tuple #[.int .i64 a', u']) := by rw [h1, h2]

theorem twos_wrap {x : Nat} (h : x < 18446744073709551616) : wrap64 (x : Int) = twosI x := by
  unfold wrap64 twosI
  split <;> omega

theorem twos_neg {x : Nat} (h : x < 18446744073709551616) (h1 : ¬ (x : Int) < 9223372036854775808) : wrap64 (wrap64 (-wrap64 (18446744073709551615 - (x : Int))) - 1) = twosI x := by
  unfold wrap64 twosI
  rw [if_neg (by omega)]
  omega

theorem signed_or (k : Int) : k = 1 ∨ k = 8 ∨ k = 10 ∨ k = 2 ∨ k = 13 ∨ k = 5 ∨ k = 6 ∨ ¬ (k = 1 ∨ k = 8 ∨ k = 10 ∨ k = 2 ∨ k = 13 ∨ k = 5 ∨ k = 6) := by omega

end Go.Proofs.Ytpgbhgimjpbhoaa

/- Contracts of layer 6: all kinds; a kind by its name; the names. -/
namespace Go.Proofs.Ytpgbhgimjpbhoaa
open Go.RowKit
set_option linter.unusedVariables false

/-- A number in a cell. -/
def iv (x : Nat) : Value := .int .i64 (x : Int)

theorem iv_one (l : List Nat) : ∀ u ∈ l.map iv, u.oneCell' = true := by
  intro u hu
  obtain ⟨b, _, rfl⟩ := List.mem_map.1 hu
  rfl

theorem elemI : Elem Try.prog 38 3 1 8 := Elem.mk' (z := .int .i64 0) Try.underlying38 (by kernel_rfl) rfl (by omega)

/-- The kinds' numbers. -/
def kindsN (n : Nat) : List Nat := (List.range n).map (· + 1)

theorem kindsN_succ (n : Nat) : kindsN (n + 1) = kindsN n ++ [n + 1] := by
  unfold kindsN
  rw [List.range_succ, List.map_append]
  rfl

/-- The names, by their kinds' numbers. -/
def namesL : List Value := (List.range 18).map fun k => .string (formOf (k : Nat)).1

theorem names_at {k : Nat} (h : k < 18) : namesL[k]? = some (.string (formOf (k : Nat)).1) := by
  unfold namesL
  rw [List.getElem?_map, List.getElem?_range h]
  rfl

theorem str_eq {a b : ByteArray} : (a.toList == b.toList) = decide (a = b) := by
  by_cases h : a = b
  · subst h; simp
  · rw [decide_eq_false h]
    simp only [beq_eq_false_iff_ne]
    intro e
    rw [ByteArray.toList_eq, ByteArray.toList_eq] at e
    exact h (ByteArray.ext (Array.toList_inj.1 e))

theorem str_same {a b : ByteArray} (h : a = b) : (a.toList == b.toList) = true := by rw [str_eq]; exact decide_eq_true h

theorem str_ne {a b : ByteArray} (h : a ≠ b) : (a.toList == b.toList) = false := by rw [str_eq]; exact decide_eq_false h

theorem ret_kc' {a a' : Int} {c : Value} (h : a = a') : Ending.returned (.tuple #[.int .i64 a, c]) = .returned (.tuple #[.int .i64 a', c]) := by rw [h]

theorem kinds_at {j : Nat} (h : j < 17) : ((kindsN 17).map iv)[j]? = some (.int .i64 ((j : Int) + 1)) := by
  unfold kindsN
  rw [List.getElem?_map, List.getElem?_map, List.getElem?_range h]
  rfl

/-- The code of a parse. -/
def parseC (K : Nat) : Int := if K = 0 then 11 else 0

theorem parseC_0 : parseC 0 = 11 := rfl

theorem parseC_pos {K : Nat} (h : 0 < K) : parseC K = 0 := if_neg (by omega)

end Go.Proofs.Ytpgbhgimjpbhoaa
