/- Contracts of layer 6. -/
import Derived.Test.YtlhbllaojjelcaaDoorChecked
import Derived.Test.YtlhbllaojjelcaaDoorSA
import Derived.Test.YtlhbllaojjelcaaDoorWA

/- Contracts of layer 6: kinds. -/
namespace Go.Proofs.YtlhbllaojjelcaaDoor
open Go.RowKit
set_option linter.unusedVariables false

set_option maxHeartbeats 4000000 in
theorem kForms (w : World) : Calls Tryd.prog 39 #[] w fun e w' => ∃ b, e = .returned (.map (some b)) ∧ MapI w' b .i64 formsM ∧ Ext w w' := by
  have hmm := @run_makeMap Tryd.prog
  go_enter Tryd.func39, Tryd.ntmps39
  have own := MapI.made w .i64
  have hE := (Ext.refl w).alloc (.map #[] 0)
  have hb : w.heap.size ≤ w.heap.size := Nat.le_refl _
  go_wp2_with ((with_reducible show wpList _ _ _ ({ dst := _, op := Op.insert _ _ _ _, type := _, pos := _, after := _, guard := _ } :: _) _ _); refine wpList_insert rfl _ _ _ rfl Tryd.underlying86 Tryd.underlying3 rfl own rfl rfl rfl ?_; intro w1 own1 hg1; replace hE := hE.put hg1 hb; replace own := own1; clear own1 hg1)
  go_ret
  exact ⟨_, rfl, own, hE⟩

end Go.Proofs.YtlhbllaojjelcaaDoor

/- Contracts of layer 6: what a kind is. -/
namespace Go.Proofs.YtlhbllaojjelcaaDoor
open Go.RowKit
set_option linter.unusedVariables false

theorem zForm (w : World) : (zeroValue 84).run Tryd.prog w = .ok (formV (⟨#[]⟩, 0, 0)) w := by kernel_rfl

theorem formsLook {w : World} {b : Nat} (h : MapI w b .i64 formsM) (k : Int) {s : ByteArray} {y z : Int} (hf : Hid (formOf k = (s, y, z))) :
    (Instr.lookup 86 (.map (some b)) (.int .i64 k) false).run Tryd.prog w = .ok (.agg #[.string s, .int .i64 y, .int .i64 z]) w ∧
    (Instr.lookup 86 (.map (some b)) (.int .i64 k) true).run Tryd.prog w = .ok (.tuple #[.agg #[.string s, .int .i64 y, .int .i64 z], .bool (kindB k)]) w := by
  have := h.look Tryd.underlying86 Tryd.underlying3 (zForm w) k
  rw [valI_forms, valI_some, hf.out] at this
  exact this

theorem formField0 (s : ByteArray) (y z : Int) (w : World) : (Instr.field 84 (.agg #[.string s, .int .i64 y, .int .i64 z]) 0).run Tryd.prog w = .ok (.string s) w := by kernel_rfl

theorem formField2 (s : ByteArray) (y z : Int) (w : World) : (Instr.field 84 (.agg #[.string s, .int .i64 y, .int .i64 z]) 2).run Tryd.prog w = .ok (.int .i64 z) w := by kernel_rfl

/-- The wire type of a kind; of none: 0. -/
def wireOr (k : Int) : Int := if kindB k = true then wireI k else 0

set_option maxRecDepth 100000 in
theorem kWire (k : Int) (w : World) :
    Calls Tryd.prog 23 #[.int .i64 k] w fun e w' => e = .returned (.tuple #[.int .i64 (wireOr k), .int .u8 (if kindB k = true then 0 else 2)]) ∧ Ext w w' := by
  rcases hf : formOf k with ⟨s, y, z⟩
  have Hf := Lib.hid hf
  clear hf
  by_cases hk : 1 ≤ k ∧ k ≤ 17
  · have hB : kindB k = true := decide_eq_true hk
    have hW := formOf_wire hk
    have hO : wireOr k = y := by
      have := Hf.out
      unfold wireOr
      rw [if_pos hB, ← hW, this]
    clear hW
    rw [hO, hB]
    clear hO
    go_enter Tryd.func23, Tryd.ntmps23
    go_wp2_with (go_at_call 39; refine (kForms _).mono ?_; rintro e w1 ⟨b, rfl, own, E1⟩; have hl := (formsLook own k Hf).2; rw [hB] at hl; clear own)
    go_ret2
    exact ⟨rfl, E1.alloc _⟩
  · have hB : kindB k = false := decide_eq_false hk
    have hO : wireOr k = 0 := by
      unfold wireOr
      rw [hB]; rfl
    rw [hO, hB]
    clear hO
    go_enter Tryd.func23, Tryd.ntmps23
    go_wp2_with (go_at_call 39; refine (kForms _).mono ?_; rintro e w1 ⟨b, rfl, own, E1⟩; have hl := (formsLook own k Hf).2; rw [hB] at hl; clear own)
    go_ret2
    exact ⟨rfl, E1.alloc _⟩

theorem kRight (k : Int) (w : World) :
    Calls Tryd.prog 75 #[.int .i64 k] w fun e w' => e = .returned (.bool (kindB k)) ∧ w = w' := by
  by_cases h1 : 1 ≤ k
  · by_cases h2 : k ≤ 17
    · have hB : kindB k = true := decide_eq_true ⟨h1, h2⟩
      rw [hB]
      clear hB
      go_enter Tryd.func75, Tryd.ntmps75
      go_wp2
      go_ret
      exact ⟨ret_bool (by simp), rfl⟩
    · have hB : kindB k = false := decide_eq_false (by omega)
      rw [hB]
      clear hB
      go_enter Tryd.func75, Tryd.ntmps75
      go_wp2
      go_ret
      exact ⟨ret_bool (by simp), rfl⟩
  · have hB : kindB k = false := decide_eq_false (by omega)
    rw [hB]
    clear hB
    go_enter Tryd.func75, Tryd.ntmps75
    go_wp2
    go_ret
    exact ⟨rfl, rfl⟩

theorem kNumber (k : Int) (w : World) :
    Calls Tryd.prog 16 #[.int .i64 k] w fun e w' => e = .returned (.bool (numberB k)) ∧ Ext w w' := by
  by_cases hk : 1 ≤ k ∧ k ≤ 17
  · have hB : kindB k = true := decide_eq_true hk
    have hN : numberB k = !(decide (wireI k = 2)) := by
      unfold numberB wireI
      rcases kind_cases hk with h | h | h | h | h | h | h | h | h | h | h | h | h | h | h | h | h <;> subst h <;> rfl
    have HN := Lib.hid hN
    clear hN
    have hO : wireOr k = wireI k := by unfold wireOr; rw [if_pos hB]
    go_enter Tryd.func16, Tryd.ntmps16
    go_wp2_with (go_at_call 23; refine (kWire k _).mono ?_; rw [hO, hB]; rintro e w1 ⟨rfl, E1⟩)
    go_ret
    exact ⟨ret_bool (by rw [HN.out]; by_cases h : wireI k = 2 <;> simp [h]), E1⟩
  · have hB : kindB k = false := decide_eq_false hk
    have hN : numberB k = false := decide_eq_false (by omega)
    rw [hN]
    clear hN
    have hO : wireOr k = 0 := by unfold wireOr; rw [hB]; rfl
    go_enter Tryd.func16, Tryd.ntmps16
    go_wp2_with (go_at_call 23; refine (kWire k _).mono ?_; rw [hO, hB]; rintro e w1 ⟨rfl, E1⟩)
    go_ret
    exact ⟨rfl, E1⟩

theorem ifB {a b : Bool} {x y : Int} (h : a = b) : (if a = true then x else y) = (if b = true then x else y) := by rw [h]

theorem kCanon (k : Int) (x : Nat) (hx : x < 18446744073709551616) (w : World) :
    Calls Tryd.prog 25 #[.int .i64 k, .int .u64 x] w fun e w' => e = .returned (.tuple #[.int .u64 (if numberB k = true then (canonN k x : Int) else 0), .int .u8 (if numberB k = true then 0 else 2)]) ∧ Ext w w' := by
  rcases hf : formOf k with ⟨s, y, z⟩
  have Hf := Lib.hid hf
  clear hf
  by_cases hn : 1 ≤ k ∧ k ≤ 14
  · have hB : numberB k = true := decide_eq_true hn
    have hbits := formOf_bits hn
    rw [Hf.out] at hbits
    simp only at hbits
    rw [if_pos hB, if_pos hB]
    have hs := sign32I_bd x
    have hsl := sign32I_wide_lt x
    by_cases c1 : k = 1 ∨ k = 8
    · have hc : ((canonN k x : Nat) : Int) = wideI (sign32I x) := by unfold canonN; rw [if_pos c1]; omega
      have Hc := Lib.hid hc
      clear hc hbits hn
      have H1 : ∀ w0 : World, Calls Tryd.prog 25 #[.int .i64 k, .int .u64 x] w0 fun e w' => e = .returned (.tuple #[.int .u64 (wideI (sign32I x)), .int .u8 0]) ∧ Ext w0 w' := by
        intro w0
        clear Hc
        rcases c1 with rfl | rfl
        · go_enter Tryd.func25, Tryd.ntmps25
          go_wp2_with (first | (go_at_call 16; refine (kNumber _ _).mono ?_; rw [hB]; rintro e w1 ⟨rfl, E1⟩) | (go_at_call 41; refine (sign32 _ _ (by omega) (by omega)).mono ?_; rintro e w2 ⟨rfl, rfl⟩) | (go_at_call 40; refine (wide32 _ _ (by omega) (by omega)).mono ?_; rintro e w2 ⟨rfl, rfl⟩))
          go_ret2
          exact ⟨rfl, E1⟩
        · go_enter Tryd.func25, Tryd.ntmps25
          go_wp2_with (first | (go_at_call 16; refine (kNumber _ _).mono ?_; rw [hB]; rintro e w1 ⟨rfl, E1⟩) | (go_at_call 41; refine (sign32 _ _ (by omega) (by omega)).mono ?_; rintro e w2 ⟨rfl, rfl⟩) | (go_at_call 40; refine (wide32 _ _ (by omega) (by omega)).mono ?_; rintro e w2 ⟨rfl, rfl⟩))
          go_ret2
          exact ⟨rfl, E1⟩
      rw [Hc.out]
      exact H1 w
    · by_cases c7 : k = 7
      · subst c7
        by_cases h0 : x = 0
        · subst h0
          go_enter Tryd.func25, Tryd.ntmps25
          go_wp2_with (go_at_call 16; refine (kNumber _ _).mono ?_; rw [hB]; rintro e w1 ⟨rfl, E1⟩)
          go_ret2
          exact ⟨rfl, E1⟩
        · have hc : canonN 7 x = 1 := by unfold canonN; rw [if_neg (by decide), if_pos rfl, if_neg h0]
          rw [hc]
          have q : (((x : Nat) : Int) != 0) = true := by simp; omega
          clear hc
          go_enter Tryd.func25, Tryd.ntmps25
          go_wp2_with (go_at_call 16; refine (kNumber _ _).mono ?_; rw [hB]; rintro e w1 ⟨rfl, E1⟩)
          go_ret2
          exact ⟨rfl, E1⟩
      · have q1 : (k == 1) = false := by simp; omega
        have q8 : (k == 8) = false := by simp; omega
        have q7 : (k == 7) = false := by simp; omega
        by_cases c3 : k = 3 ∨ k = 5 ∨ k = 9 ∨ k = 10 ∨ k = 11
        · have hb : (z == 32) = true := by simp only [beq_iff_eq]; exact hbits.2 (by omega)
          have hc : ((canonN k x : Nat) : Int) = (x : Int) % 4294967296 := by unfold canonN; rw [if_neg c1, if_neg c7, if_pos c3]; rfl
          have Hc := Lib.hid hc
          clear hc hbits hn c1 c7 c3 hs hsl
          go_enter Tryd.func25, Tryd.ntmps25
          go_wp2_with (first | (go_at_call 16; refine (kNumber _ _).mono ?_; rw [hB]; rintro e w1 ⟨rfl, E1⟩) | (go_at_call 39; refine (kForms _).mono ?_; rintro e w2 ⟨b, rfl, own, E2⟩; have hl := (formsLook own k Hf).1; clear own; have hfd := formField2 s y z w2) | (go_at_call 42; refine (low32 _ _ (by omega) (by omega)).mono ?_; rintro e w3 ⟨rfl, rfl⟩))
          go_ret2
          rw [Hc.out]
          exact ⟨rfl, E1.trans E2⟩
        · have hb : (z == 32) = false := by simp only [beq_eq_false_iff_ne]; intro e; have := hbits.1 e; omega
          have hc : ((canonN k x : Nat) : Int) = (x : Int) := by unfold canonN; rw [if_neg c1, if_neg c7, if_neg c3]
          have Hc := Lib.hid hc
          clear hc hbits hn c1 c7 c3 hs hsl
          go_enter Tryd.func25, Tryd.ntmps25
          go_wp2_with (first | (go_at_call 16; refine (kNumber _ _).mono ?_; rw [hB]; rintro e w1 ⟨rfl, E1⟩) | (go_at_call 39; refine (kForms _).mono ?_; rintro e w2 ⟨b, rfl, own, E2⟩; have hl := (formsLook own k Hf).1; clear own; have hfd := formField2 s y z w2))
          go_ret2
          rw [Hc.out]
          exact ⟨rfl, E1.trans E2⟩
  · have hB : numberB k = false := decide_eq_false hn
    rw [if_neg (by rw [hB]; decide), if_neg (by rw [hB]; decide)]
    go_enter Tryd.func25, Tryd.ntmps25
    go_wp2_with (go_at_call 16; refine (kNumber _ _).mono ?_; rw [hB]; rintro e w1 ⟨rfl, E1⟩)
    go_ret2
    exact ⟨rfl, E1⟩

end Go.Proofs.YtlhbllaojjelcaaDoor

/- Contracts of layer 6: what a word means. -/
namespace Go.Proofs.YtlhbllaojjelcaaDoor
open Go.RowKit
set_option linter.unusedVariables false

theorem ret_sc {a a' : Int} {u u' : Value} (h1 : a = a') (h2 : u = u') : Ending.returned (.tuple #[.int .i64 a, u]) = .returned (.tuple #[.int .i64 a', u']) := by rw [h1, h2]

theorem twos_wrap {x : Nat} (h : x < 18446744073709551616) : wrap64 (x : Int) = twosI x := by
  unfold wrap64 twosI
  split <;> omega

theorem twos_neg {x : Nat} (h : x < 18446744073709551616) (h1 : ¬ (x : Int) < 9223372036854775808) : wrap64 (wrap64 (-wrap64 (18446744073709551615 - (x : Int))) - 1) = twosI x := by
  unfold wrap64 twosI
  rw [if_neg (by omega)]
  omega

theorem signed_or (k : Int) : k = 1 ∨ k = 8 ∨ k = 10 ∨ k = 2 ∨ k = 13 ∨ k = 5 ∨ k = 6 ∨ ¬ (k = 1 ∨ k = 8 ∨ k = 10 ∨ k = 2 ∨ k = 13 ∨ k = 5 ∨ k = 6) := by omega

end Go.Proofs.YtlhbllaojjelcaaDoor

/- Contracts of layer 6: all kinds; a kind by its name; the names. -/
namespace Go.Proofs.YtlhbllaojjelcaaDoor
open Go.RowKit
set_option linter.unusedVariables false

/-- A number in a cell. -/
def iv (x : Nat) : Value := .int .i64 (x : Int)

theorem iv_one (l : List Nat) : ∀ u ∈ l.map iv, u.oneCell' = true := by
  intro u hu
  obtain ⟨b, _, rfl⟩ := List.mem_map.1 hu
  rfl

theorem elemI : Elem Tryd.prog 69 3 1 8 := Elem.mk' (z := .int .i64 0) Tryd.underlying69 (by kernel_rfl) rfl (by omega)

/-- The kinds' numbers. -/
def kindsN (n : Nat) : List Nat := (List.range n).map (· + 1)

theorem kindsN_succ (n : Nat) : kindsN (n + 1) = kindsN n ++ [n + 1] := by
  unfold kindsN
  rw [List.range_succ, List.map_append]
  rfl

/-- The names, by their kinds' numbers. -/
def namesL : List Value := (List.range 18).map fun k => .string (formOf (k : Nat)).1

theorem names_at {k : Nat} (h : k < 18) : namesL[k]? = some (.string (formOf (k : Nat)).1) := by
  unfold namesL
  rw [List.getElem?_map, List.getElem?_range h]
  rfl

theorem str_eq {a b : ByteArray} : (a.toList == b.toList) = decide (a = b) := by
  by_cases h : a = b
  · subst h; simp
  · rw [decide_eq_false h]
    simp only [beq_eq_false_iff_ne]
    intro e
    rw [ByteArray.toList_eq, ByteArray.toList_eq] at e
    exact h (ByteArray.ext (Array.toList_inj.1 e))

theorem str_same {a b : ByteArray} (h : a = b) : (a.toList == b.toList) = true := by rw [str_eq]; exact decide_eq_true h

theorem str_ne {a b : ByteArray} (h : a ≠ b) : (a.toList == b.toList) = false := by rw [str_eq]; exact decide_eq_false h

theorem ret_kc' {a a' : Int} {c : Value} (h : a = a') : Ending.returned (.tuple #[.int .i64 a, c]) = .returned (.tuple #[.int .i64 a', c]) := by rw [h]

theorem kinds_at {j : Nat} (h : j < 17) : ((kindsN 17).map iv)[j]? = some (.int .i64 ((j : Int) + 1)) := by
  unfold kindsN
  rw [List.getElem?_map, List.getElem?_map, List.getElem?_range h]
  rfl

/-- The code of a parse. -/
def parseC (K : Nat) : Int := if K = 0 then 11 else 0

theorem parseC_0 : parseC 0 = 11 := rfl

theorem parseC_pos {K : Nat} (h : 0 < K) : parseC K = 0 := if_neg (by omega)

end Go.Proofs.YtlhbllaojjelcaaDoor
