/- Contracts of layer 6. -/
import Derived.Test.YtpicpebolghcfaaGreatDoorChecked
import Derived.Test.YtpicpebolghcfaaGreatDoorQjSA
import Derived.Test.YtpicpebolghcfaaGreatDoorQjWA

/- Contracts of layer 6: kinds. -/
namespace Go.Proofs.YtpicpebolghcfaaGreatDoor
open Go.RowKit
set_option linter.unusedVariables false

set_option maxHeartbeats 4000000 in
theorem kForms (w : World) : Calls Tryz.prog 92 #[] w fun e w' => ∃ b, e = .returned (.map (some b)) ∧ MapI w' b .i64 formsM ∧ Ext w w' := by
  have hmm := @run_makeMap Tryz.prog
  go_enter Tryz.func92, Tryz.ntmps92
  have own := MapI.made w .i64
  have hE := (Ext.refl w).alloc (.map #[] 0)
  have hb : w.heap.size ≤ w.heap.size := Nat.le_refl _
  go_wp2_with ((with_reducible show wpList _ _ _ ({ dst := _, op := Op.insert _ _ _ _, type := _, pos := _, after := _, guard := _ } :: _) _ _); refine wpList_insert rfl _ _ _ rfl Tryz.underlying160 Tryz.underlying3 rfl own rfl rfl rfl ?_; intro w1 own1 hg1; replace hE := hE.put hg1 hb; replace own := own1; clear own1 hg1)
  go_ret
  exact ⟨_, rfl, own, hE⟩

end Go.Proofs.YtpicpebolghcfaaGreatDoor

/- Contracts of layer 6: what a kind is. -/
namespace Go.Proofs.YtpicpebolghcfaaGreatDoor
open Go.RowKit
set_option linter.unusedVariables false

theorem zForm (w : World) : (zeroValue 158).run Tryz.prog w = .ok (formV (⟨#[]⟩, 0, 0)) w := by kernel_rfl

theorem formsLook {w : World} {b : Nat} (h : MapI w b .i64 formsM) (k : Int) {s : ByteArray} {y z : Int} (hf : Hid (formOf k = (s, y, z))) :
    (Instr.lookup 160 (.map (some b)) (.int .i64 k) false).run Tryz.prog w = .ok (.agg #[.string s, .int .i64 y, .int .i64 z]) w ∧
    (Instr.lookup 160 (.map (some b)) (.int .i64 k) true).run Tryz.prog w = .ok (.tuple #[.agg #[.string s, .int .i64 y, .int .i64 z], .bool (kindB k)]) w := by
  have := h.look Tryz.underlying160 Tryz.underlying3 (zForm w) k
  rw [valI_forms, valI_some, hf.out] at this
  exact this

theorem formField2 (s : ByteArray) (y z : Int) (w : World) : (Instr.field 158 (.agg #[.string s, .int .i64 y, .int .i64 z]) 2).run Tryz.prog w = .ok (.int .i64 z) w := by kernel_rfl

def wireOr (k : Int) : Int := if kindB k = true then wireI k else 0

set_option maxRecDepth 100000 in
theorem kWire (k : Int) (w : World) :
    Calls Tryz.prog 58 #[.int .i64 k] w fun e w' => e = .returned (.tuple #[.int .i64 (wireOr k), .int .u8 (if kindB k = true then 0 else 2)]) ∧ Ext w w' := by
  rcases hf : formOf k with ⟨s, y, z⟩
  have Hf := Lib.hid hf
  clear hf
  by_cases hk : 1 ≤ k ∧ k ≤ 17
  · have hB : kindB k = true := decide_eq_true hk
    have hW := formOf_wire hk
    have hO : wireOr k = y := by
      have := Hf.out
      unfold wireOr
      rw [if_pos hB, ← hW, this]
    clear hW
    rw [hO, hB]
    clear hO
    go_enter Tryz.func58, Tryz.ntmps58
    go_wp2_with (go_at_call 92; refine (kForms _).mono ?_; rintro e w1 ⟨b, rfl, own, E1⟩; have hl := (formsLook own k Hf).2; rw [hB] at hl; clear own)
    go_ret2
    exact ⟨rfl, E1.alloc _⟩
  · have hB : kindB k = false := decide_eq_false hk
    have hO : wireOr k = 0 := by
      unfold wireOr
      rw [hB]; rfl
    rw [hO, hB]
    clear hO
    go_enter Tryz.func58, Tryz.ntmps58
    go_wp2_with (go_at_call 92; refine (kForms _).mono ?_; rintro e w1 ⟨b, rfl, own, E1⟩; have hl := (formsLook own k Hf).2; rw [hB] at hl; clear own)
    go_ret2
    exact ⟨rfl, E1.alloc _⟩

theorem kRight (k : Int) (w : World) :
    Calls Tryz.prog 152 #[.int .i64 k] w fun e w' => e = .returned (.bool (kindB k)) ∧ w = w' := by
  by_cases h1 : 1 ≤ k
  · by_cases h2 : k ≤ 17
    · have hB : kindB k = true := decide_eq_true ⟨h1, h2⟩
      rw [hB]
      clear hB
      go_enter Tryz.func152, Tryz.ntmps152
      go_wp2
      go_ret
      exact ⟨ret_bool (by simp), rfl⟩
    · have hB : kindB k = false := decide_eq_false (by omega)
      rw [hB]
      clear hB
      go_enter Tryz.func152, Tryz.ntmps152
      go_wp2
      go_ret
      exact ⟨ret_bool (by simp), rfl⟩
  · have hB : kindB k = false := decide_eq_false (by omega)
    rw [hB]
    clear hB
    go_enter Tryz.func152, Tryz.ntmps152
    go_wp2
    go_ret
    exact ⟨rfl, rfl⟩

theorem kRightR (k : Int) (w : World) :
    Calls Tryz.prog 85 #[.int .i64 k] w fun e w' => e = .returned (.bool (kindB k)) ∧ w = w' := by
  by_cases h1 : 1 ≤ k
  · by_cases h2 : k ≤ 17
    · have hB : kindB k = true := decide_eq_true ⟨h1, h2⟩
      rw [hB]
      clear hB
      go_enter Tryz.func85, Tryz.ntmps85
      go_wp2
      go_ret
      exact ⟨ret_bool (by simp), rfl⟩
    · have hB : kindB k = false := decide_eq_false (by omega)
      rw [hB]
      clear hB
      go_enter Tryz.func85, Tryz.ntmps85
      go_wp2
      go_ret
      exact ⟨ret_bool (by simp), rfl⟩
  · have hB : kindB k = false := decide_eq_false (by omega)
    rw [hB]
    clear hB
    go_enter Tryz.func85, Tryz.ntmps85
    go_wp2
    go_ret
    exact ⟨rfl, rfl⟩

theorem kNumberR (k : Int) (w : World) :
    Calls Tryz.prog 14 #[.int .i64 k] w fun e w' => e = .returned (.bool (numberB k)) ∧ w = w' := by
  by_cases h1 : 1 ≤ k
  · by_cases h2 : k ≤ 14
    · have hB : numberB k = true := decide_eq_true ⟨h1, h2⟩
      rw [hB]
      clear hB
      go_enter Tryz.func14, Tryz.ntmps14
      go_wp2
      go_ret
      exact ⟨ret_bool (by simp), rfl⟩
    · have hB : numberB k = false := decide_eq_false (by omega)
      rw [hB]
      clear hB
      go_enter Tryz.func14, Tryz.ntmps14
      go_wp2
      go_ret
      exact ⟨ret_bool (by simp), rfl⟩
  · have hB : numberB k = false := decide_eq_false (by omega)
    rw [hB]
    clear hB
    go_enter Tryz.func14, Tryz.ntmps14
    go_wp2
    go_ret
    exact ⟨rfl, rfl⟩

theorem kNumber (k : Int) (w : World) :
    Calls Tryz.prog 31 #[.int .i64 k] w fun e w' => e = .returned (.bool (numberB k)) ∧ Ext w w' := by
  by_cases hk : 1 ≤ k ∧ k ≤ 17
  · have hB : kindB k = true := decide_eq_true hk
    have hN : numberB k = !(decide (wireI k = 2)) := by
      unfold numberB wireI
      rcases kind_cases hk with h | h | h | h | h | h | h | h | h | h | h | h | h | h | h | h | h <;> subst h <;> rfl
    have HN := Lib.hid hN
    clear hN
    have hO : wireOr k = wireI k := by unfold wireOr; rw [if_pos hB]
    go_enter Tryz.func31, Tryz.ntmps31
    go_wp2_with (go_at_call 58; refine (kWire k _).mono ?_; rw [hO, hB]; rintro e w1 ⟨rfl, E1⟩)
    go_ret
    exact ⟨ret_bool (by rw [HN.out]; by_cases h : wireI k = 2 <;> simp [h]), E1⟩
  · have hB : kindB k = false := decide_eq_false hk
    have hN : numberB k = false := decide_eq_false (by omega)
    rw [hN]
    clear hN
    have hO : wireOr k = 0 := by unfold wireOr; rw [hB]; rfl
    go_enter Tryz.func31, Tryz.ntmps31
    go_wp2_with (go_at_call 58; refine (kWire k _).mono ?_; rw [hO, hB]; rintro e w1 ⟨rfl, E1⟩)
    go_ret
    exact ⟨rfl, E1⟩

theorem kWireR {k : Int} (h : kindB k = true) (w : World) :
    Calls Tryz.prog 68 #[.int .i64 k] w fun e w' => e = .returned (.int .i64 (wireI k)) ∧ w = w' := by
  have hk : 1 ≤ k ∧ k ≤ 17 := of_decide_eq_true h
  clear h
  go_enter Tryz.func68, Tryz.ntmps68
  go_wp2
  all_goals go_ret
  all_goals refine ⟨ret_int ?_, rfl⟩
  all_goals unfold wireI
  all_goals repeat' split
  all_goals omega

theorem kCanon (k : Int) (x : Nat) (hx : x < 18446744073709551616) (w : World) :
    Calls Tryz.prog 80 #[.int .i64 k, .int .u64 x] w fun e w' => e = .returned (.tuple #[.int .u64 (if numberB k = true then (canonN k x : Int) else 0), .int .u8 (if numberB k = true then 0 else 2)]) ∧ Ext w w' := by
  rcases hf : formOf k with ⟨s, y, z⟩
  have Hf := Lib.hid hf
  clear hf
  by_cases hn : 1 ≤ k ∧ k ≤ 14
  · have hB : numberB k = true := decide_eq_true hn
    have hbits := formOf_bits hn
    rw [Hf.out] at hbits
    simp only at hbits
    rw [if_pos hB, if_pos hB]
    have hs := sign32I_bd x
    have hsl := sign32I_wide_lt x
    by_cases c1 : k = 1 ∨ k = 8
    · have hc : ((canonN k x : Nat) : Int) = wideI (sign32I x) := by unfold canonN; rw [if_pos c1]; omega
      have Hc := Lib.hid hc
      clear hc hbits hn
      have H1 : ∀ w0 : World, Calls Tryz.prog 80 #[.int .i64 k, .int .u64 x] w0 fun e w' => e = .returned (.tuple #[.int .u64 (wideI (sign32I x)), .int .u8 0]) ∧ Ext w0 w' := by
        intro w0
        clear Hc
        rcases c1 with rfl | rfl
        · go_enter Tryz.func80, Tryz.ntmps80
          go_wp2_with (first | (go_at_call 31; refine (kNumber _ _).mono ?_; rw [hB]; rintro e w1 ⟨rfl, E1⟩) | (go_at_call 111; refine (sign32 _ _ (by omega) (by omega)).mono ?_; rintro e w2 ⟨rfl, rfl⟩) | (go_at_call 110; refine (wide32 _ _ (by omega) (by omega)).mono ?_; rintro e w2 ⟨rfl, rfl⟩))
          go_ret2
          exact ⟨rfl, E1⟩
        · go_enter Tryz.func80, Tryz.ntmps80
          go_wp2_with (first | (go_at_call 31; refine (kNumber _ _).mono ?_; rw [hB]; rintro e w1 ⟨rfl, E1⟩) | (go_at_call 111; refine (sign32 _ _ (by omega) (by omega)).mono ?_; rintro e w2 ⟨rfl, rfl⟩) | (go_at_call 110; refine (wide32 _ _ (by omega) (by omega)).mono ?_; rintro e w2 ⟨rfl, rfl⟩))
          go_ret2
          exact ⟨rfl, E1⟩
      rw [Hc.out]
      exact H1 w
    · by_cases c7 : k = 7
      · subst c7
        by_cases h0 : x = 0
        · subst h0
          go_enter Tryz.func80, Tryz.ntmps80
          go_wp2_with (go_at_call 31; refine (kNumber _ _).mono ?_; rw [hB]; rintro e w1 ⟨rfl, E1⟩)
          go_ret2
          exact ⟨rfl, E1⟩
        · have hc : canonN 7 x = 1 := by unfold canonN; rw [if_neg (by decide), if_pos rfl, if_neg h0]
          rw [hc]
          have q : (((x : Nat) : Int) != 0) = true := by simp; omega
          clear hc
          go_enter Tryz.func80, Tryz.ntmps80
          go_wp2_with (go_at_call 31; refine (kNumber _ _).mono ?_; rw [hB]; rintro e w1 ⟨rfl, E1⟩)
          go_ret2
          exact ⟨rfl, E1⟩
      · have q1 : (k == 1) = false := by simp; omega
        have q8 : (k == 8) = false := by simp; omega
        have q7 : (k == 7) = false := by simp; omega
        by_cases c3 : k = 3 ∨ k = 5 ∨ k = 9 ∨ k = 10 ∨ k = 11
        · have hb : (z == 32) = true := by simp only [beq_iff_eq]; exact hbits.2 (by omega)
          have hc : ((canonN k x : Nat) : Int) = (x : Int) % 4294967296 := by unfold canonN; rw [if_neg c1, if_neg c7, if_pos c3]; rfl
          have Hc := Lib.hid hc
          clear hc hbits hn c1 c7 c3 hs hsl
          go_enter Tryz.func80, Tryz.ntmps80
          go_wp2_with (first | (go_at_call 31; refine (kNumber _ _).mono ?_; rw [hB]; rintro e w1 ⟨rfl, E1⟩) | (go_at_call 92; refine (kForms _).mono ?_; rintro e w2 ⟨b, rfl, own, E2⟩; have hl := (formsLook own k Hf).1; clear own; have hfd := formField2 s y z w2) | (go_at_call 112; refine (low32 _ _ (by omega) (by omega)).mono ?_; rintro e w3 ⟨rfl, rfl⟩))
          go_ret2
          rw [Hc.out]
          exact ⟨rfl, E1.trans E2⟩
        · have hb : (z == 32) = false := by simp only [beq_eq_false_iff_ne]; intro e; have := hbits.1 e; omega
          have hc : ((canonN k x : Nat) : Int) = (x : Int) := by unfold canonN; rw [if_neg c1, if_neg c7, if_neg c3]
          have Hc := Lib.hid hc
          clear hc hbits hn c1 c7 c3 hs hsl
          go_enter Tryz.func80, Tryz.ntmps80
          go_wp2_with (first | (go_at_call 31; refine (kNumber _ _).mono ?_; rw [hB]; rintro e w1 ⟨rfl, E1⟩) | (go_at_call 92; refine (kForms _).mono ?_; rintro e w2 ⟨b, rfl, own, E2⟩; have hl := (formsLook own k Hf).1; clear own; have hfd := formField2 s y z w2))
          go_ret2
          rw [Hc.out]
          exact ⟨rfl, E1.trans E2⟩
  · have hB : numberB k = false := decide_eq_false hn
    rw [if_neg (by rw [hB]; decide), if_neg (by rw [hB]; decide)]
    go_enter Tryz.func80, Tryz.ntmps80
    go_wp2_with (go_at_call 31; refine (kNumber _ _).mono ?_; rw [hB]; rintro e w1 ⟨rfl, E1⟩)
    go_ret2
    exact ⟨rfl, E1⟩

end Go.Proofs.YtpicpebolghcfaaGreatDoor

/- Contracts of layer 6: what a word means. -/
namespace Go.Proofs.YtpicpebolghcfaaGreatDoor
open Go.RowKit
set_option linter.unusedVariables false

theorem kCanonR (k : Int) (x : Nat) (hx : x < 18446744073709551616) (w : World) :
    Calls Tryz.prog 53 #[.int .i64 k, .int .u64 x] w fun e w' => e = .returned (.int .u64 (canonN k x)) ∧ w = w' := by
  have hs := sign32I_bd x
  have hsl := sign32I_wide_lt x
  by_cases c1 : k = 1 ∨ k = 8
  · have hc : ((canonN k x : Nat) : Int) = wideI (sign32I x) := by unfold canonN; rw [if_pos c1]; omega
    have Hc := Lib.hid hc
    clear hc
    have H1 : ∀ w0 : World, Calls Tryz.prog 53 #[.int .i64 k, .int .u64 x] w0 fun e w' => e = .returned (.int .u64 (wideI (sign32I x))) ∧ w0 = w' := by
      intro w0
      clear Hc
      rcases c1 with rfl | rfl
      · go_enter Tryz.func53, Tryz.ntmps53
        go_wp2_with (first | (go_at_call 84; refine (sign32R _ _ (by omega) (by omega)).mono ?_; rintro e w2 ⟨rfl, rfl⟩) | (go_at_call 83; refine (wideR _ _ (by omega) (by omega)).mono ?_; rintro e w2 ⟨rfl, rfl⟩))
        go_ret
        exact ⟨rfl, rfl⟩
      · go_enter Tryz.func53, Tryz.ntmps53
        go_wp2_with (first | (go_at_call 84; refine (sign32R _ _ (by omega) (by omega)).mono ?_; rintro e w2 ⟨rfl, rfl⟩) | (go_at_call 83; refine (wideR _ _ (by omega) (by omega)).mono ?_; rintro e w2 ⟨rfl, rfl⟩))
        go_ret
        exact ⟨rfl, rfl⟩
    rw [Hc.out]
    exact H1 w
  · by_cases c7 : k = 7
    · subst c7
      clear hs hsl
      by_cases h0 : x = 0
      · subst h0
        go_enter Tryz.func53, Tryz.ntmps53
        go_wp2
        go_ret
        exact ⟨rfl, rfl⟩
      · have hc : canonN 7 x = 1 := by unfold canonN; rw [if_neg (by decide), if_pos rfl, if_neg h0]
        rw [hc]
        have q : (0 : Int) < (x : Nat) := by omega
        clear hc h0
        go_enter Tryz.func53, Tryz.ntmps53
        go_wp2
        go_ret
        exact ⟨rfl, rfl⟩
    · by_cases c3 : k = 3 ∨ k = 5 ∨ k = 9 ∨ k = 10 ∨ k = 11
      · have hc : ((canonN k x : Nat) : Int) = (x : Int) % 4294967296 := by unfold canonN; rw [if_neg c1, if_neg c7, if_pos c3]; rfl
        have Hc := Lib.hid hc
        clear hc hs hsl c1 c7
        have H1 : ∀ w0 : World, Calls Tryz.prog 53 #[.int .i64 k, .int .u64 x] w0 fun e w' => e = .returned (.int .u64 ((x : Int) % 4294967296)) ∧ w0 = w' := by
          intro w0
          clear Hc
          rcases c3 with rfl | rfl | rfl | rfl | rfl
          all_goals
            go_enter Tryz.func53, Tryz.ntmps53
            go_wp2
            go_ret
            exact ⟨rfl, rfl⟩
        rw [Hc.out]
        exact H1 w
      · have hc : ((canonN k x : Nat) : Int) = (x : Int) := by unfold canonN; rw [if_neg c1, if_neg c7, if_neg c3]
        have q1 : (k == 1) = false := by simp; omega
        have q3 : (k == 3) = false := by simp; omega
        have q5 : (k == 5) = false := by simp; omega
        have q7 : (k == 7) = false := by simp; omega
        have q8 : (k == 8) = false := by simp; omega
        have q9 : (k == 9) = false := by simp; omega
        have q10 : (k == 10) = false := by simp; omega
        have q11 : (k == 11) = false := by simp; omega
        have Hc := Lib.hid hc
        clear hc hs hsl c1 c7 c3
        go_enter Tryz.func53, Tryz.ntmps53
        go_wp2
        go_ret
        rw [Hc.out]
        exact ⟨rfl, rfl⟩

end Go.Proofs.YtpicpebolghcfaaGreatDoor

/- Contracts of layer 6: all kinds; a kind by its name; the names. -/
namespace Go.Proofs.YtpicpebolghcfaaGreatDoor
open Go.RowKit
set_option linter.unusedVariables false

def iv (x : Nat) : Value := .int .i64 (x : Int)

theorem iv_one (l : List Nat) : ∀ u ∈ l.map iv, u.oneCell' = true := by
  intro u hu
  obtain ⟨b, _, rfl⟩ := List.mem_map.1 hu
  rfl

theorem elemI : Elem Tryz.prog 34 3 1 8 := Elem.mk' (z := .int .i64 0) Tryz.underlying34 (by kernel_rfl) rfl (by omega)

theorem str_eq {a b : ByteArray} : (a.toList == b.toList) = decide (a = b) := by
  by_cases h : a = b
  · subst h; simp
  · rw [decide_eq_false h]
    simp only [beq_eq_false_iff_ne]
    intro e
    rw [ByteArray.toList_eq, ByteArray.toList_eq] at e
    exact h (ByteArray.ext (Array.toList_inj.1 e))

theorem str_ne {a b : ByteArray} (h : a ≠ b) : (a.toList == b.toList) = false := by rw [str_eq]; exact decide_eq_false h

end Go.Proofs.YtpicpebolghcfaaGreatDoor
