/- Contracts of layer 3: putting tags. -/
import Derived.Test.YtcipokmklkognaaW3b
namespace Go.Proofs.Ytcipokmklkognaa
open Go.RowKit
set_option linter.unusedVariables false

theorem right_bd {number wire : Int} (h : rightB number wire = true) : 1 ≤ number ∧ number ≤ 536870911 ∧ 0 ≤ wire ∧ wire ≤ 5 := by
  unfold rightB at h
  have := of_decide_eq_true h
  omega

/-- A tag's bytes. -/
def tagB (number wire : Int) : List UInt8 := Lib.uvarint (8 * number + wire).toNat

theorem tagB_length {number wire : Int} (h : rightB number wire = true) : 1 ≤ (tagB number wire).length ∧ (tagB number wire).length ≤ 5 := by
  have hb := right_bd h
  refine ⟨Lib.uvarint_pos _, Lib.uvarint_length 4 _ ?_⟩
  omega

theorem tWord {number wire : Int} {w : World} (h : rightB number wire = true) :
    Calls Try.prog 60 #[.agg #[.int .i64 number, .int .i64 wire]] w fun e w' => e = .returned (.int .u64 (8 * number + wire)) ∧ Ext w w' := by
  obtain ⟨h1, h2, h3, h4⟩ := right_bd h
  have hor := or_tag number wire (by omega) (by omega) h3 (by omega)
  have Ho := Lib.hid hor
  clear h hor
  go_enter Try.func60, Try.ntmps60
  go_wp2
  go_ret
  exact ⟨ret_int Ho.out, (Ext.refl _).alloc _⟩

theorem tPutR {number wire : Int} {w : World} (h : rightB number wire = true) :
    Calls Try.prog 42 #[.int .i64 number, .int .i64 wire] w fun e w' => ∃ A' c', e = .returned (.slice A' (tagB number wire).length c') ∧ Own w w' 5 1 A' (tagB number wire).length c' ((tagB number wire).map bv) := by
  obtain ⟨h1, h2, h3, h4⟩ := right_bd h
  unfold tagB
  clear h
  go_enter Try.func42, Try.ntmps42
  go_wp2_with (go_at_call 70; refine (vPutRI _ _ (by omega) (by omega)).mono ?_; rintro e w1 ⟨A1, c1, rfl, own1⟩)
  go_ret
  exact ⟨A1, c1, rfl, own1⟩

theorem tPut {A : Option Addr} {n c : Nat} {bs : List UInt8} {number wire : Int} {w : World} (hb : BytesAt w A n c bs) (hn : n ≤ 1000000000) (h : rightB number wire = true) :
    Calls Try.prog 23 #[.slice A n c, .agg #[.int .i64 number, .int .i64 wire]] w fun e w' => ∃ A' c', e = .returned (.tuple #[.slice A' (n + (tagB number wire).length) c', .int .u8 0]) ∧ Own w w' 5 1 A' (n + (tagB number wire).length) c' ((bs ++ tagB number wire).map bv) := by
  obtain ⟨h1, h2, h3, h4⟩ := right_bd h
  unfold tagB
  go_enter Try.func23, Try.ntmps23
  go_wp2_with (first | (go_at_call 22; refine (tRight _ _ _).mono ?_; rintro e w1 ⟨rfl, E1⟩; have k := one_block E1; have c0 : w1.cell? ⟨w.heap.size, 0, none⟩ = some (.int .i64 number) := k.1 0; have c1 : w1.cell? ⟨w.heap.size, 1, none⟩ = some (.int .i64 wire) := k.1 1; clear k) | (go_at_call 60; refine (tWord h).mono ?_; rintro e w2 ⟨rfl, E2⟩) | (go_at_call 59; refine (vPut (hb.ext ((((Ext.refl w).alloc _).trans E1).trans E2)) (by omega) (by omega) (by omega)).mono ?_; rintro e w3 ⟨A3, c3, rfl, own3⟩))
  go_ret2
  exact ⟨A3, c3, rfl, own3.since ((((Ext.refl w).alloc _).trans E1).trans E2)⟩

theorem tPut_no {A : Option Addr} {n c : Nat} {number wire : Int} {w : World} (h : rightB number wire = false) :
    Calls Try.prog 23 #[.slice A n c, .agg #[.int .i64 number, .int .i64 wire]] w fun e w' => e = .returned (.tuple #[.slice none 0 0, .int .u8 2]) ∧ Ext w w' := by
  go_enter Try.func23, Try.ntmps23
  go_wp2_with (go_at_call 22; refine (tRight _ _ _).mono ?_; rintro e w1 ⟨rfl, E1⟩)
  go_ret2
  exact ⟨rfl, ((Ext.refl w).alloc _).trans E1⟩

/-- How many bytes a tag has. -/
def tagSizeN (number wire : Int) : Nat := if rightB number wire = true then (tagB number wire).length else 0

theorem tSize {number wire : Int} {w : World} :
    Calls Try.prog 24 #[.agg #[.int .i64 number, .int .i64 wire]] w fun e w' => e = .returned (.int .i64 (tagSizeN number wire)) ∧ Ext w w' := by
  by_cases h : rightB number wire = true
  · have e : tagSizeN number wire = (tagB number wire).length := if_pos h
    have He := Lib.hid e
    clear e
    go_enter Try.func24, Try.ntmps24
    go_wp2_with (go_at_call 23; refine (tPut (BytesAt.nil _) (by omega) h).mono ?_; rintro e w1 ⟨A1, c1, rfl, own1⟩)
    go_ret
    exact ⟨ret_int (by rw [He.out]; try simp), ((Ext.refl w).alloc _).trans own1.ext⟩
  · have h0 : rightB number wire = false := by simpa using h
    have e : tagSizeN number wire = 0 := if_neg h
    have He := Lib.hid e
    clear e
    go_enter Try.func24, Try.ntmps24
    go_wp2_with (go_at_call 23; refine (tPut_no h0).mono ?_; rintro e w1 ⟨rfl, E1⟩)
    go_ret
    exact ⟨ret_int (by rw [He.out]; try rfl), ((Ext.refl w).alloc _).trans E1⟩

/-- Does a tag come ahead? -/
def tagLessB (a b c d : Int) : Bool := decide (a < c ∨ a = c ∧ b < d)

theorem tLess {a b c d : Int} {w : World} :
    Calls Try.prog 41 #[.agg #[.int .i64 a, .int .i64 b], .agg #[.int .i64 c, .int .i64 d]] w fun e w' => e = .returned (.bool (tagLessB a b c d)) ∧ Ext w w' := by
  by_cases h1 : a < c
  · go_enter Try.func41, Try.ntmps41
    go_wp2
    go_ret
    exact ⟨ret_bool (by unfold tagLessB; exact (decide_eq_true (by omega)).symm), (Ext.refl _).alloc _ |>.alloc _⟩
  · by_cases h2 : a = c
    · have q : (a == c) = true := by simpa using h2
      have H2 := Lib.hid h2
      clear h2
      go_enter Try.func41, Try.ntmps41
      go_wp2
      go_ret
      refine ⟨ret_bool ?_, (Ext.refl _).alloc _ |>.alloc _⟩
      unfold tagLessB
      have := H2.out
      rw [Bool.eq_iff_iff]
      simp only [decide_eq_true_eq]
      omega
    · have q : (a == c) = false := by simpa using h2
      go_enter Try.func41, Try.ntmps41
      go_wp2
      go_ret
      exact ⟨ret_bool (by unfold tagLessB; exact (decide_eq_false (by omega)).symm), (Ext.refl _).alloc _ |>.alloc _⟩

end Go.Proofs.Ytcipokmklkognaa
