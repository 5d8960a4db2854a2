/- Contracts of layer 1's functions that read or make memory. -/
import Derived.Test.YtlmmlmmadgcmcaaChecked
import Derived.Test.YtlmmlmmadgcmcaaLib
import Derived.Test.YtlmmlmmadgcmcaaS1
namespace Go.Proofs.Ytlmmlmmadgcmcaa
open Go.RowKit
set_option linter.unusedVariables false

theorem elemB : Elem Try.prog 43 5 1 1 := Elem.mk' (z := .int .u8 0) Try.underlying43 (by kernel_rfl) rfl (by omega)

theorem same {A B : Option Addr} {n c m d : Nat} {xs ys : List UInt8} {w : World} (ha : BytesAt w A n c xs) (hb : BytesAt w B m d ys) :
    Calls Try.prog 35 #[.slice A n c, .slice B m d] w fun e w' => e = .returned (.bool (decide (xs = ys))) ∧ w = w' := by
  have c1 := ha.convert (P := Try.prog) 43 5 9 Try.underlying43 Try.underlying5 Try.underlying9
  have c2 := hb.convert (P := Try.prog) 43 5 9 Try.underlying43 Try.underlying5 Try.underlying9
  go_enter Try.func35, Try.ntmps35
  go_wp2
  go_ret
  exact ⟨ret_bool (by rw [Bool.eq_iff_iff]; simp), rfl⟩

theorem clone {A : Option Addr} {n c : Nat} {bs : List UInt8} {w : World} (ha : BytesAt w A n c bs) (hn : n ≤ 100000000000000) :
    Calls Try.prog 88 #[.slice A n c] w fun e w' => ∃ A' c', e = .returned (.slice A' n c') ∧ Own w w' 5 1 A' n c' (bs.map bv) := by
  have hnil := Lib.run_eql_slice_nil (P := Try.prog) w 43 5 A n c 0 0 Try.underlying43
  rcases A with _ | ad
  · have h0 : n = 0 := by
      rcases Nat.eq_zero_or_pos n with h | h
      · exact h
      · obtain ⟨b, off, e, _⟩ := Reads.at_ ha h; cases e
    subst h0
    have hbs : bs = [] := List.eq_nil_of_length_eq_zero ha.length
    subst hbs
    go_enter Try.func88, Try.ntmps88
    go_wp2
    go_ret
    exact ⟨_, _, rfl, Own.nil (Ext.refl _) 5 1⟩
  · go_enter Try.func88, Try.ntmps88
    go_wp2_with (at_builtin; refine wpList_more elemB rfl (.tmp 5) (.tmp 6) rfl rfl (Own.empty (Ext.refl _) 5 1) rfl (ha.ext ((Ext.refl _).alloc _)) (bv_one _) (by omega) (by unfold maxLen; omega) ?_; intro A' c' w' hown _)
    go_ret
    exact ⟨_, _, ret_slice (by simp), by simpa using hown⟩

theorem little_bv (k x : Nat) : List.map bv (littleB k x) ++ [.int .u8 ((x : Int) / 2 ^ (8 * k) % 256)] = List.map bv (littleB (k + 1) x) := by
  rw [littleB_succ, List.map_append, List.map_cons, List.map_nil, bv_of _ (by omega), ← pow_256]
  simp

theorem little (x : Nat) (n : Int) (w : World) (h1 : x < 18446744073709551616) (h2 : n < 9223372036854775808) (h3 : -9223372036854775808 ≤ n) :
    Calls Try.prog 75 #[.int .u64 x, .int .i64 n] w fun e w' => ∃ A' c', e = .returned (.slice A' (min n 8).toNat c') ∧ Own w w' 5 1 A' (min n 8).toNat c' (List.map bv (littleB (min n 8).toNat x)) := by
  obtain ⟨q, hq⟩ : ∃ q, q = min n 8 := ⟨_, rfl⟩
  obtain ⟨m, hm⟩ : ∃ m : Nat, m = q.toNat := ⟨_, rfl⟩
  have hm8 : m ≤ 8 := by omega
  have hmn : ∀ ts t (W : World), (Builtin.min_ ts t #[.int .i64 n, .int .i64 8]).run Try.prog W = .ok (.int .i64 q) W := by
    intro ts t W; rw [run_min_i, hq]
  have hmx : ∀ ts t (W : World), (Builtin.max_ ts t #[.int .i64 0, .int .i64 q]).run Try.prog W = .ok (.int .i64 m) W := by
    intro ts t W; rw [run_max_i]; congr 2; omega
  rw [← hq, ← hm]
  clear hm hq
  go_enter Try.func75, Try.ntmps75
  go_wp2
  go_loopw [5, 6, 10] (fun v _ i wr => ∃ (k : Nat) (A : Option Addr) (c : Nat), k ≤ m ∧ i = .int .i64 k ∧ v = .slice A k c ∧ Own w wr 5 1 A k c (List.map bv (littleB k x))) (fun _ _ i _ => m - (intOf i).toNat)
  case atStart => exact ⟨0, none, 0, Nat.zero_le _, rfl, rfl, Own.nil (Ext.refl _) 5 1⟩
  case round =>
    obtain ⟨k, A, c, hk, rfl, rfl, hown⟩ := hrel
    by_cases hlt : k < m
    · go_wp2_with (at_builtin; refine wpList_one elemB rfl (.tmp 13) (.tmp 20) rfl rfl hown rfl (by first | rfl | simp) rfl (by omega) (by unfold maxLen; omega) ?_; intro A' c' w' hown' _)
      go_roundw
      case rel => exact ⟨k + 1, A', c', by omega, by go_num, rfl, by rw [← little_bv]; exact hown'⟩
      case measure => simp [intOf]; omega
    · go_wp2
      go_ret
      have : k = m := by omega
      subst this
      exact ⟨A, c, rfl, hown⟩

theorem littleR (x : Nat) (n : Int) (w : World) (h1 : x < 18446744073709551616) (h2 : n < 9223372036854775808) (h3 : -9223372036854775808 ≤ n) :
    Calls Try.prog 77 #[.int .u64 x, .int .i64 n] w fun e w' => ∃ A' c', e = .returned (.slice A' (min n 8).toNat c') ∧ Own w w' 5 1 A' (min n 8).toNat c' (List.map bv (littleB (min n 8).toNat x)) := by
  obtain ⟨m, hm⟩ : ∃ m : Nat, m = (min n 8).toNat := ⟨_, rfl⟩
  have hm8 : m ≤ 8 := by omega
  have hmn : (m : Int) ≤ n ∨ m = 0 := by omega
  have hmx : m = 8 ∨ n ≤ m := by omega
  rw [← hm]
  clear hm
  go_enter Try.func77, Try.ntmps77
  go_wp2
  go_loopw [0, 5, 6] (fun y v i wr => ∃ (k : Nat) (A : Option Addr) (c : Nat), k ≤ m ∧ y = .int .u64 ((x / 256 ^ k : Nat) : Int) ∧ i = .int .i64 k ∧ v = .slice A k c ∧ Own w wr 5 1 A k c (List.map bv (littleB k x))) (fun _ _ i _ => m - (intOf i).toNat)
  case atStart => exact ⟨0, none, 0, Nat.zero_le _, by simp, rfl, rfl, Own.nil (Ext.refl _) 5 1⟩
  case round =>
    obtain ⟨k, A, c, hk, rfl, rfl, rfl, hown⟩ := hrel
    have hs := littleB_succ k x
    have hsn : x / 256 ^ (k + 1) = x / 256 ^ k / 256 := by rw [Nat.pow_succ, Nat.div_div_eq_div_mul]
    have hy : x / 256 ^ k < 18446744073709551616 := Nat.lt_of_le_of_lt (Nat.div_le_self _ _) h1
    generalize hgy : x / 256 ^ k = y at *
    have Hs := Lib.hid hs
    have Hn := Lib.hid hsn
    have Hy := Lib.hid hgy
    clear hs hsn hgy
    by_cases hlt : k < m
    · have hkn : (k : Int) < n := by omega
      have hk8 : (k : Int) < 8 := by omega
      go_wp2_with (at_builtin; refine wpList_one elemB rfl (.tmp 16) (.tmp 20) rfl rfl hown rfl (by first | rfl | simp) rfl (by omega) (by unfold maxLen; omega) ?_; intro A' c' w' hown' _)
      go_roundw
      case rel =>
        refine ⟨k + 1, A', c', by omega, by rw [Hn.out]; go_num, by go_num, rfl, ?_⟩
        rw [Hs.out, List.map_append, List.map_cons, List.map_nil, bv_of _ (by omega)]
        simpa using hown'
      case measure => simp [intOf]; omega
    · have hkm : k = m := by omega
      subst hkm
      by_cases hkn : (k : Int) < n
      · have h8 : ¬ (k : Int) < 8 := by omega
        go_wp2
        go_ret
        exact ⟨A, c, rfl, hown⟩
      · go_wp2
        go_ret
        exact ⟨A, c, rfl, hown⟩

end Go.Proofs.Ytlmmlmmadgcmcaa
