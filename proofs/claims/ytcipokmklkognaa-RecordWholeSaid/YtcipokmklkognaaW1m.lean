/- Contracts of layer 1's functions that read or make memory. -/
import Derived.Test.YtcipokmklkognaaChecked
import Derived.Test.YtcipokmklkognaaLib
import Derived.Test.YtcipokmklkognaaS1
namespace Go.Proofs.Ytcipokmklkognaa
open Go.RowKit
set_option linter.unusedVariables false

theorem elemB : Elem Try.prog 22 5 1 1 := Elem.mk' (z := .int .u8 0) Try.underlying22 (by kernel_rfl) rfl (by omega)

theorem same {A B : Option Addr} {n c m d : Nat} {xs ys : List UInt8} {w : World} (ha : BytesAt w A n c xs) (hb : BytesAt w B m d ys) :
    Calls Try.prog 43 #[.slice A n c, .slice B m d] w fun e w' => e = .returned (.bool (decide (xs = ys))) ∧ w = w' := by
  have c1 := ha.convert (P := Try.prog) 22 5 9 Try.underlying22 Try.underlying5 Try.underlying9
  have c2 := hb.convert (P := Try.prog) 22 5 9 Try.underlying22 Try.underlying5 Try.underlying9
  go_enter Try.func43, Try.ntmps43
  go_wp2
  go_ret
  exact ⟨ret_bool (by rw [Bool.eq_iff_iff]; simp), rfl⟩

theorem clone {A : Option Addr} {n c : Nat} {bs : List UInt8} {w : World} (ha : BytesAt w A n c bs) (hn : n ≤ 100000000000000) :
    Calls Try.prog 71 #[.slice A n c] w fun e w' => ∃ A' c', e = .returned (.slice A' n c') ∧ Own w w' 5 1 A' n c' (bs.map bv) := by
  have hnil := Lib.run_eql_slice_nil (P := Try.prog) w 22 5 A n c 0 0 Try.underlying22
  rcases A with _ | ad
  · have h0 : n = 0 := by
      rcases Nat.eq_zero_or_pos n with h | h
      · exact h
      · obtain ⟨b, off, e, _⟩ := Reads.at_ ha h; cases e
    subst h0
    have hbs : bs = [] := List.eq_nil_of_length_eq_zero ha.length
    subst hbs
    go_enter Try.func71, Try.ntmps71
    go_wp2
    go_ret
    exact ⟨_, _, rfl, Own.nil (Ext.refl _) 5 1⟩
  · go_enter Try.func71, Try.ntmps71
    go_wp2_with (at_builtin; refine wpList_more elemB rfl (.tmp 5) (.tmp 6) rfl rfl (Own.empty (Ext.refl _) 5 1) rfl (ha.ext ((Ext.refl _).alloc _)) (bv_one _) (by omega) (by unfold maxLen; omega) ?_; intro A' c' w' hown _)
    go_ret
    exact ⟨_, _, ret_slice (by simp), by simpa using hown⟩

theorem little_bv (k x : Nat) : List.map bv (littleB k x) ++ [.int .u8 ((x : Int) / 2 ^ (8 * k) % 256)] = List.map bv (littleB (k + 1) x) := by
  rw [littleB_succ, List.map_append, List.map_cons, List.map_nil, bv_of _ (by omega), ← pow_256]
  simp

end Go.Proofs.Ytcipokmklkognaa
