/- Contracts of layer 14: the place of a number, and copies of rows. -/
import Derived.Test.YtcbpbpeogfbpiaaTW14o
import Derived.Test.YtcbpbpeogfbpiaaTW7h

/- Contracts of layer 14: the place of a value, as the reference has it. -/
namespace Go.Proofs.Ytcbpbpeogfbpiaa
open Go.RowKit
set_option linter.unusedVariables false

end Go.Proofs.Ytcbpbpeogfbpiaa

/- Contracts of layer 14: texts and words in new memory. -/
namespace Go.Proofs.Ytcbpbpeogfbpiaa
open Go.RowKit
set_option linter.unusedVariables false

set_option maxRecDepth 100000 in
theorem clTexts {A : Sl} {l : List ByteArray} {w : World} (h : TextsAt w A l) (hn : l.length ≤ 1000000000000) :
    Calls Try.prog 27 #[.slice A.1 l.length A.2] w fun e w' => ∃ A' c', e = .returned (.slice A' l.length c') ∧ Own w w' 9 1 A' l.length c' (l.map strV) := by
  have hr := h.at_
  have hnil := eqlNil Try.underlying33
  obtain ⟨a, c⟩ := A
  simp only at hr ⊢
  have hm := hr.max
  have hcap := hr.cap
  unfold maxLen at hm
  clear h
  generalize hl : l.length = n at *
  have Hl := Lib.hid hl
  clear hl
  rcases a with _ | a
  · have h0 : n = 0 := by
      rcases Nat.eq_zero_or_pos n with h | h
      · exact h
      · obtain ⟨b, off, e, _⟩ := hr.at_ h
        cases e
    subst h0
    have hl0 : l = [] := List.eq_nil_of_length_eq_zero Hl.out
    subst hl0
    go_enter Try.func27, Try.ntmps27
    go_wp2
    go_ret
    exact ⟨none, 0, rfl, Own.nil (Ext.refl _) _ _⟩
  · go_enter Try.func27, Try.ntmps27
    go_wp2_with (at_builtin; refine wpList_more elemStr rfl (.tmp 5) (.tmp 6) rfl rfl (Own.empty (Ext.refl w) 9 1) rfl (hr.ext (Ext.alloc (Ext.refl _) _)) (strV_one _) (by omega) (by unfold maxLen; omega) ?_; intro A4 c4 w4 own4 g4; simp only [Nat.zero_add, List.nil_append] at own4)
    go_ret
    exact ⟨A4, c4, rfl, own4⟩

set_option maxRecDepth 100000 in
theorem clWords {A : Sl} {l : List Nat} {w : World} (h : Reads w A.1 l.length A.2 1 (l.map uv)) (hn : l.length ≤ 1000000000000) :
    Calls Try.prog 28 #[.slice A.1 l.length A.2] w fun e w' => ∃ A' c', e = .returned (.slice A' l.length c') ∧ Own w w' 57 1 A' l.length c' (l.map uv) := by
  have hr := h
  have hnil := eqlNil Try.underlying45
  obtain ⟨a, c⟩ := A
  simp only at hr ⊢
  have hm := hr.max
  have hcap := hr.cap
  unfold maxLen at hm
  clear h
  generalize hl : l.length = n at *
  have Hl := Lib.hid hl
  clear hl
  rcases a with _ | a
  · have h0 : n = 0 := by
      rcases Nat.eq_zero_or_pos n with h | h
      · exact h
      · obtain ⟨b, off, e, _⟩ := hr.at_ h
        cases e
    subst h0
    have hl0 : l = [] := List.eq_nil_of_length_eq_zero Hl.out
    subst hl0
    go_enter Try.func28, Try.ntmps28
    go_wp2
    go_ret
    exact ⟨none, 0, rfl, Own.nil (Ext.refl _) _ _⟩
  · go_enter Try.func28, Try.ntmps28
    go_wp2_with (at_builtin; refine wpList_more elemU rfl (.tmp 5) (.tmp 6) rfl rfl (Own.empty (Ext.refl w) 57 1) rfl (hr.ext (Ext.alloc (Ext.refl _) _)) (uv_one _) (by omega) (by unfold maxLen; omega) ?_; intro A4 c4 w4 own4 g4; simp only [Nat.zero_add, List.nil_append] at own4)
    go_ret
    exact ⟨A4, c4, rfl, own4⟩

end Go.Proofs.Ytcbpbpeogfbpiaa
