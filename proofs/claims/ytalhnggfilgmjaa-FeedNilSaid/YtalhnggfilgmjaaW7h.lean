/- Contracts of layer 7: a copy of a schema. -/
import Derived.Test.YtalhnggfilgmjaaW7g
namespace Go.Proofs.Ytalhnggfilgmjaa
open Go.RowKit
set_option linter.unusedVariables false

theorem elemField7 : Elem Try.prog 34 56 6 48 := Elem.mk' (z := .agg #[.string ⟨#[]⟩, .int .i64 0, .int .i64 0, .bool false, .bool false, .int .i64 0]) Try.underlying34 (by kernel_rfl) rfl (by omega)

theorem elemMsg7 : Elem Try.prog 33 36 2 40 := Elem.mk' (z := .agg #[.string ⟨#[]⟩, .slice none 0 0]) Try.underlying33 (by kernel_rfl) rfl (by omega)

theorem fieldC_ones (l : List FieldD) : ∀ u ∈ l.flatMap fieldC, u.oneCell' = true := by
  intro u hu
  obtain ⟨f, _, hf⟩ := List.mem_flatMap.1 hu
  simp only [fieldC, List.mem_cons, List.not_mem_nil, or_false] at hf
  rcases hf with rfl | rfl | rfl | rfl | rfl | rfl <;> rfl

/-- 's == nil' -/
theorem eqlNil {P : Program} {t e : TypeId} (h : P.underlying t = some (.slice e)) (a : Option Addr) (n c : Nat) (w : World) : (Go.binOp .eql t (.slice a n c) (.slice none 0 0)).run P w = .ok (.bool a.isNone) w := by
  simp only [Go.binOp]
  simp [run_equal_slice_nil (P := P) w t e a n c h]

set_option maxRecDepth 100000 in
/-- A copy of fields in new memory. -/
theorem sClone {A : Option Addr} {n c : Nat} {l : List FieldD} {w : World} (hf : FieldsAt w A n c l) (hn : n ≤ 2932031007317) :
    Calls Try.prog 59 #[.slice A n c] w fun e w' => ∃ A' c', e = .returned (.slice A' n c') ∧ Own w w' 56 6 A' n c' (l.flatMap fieldC) := by
  have hl := hf.length
  have hnil := eqlNil Try.underlying34
  rcases hA : A with _ | a
  · subst hA
    have h0 : n = 0 := by
      rcases Nat.eq_zero_or_pos n with h | h
      · exact h
      · obtain ⟨b, off, e, _⟩ := hf.1.at_ h
        cases e
    subst h0
    have hl0 : l = [] := List.eq_nil_of_length_eq_zero hl
    subst hl0
    go_enter Try.func59, Try.ntmps59
    go_wp2
    go_ret
    exact ⟨none, 0, rfl, Own.nil (Ext.refl _) _ _⟩
  · subst hA
    go_enter Try.func59, Try.ntmps59
    go_wp2_with (at_builtin; refine wpList_more elemField7 rfl (.tmp 5) (.tmp 6) rfl rfl (Own.empty (Ext.refl w) 56 6) rfl (hf.1.ext (Ext.alloc (Ext.refl _) _)) (fieldC_ones _) (by omega) (by unfold maxLen; omega) ?_; intro A4 c4 w4 own4 g4; simp only [Nat.zero_add, List.nil_append] at own4)
    go_ret
    exact ⟨A4, c4, rfl, own4⟩

/-- Messages, each with its fields in memory of the call's own. -/
structure MsgsOwn (w0 w : World) (S : List MsgV) : Prop where
  each : ∀ m ∈ S, Own w0 w 56 6 m.A m.n m.c (m.d.fields.flatMap fieldC)

theorem MsgsOwn.up {w0 w w' : World} {S : List MsgV} (h : MsgsOwn w0 w S) (k : Ext w w') : MsgsOwn w0 w' S := ⟨fun m hm => (h.each m hm).up k⟩

set_option maxRecDepth 100000 in
set_option maxHeartbeats 1000000 in
theorem sCopy {A : Option Addr} {n c : Nat} {S : List MsgV} {w : World} (hs : SchemaAt w A n c S) (hn : n ≤ 3518437208780) (hS : ∀ x ∈ S, x.n ≤ 2932031007317) :
    Calls Try.prog 27 #[.slice A n c] w fun e w' => ∃ A' c' S', e = .returned (.slice A' n c') ∧ SchemaAt w' A' n c' S' ∧ S'.map MsgV.d = S.map MsgV.d ∧ Ext w w' := by
  have hl := hs.length
  have HS := Lib.hid hS
  clear hS
  go_enter Try.func27, Try.ntmps27
  go_wp2
  go_loopw [3, 5, 8] (fun u _ i wr => ∃ (k : Nat) (A2 : Option Addr) (c2 : Nat) (S2 : List MsgV), k ≤ n ∧ i = .int .i64 (k : Int) ∧ u = .slice A2 k c2 ∧ Own w wr 36 2 A2 k c2 (S2.flatMap msgC) ∧ MsgsOwn w wr S2 ∧ Hid (S2.map MsgV.d = (S.take k).map MsgV.d)) (fun _ _ i _ => n - (intOf i).toNat)
  case atStart => exact ⟨0, none, 0, [], by omega, rfl, rfl, Own.nil (Ext.refl _) _ _, ⟨fun m hm => by cases hm⟩, rfl⟩
  case round =>
    obtain ⟨k, A2, c2, S2, hk, rfl, rfl, own, hM, hD⟩ := hrel
    by_cases hlt : k < n
    · have hltI : (k : Int) < n := by omega
      obtain ⟨b1, off1, x, rfl, h1, hfx, hnm, hb1, c0, c1⟩ := (hs.up own.ext).msg hlt
      have hxn := HS.out x (List.mem_of_getElem? h1)
      have hf0 := (hs.2 x (List.mem_of_getElem? h1)).1
      obtain ⟨⟨xn, xf⟩, xA, xl, xc⟩ := x
      simp only at hfx hxn c0 c1 hnm hf0
      have H1 := Lib.hid h1
      clear h1
      go_wp2
      have X1 : Ext wr (wr.alloc (.cells #[.string xn, .slice xA xl xc] 36)) := (by repeat with_reducible (first | exact Ext.refl _ | refine Ext.alloc ?_ _ | refine Ext.drew ?_ | refine Ext.drewN ?_ _ | refine Ext.setCell ?_ (by first | exact Nat.le_refl _ | omega | (simp; done) | (simp; omega)) _))
      have B := Ext.new_blk (Ext.refl (wr.alloc (.cells #[.string xn, .slice xA xl xc] 36)))
      generalize hwx : wr.alloc (.cells #[.string xn, .slice xA xl xc] 36) = wx at *
      have y0 : wx.cell? ⟨wr.heap.size, 0, none⟩ = some (.string xn) := B.cell 0
      have y1 : wx.cell? ⟨wr.heap.size, 1, none⟩ = some (.slice xA xl xc) := B.cell 1
      have yl := B.lt
      have ownx := own.up X1
      have hMx := hM.up X1
      have Xw : Ext w wx := own.ext.trans X1
      go_region_held3 (fun W => (Ext w W) ∧ (W.cell? ⟨wr.heap.size, 0, none⟩ = some (.string xn)) ∧ (W.cell? ⟨wr.heap.size, 1, none⟩ = some (.slice xA xl xc)))
            (first | exact ⟨by assumption, by assumption, by assumption⟩ | exact ⟨Ext.drew (by assumption), by assumption, by assumption⟩ | (go_split_ands; first | exact ⟨by assumption, by assumption, by assumption⟩ | exact ⟨Ext.alloc (by assumption) _, Ext.of_cell (Ext.alloc (Ext.refl _) _) (by assumption), Ext.of_cell (Ext.alloc (Ext.refl _) _) (by assumption)⟩))
        (first
        | (go_split_ands; go_at_call 59; refine (sClone (hf0.up (by assumption)) hxn).mono ?_; rintro e w5 ⟨A5, c5, rfl, own5⟩; have q0_ : Ext w w5 := Ext.trans (by assumption) own5.ext; have q1_ : w5.cell? ⟨wr.heap.size, 0, none⟩ = some (.string xn) := Ext.of_cell own5.ext (by assumption); have q2_ : w5.cell? ⟨wr.heap.size, 1, none⟩ = some (.slice xA xl xc) := Ext.of_cell own5.ext (by assumption); have X5 : Ext wx w5 := Ext.trans (by repeat with_reducible (first | exact Ext.refl _ | refine Ext.alloc ?_ _ | refine Ext.drew ?_ | refine Ext.drewN ?_ _ | refine Ext.setCell ?_ (by first | exact Nat.le_refl _ | omega | (simp; done) | (simp; omega)) _)) own5.ext; have o5 := own5.since (show Ext w _ by assumption))
        | (go_split_ands; (with_reducible refine at_world (World.alloc w5 (.cells #[.string xn, .slice A5 xl c5] 36)) ?_); refine step_more elemMsg7 (by rfl) (.tmp 12) (.tmp 19) (by rfl) (by rfl) ((ownx.up X5).alloc _) (by rfl) (reads_oneN w5 [.string xn, .slice A5 xl c5] 36 rfl rfl) (by simp; exact ⟨rfl, rfl⟩) (by omega) (by unfold maxLen; omega) ?_; intro A6 c6 w6 own6 g6; have q0_ : Ext w w6 := own6.ext; have q1_ : w6.cell? ⟨wr.heap.size, 0, none⟩ = some (.string xn) := (grown_cell own g6 (Nat.le_refl _) (by have := X5.size; have := yl; simp; omega)).trans (Ext.of_cell (Ext.alloc (Ext.refl _) _) (by assumption)); have q2_ : w6.cell? ⟨wr.heap.size, 1, none⟩ = some (.slice xA xl xc) := (grown_cell own g6 (Nat.le_refl _) (by have := X5.size; have := yl; simp; omega)).trans (Ext.of_cell (Ext.alloc (Ext.refl _) _) (by assumption)); have hM6 := (hMx.up X5); have gg := g6))
      go_wp2
      go_roundw
      case rel =>
        refine ⟨k + 1, A6, c6, S2 ++ [⟨⟨xn, xf⟩, A5, xl, c5⟩], by omega, by go_num, rfl, ?_, ⟨fun m hm => ?_⟩, ?_⟩
        · rw [List.flatMap_append]
          exact own6
        · rcases List.mem_append.1 hm with hm | hm
          · exact (hM6.each m hm).beside (ownx.up X5) (by decide) (Ext.alloc (Ext.refl _) _) g6 own6.ext
          · rw [List.mem_singleton] at hm
            subst hm
            exact o5.beside (ownx.up X5) (by decide) (Ext.alloc (Ext.refl _) _) g6 own6.ext
        · show _ = _
          rw [take_snoc _ _ _ H1.out, List.map_append, List.map_append, hD.out]
          rfl
      case measure => simp [intOf]; omega
    · obtain rfl : k = n := by omega
      have hfin : S2.map MsgV.d = S.map MsgV.d := by
        have := hD.out
        rwa [List.take_of_length_le (by omega)] at this
      go_wp2
      go_ret
      refine ⟨A2, c2, S2, rfl, ⟨own.reads, fun m hm => ?_⟩, hfin, own.ext⟩
      have hmd : m.d ∈ S.map MsgV.d := by rw [← hfin]; exact List.mem_map.2 ⟨m, hm, rfl⟩
      obtain ⟨y, hy, e⟩ := List.mem_map.1 hmd
      have hy2 := hs.2 y hy
      rw [e] at hy2
      exact ⟨⟨(hM.each m hm).reads, hy2.1.2⟩, hy2.2⟩

end Go.Proofs.Ytalhnggfilgmjaa
