/- Layer 22: the chapter's example; the words and the texts are as many as the things. -/
import Derived.Test.YtlhbllaojjelcaaDoorW81
import Derived.Test.YtlhbllaojjelcaaDoorW11b
namespace Go.Proofs.YtlhbllaojjelcaaDoor
open Go.RowKit Go.Shelf
set_option linter.unusedVariables false

theorem words_count (k : Int) (bs : List UInt8) : (wordsV k bs).1.length = countV k bs := by
  unfold wordsV countV
  by_cases h : codeV k bs = 0
  · simp only [if_pos h]
    exact List.length_map _
  · simp only [if_neg h]
    rfl

theorem wordsAt_num {f : FieldD} {ps : List (List UInt8)} (h : (wordsAt f ps).2 = 0) : numberB f.kind = true ∧ thereP f ps = true ∧ wordsAt f ps = wordsV f.kind (loadP f ps) := by
  unfold wordsAt at h ⊢
  by_cases hc : codeOf (numberB f.kind) f ps ≠ 0
  · rw [if_pos hc] at h
    exact absurd h hc
  · rw [if_neg hc]
    unfold codeOf at hc
    split at hc
    · exact absurd (by decide) hc
    · split at hc
      · exact absurd (by decide) hc
      · rename_i h1 h2
        exact ⟨by simpa using h1, by simpa using h2, rfl⟩

/-- A field's words are as many as its things. -/
theorem words_things {S : List MsgD} {f : FieldD} {way : List Int} {m : Nat} {bs : List UInt8} (hf : OnWay S m way f) (h : (wordsAt f (piecesW S m bs way)).2 = 0) : (wordsAt f (piecesW S m bs way)).1.length = thingsP f (piecesW S m bs way) := by
  obtain ⟨hn, ht, e⟩ := wordsAt_num h
  rw [e, words_count]
  unfold thingsP
  rw [if_neg (by rw [ht]; simp)]
  by_cases hr : runP f = true
  · rw [if_pos hr]
  · rw [if_neg hr]
    have hrep : f.rep = false := by
      unfold runP at hr
      rw [hn, Bool.and_true] at hr
      simpa using hr
    rw [if_neg (by rw [hrep]; simp)]
    have hk := number_bd hn
    have hl : loadP f (piecesW S m bs way) = lastP (piecesW S m bs way) := by
      unfold loadP
      rw [if_neg (by rintro (h1 | ⟨h1, _⟩); exact hr h1; omega), if_pos hrep]
    have hp := there_pos ht hrep
    have hm : lastP (piecesW S m bs way) ∈ piecesW S m bs way := by
      unfold lastP
      rw [List.getLast?_eq_some_getLast (List.ne_nil_of_length_pos hp), Option.getD_some]
      exact List.getLast_mem _
    obtain ⟨w, hw⟩ := pieceW_word hrep hn hf _ hm
    rw [hl, ← words_count, hw]
    rfl

/-- The word that an item's bytes hold. -/
theorem item_word {f : FieldD} {ps : List (List UInt8)} (h : (wordsAt f ps).2 = 0) {i : Nat} (hi : i < (wordsAt f ps).1.length) (ht : i < thingsP f ps) :
    ∃ x, (wordsAt f ps).1[i]? = some x ∧ itemV f ps i = (putS f.kind x, 0) ∧ readS f.kind (putS f.kind x) = (x, 0) := by
  obtain ⟨hn, _, e⟩ := wordsAt_num h
  rw [e] at hi ⊢
  refine ⟨_, List.getElem?_eq_getElem hi, ?_, ?_⟩
  · unfold itemV
    rw [if_neg (by omega), if_pos hn, Int.toNat_natCast, List.getElem?_eq_getElem hi, Option.getD_some]
  · obtain ⟨h1, h2⟩ := word_canon hn (List.getElem_mem hi)
    rw [readS_put hn h2, h1]

theorem texts_kind {f : FieldD} {ps : List (List UInt8)} (h : codeOf (textB f.kind) f ps = 0) : (f.kind = 15 ∨ f.kind = 16) ∧ thereP f ps = true := by
  unfold codeOf at h
  split at h
  · cases h
  · split at h
    · cases h
    · rename_i h1 h2
      have h3 : textB f.kind = true := by simpa using h1
      unfold textB at h3
      exact ⟨by simpa using h3, by simpa using h2⟩

theorem text_number {k : Int} (h : k = 15 ∨ k = 16) : numberB k = false := by
  rcases hb : numberB k with _ | _
  · rfl
  · have := number_bd hb
    omega

theorem texts_things {f : FieldD} {ps : List (List UInt8)} (h : codeOf (textB f.kind) f ps = 0) : (textsAt f ps).length = thingsP f ps := by
  obtain ⟨hk, ht⟩ := texts_kind h
  have hn := text_number hk
  have e : thingsP f ps = if f.rep = true then ps.length else 1 := by
    unfold thingsP
    rw [if_neg (by rw [ht]; simp), if_neg (by unfold runP; rw [hn]; simp)]
  rw [e]
  unfold textsAt
  by_cases hr : f.rep = true <;> simp [hr]

theorem item_text {f : FieldD} {ps : List (List UInt8)} (h : codeOf (textB f.kind) f ps = 0) {i : Nat} (ht : i < thingsP f ps) : ∃ x, (textsAt f ps)[i]? = some x ∧ itemV f ps i = (x, 0) := by
  have hl := texts_things h
  obtain ⟨hk, hth⟩ := texts_kind h
  have hn := text_number hk
  refine ⟨_, List.getElem?_eq_getElem (by omega), ?_⟩
  unfold itemV
  rw [if_neg (by omega), if_neg (by rw [hn]; simp), Int.toNat_natCast]
  unfold textsAt
  by_cases hr : f.rep = true
  · simp only [if_pos hr]
    unfold textsAt at hl
    rw [if_pos hr] at hl
    rw [List.getElem?_eq_getElem (by omega), Option.getD_some]
  · have h1 : thingsP f ps = 1 := by
      unfold textsAt at hl
      rw [if_neg hr] at hl
      simpa using hl.symm
    obtain rfl : i = 0 := by omega
    simp only [if_neg hr]
    rfl

theorem item_there {f : FieldD} {ps : List (List UInt8)} {i : Nat} (h : i < thingsP f ps) : (itemV f ps i).2 = 0 := by
  unfold itemV
  rw [if_neg (by omega)]
  split
  · rfl
  · split <;> rfl

theorem item_end {f : FieldD} {ps : List (List UInt8)} : itemV f ps (thingsP f ps : Nat) = ([], 11) := by
  unfold itemV
  rw [if_pos (by omega)]

/-- The example's schema, its bytes. -/
def getF : FieldD := ⟨⟨#[97]⟩, 1, 3, true, false, 0⟩

theorem get_a : (wayAtV [⟨⟨#[109]⟩, [getF]⟩] 0 0 ⟨#[97]⟩ [8, 1, 10, 2, 2, 3]).2 = 0 ∧ (wayAtV [⟨⟨#[109]⟩, [getF]⟩] 0 0 ⟨#[97]⟩ [8, 1, 10, 2, 2, 3]).1 = [1] ∧ gotV getF (atP [⟨⟨#[109]⟩, [getF]⟩] 0 0 ⟨#[97]⟩ [8, 1, 10, 2, 2, 3]) = ([1, 2, 3], 0) := by decide +kernel

set_option maxRecDepth 100000 in
theorem alive22 (w : World) : Calls Tryd.prog 4 #[] w fun e w' => e = .returned (.bool true) ∧ Ext w w' := by
  have hs := schema_lit (w := w) (nm := ⟨#[109]⟩) (f := ⟨⟨#[97]⟩, 1, 3, true, false, 0⟩) (by constructor <;> decide) (by decide)
  obtain ⟨v1, v2, v3⟩ := get_a
  have hon : OnWay [⟨⟨#[109]⟩, [getF]⟩] (0 : Int).toNat (wayAtV [⟨⟨#[109]⟩, [getF]⟩] 0 0 ⟨#[97]⟩ [8, 1, 10, 2, 2, 3]).1 getF := by
    rw [v2]
    exact .last (by decide +kernel)
  have hg := fun (W : World) (A B C : Option Addr) (h : SchemaAt W A 1 1 [⟨⟨⟨#[109]⟩, [getF]⟩, C, 1, 1⟩]) (hb : BytesAt W B 6 6 [8, 1, 10, 2, 2, 3]) => pGet_ok (root := 0) (d := 0) (p := ⟨#[97]⟩) h hb (by omega) (by decide) v1 hon
  simp only [List.map_cons, List.map_nil, v3] at hg
  have Hs := Lib.hid hs
  have Hg := Lib.hid hg
  clear hs hg v1 v2 v3 hon
  go_enter Tryd.func4, Tryd.ntmps4
  go_wp2_with fail
  refine (Hg.out _ _ _ _ (Hs.out.up (by repeat with_reducible (first | exact Ext.refl _ | refine Ext.alloc ?_ _ | refine Ext.drew ?_ | refine Ext.drewN ?_ _ | refine Ext.setCell ?_ (by first | exact Nat.le_refl _ | omega | (simp; done) | (simp; omega)) _))) (bytes_lit _ _ _ [8, 1, 10, 2, 2, 3] 6 (by simp) (by simp [bv]) rfl (by simp [maxLen]))).mono ?_
  rintro e w1 ⟨A1, c1, rfl, own1⟩
  have X1 : Ext w w1 := Ext.trans (by repeat with_reducible (first | exact Ext.refl _ | refine Ext.alloc ?_ _ | refine Ext.drew ?_ | refine Ext.drewN ?_ _ | refine Ext.setCell ?_ (by first | exact Nat.le_refl _ | omega | (simp; done) | (simp; omega)) _)) own1.ext
  go_wp2_with fail
  refine (same (xs := [1, 2, 3]) (ys := [1, 2, 3]) (own1.up (by repeat with_reducible (first | exact Ext.refl _ | refine Ext.alloc ?_ _ | refine Ext.drew ?_ | refine Ext.drewN ?_ _ | refine Ext.setCell ?_ (by first | exact Nat.le_refl _ | omega | (simp; done) | (simp; omega)) _))).bytes (bytes_lit _ _ _ [1, 2, 3] 3 (by simp) (by simp [bv]) rfl (by simp [maxLen]))).mono ?_
  rintro e w3 ⟨rfl, rfl⟩
  go_wp2
  go_ret
  exact ⟨by simp, X1.trans (by repeat with_reducible (first | exact Ext.refl _ | refine Ext.alloc ?_ _ | refine Ext.drew ?_ | refine Ext.drewN ?_ _ | refine Ext.setCell ?_ (by first | exact Nat.le_refl _ | omega | (simp; done) | (simp; omega)) _))⟩

end Go.Proofs.YtlhbllaojjelcaaDoor
