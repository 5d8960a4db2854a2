/- Layer 22: the chapter's example; the words and the texts are as many as the things. -/
import Derived.Test.YtpicpebolghcfaaGreatDoorQiW81
import Derived.Test.YtpicpebolghcfaaGreatDoorQiW11

namespace Go.Proofs.YtpicpebolghcfaaGreatDoor
open Go.RowKit Go.Shelf
set_option linter.unusedVariables false

theorem words_count (k : Int) (bs : List UInt8) : (wordsV k bs).1.length = countV k bs := by
  unfold wordsV countV
  by_cases h : codeV k bs = 0
  · simp only [if_pos h]
    exact List.length_map _
  · simp only [if_neg h]
    rfl

def getF : FieldD := ⟨⟨#[97]⟩, 1, 3, true, false, 0⟩

theorem get_a : (wayAtV [⟨⟨#[109]⟩, [getF]⟩] 0 0 ⟨#[97]⟩ [8, 1, 10, 2, 2, 3]).2 = 0 ∧ (wayAtV [⟨⟨#[109]⟩, [getF]⟩] 0 0 ⟨#[97]⟩ [8, 1, 10, 2, 2, 3]).1 = [1] ∧ gotV getF (atP [⟨⟨#[109]⟩, [getF]⟩] 0 0 ⟨#[97]⟩ [8, 1, 10, 2, 2, 3]) = ([1, 2, 3], 0) := by decide +kernel

set_option maxRecDepth 100000 in
theorem alive22 (w : World) : Calls Tryz.prog 6 #[] w fun e w' => e = .returned (.bool true) ∧ Ext w w' := by
  have hs := schema_lit (w := w) (nm := ⟨#[109]⟩) (f := ⟨⟨#[97]⟩, 1, 3, true, false, 0⟩) (by constructor <;> decide) (by decide)
  obtain ⟨v1, v2, v3⟩ := get_a
  have hon : OnWay [⟨⟨#[109]⟩, [getF]⟩] (0 : Int).toNat (wayAtV [⟨⟨#[109]⟩, [getF]⟩] 0 0 ⟨#[97]⟩ [8, 1, 10, 2, 2, 3]).1 getF := by
    rw [v2]
    exact .last (by decide +kernel)
  have hg := fun (W : World) (A B C : Option Addr) (h : SchemaAt W A 1 1 [⟨⟨⟨#[109]⟩, [getF]⟩, C, 1, 1⟩]) (hb : BytesAt W B 6 6 [8, 1, 10, 2, 2, 3]) => pGet_ok (root := 0) (d := 0) (p := ⟨#[97]⟩) h hb (by omega) (by decide) v1 hon
  simp only [List.map_cons, List.map_nil, v3] at hg
  have Hs := Lib.hid hs
  have Hg := Lib.hid hg
  clear hs hg v1 v2 v3 hon
  go_enter Tryz.func6, Tryz.ntmps6
  go_wp2_with fail
  refine (Hg.out _ _ _ _ (Hs.out.up (by repeat with_reducible (first | exact Ext.refl _ | refine Ext.alloc ?_ _ | refine Ext.drew ?_ | refine Ext.drewN ?_ _ | refine Ext.setCell ?_ (by first | exact Nat.le_refl _ | omega | (simp; done) | (simp; omega)) _))) (bytes_lit _ _ _ [8, 1, 10, 2, 2, 3] 6 (by simp) (by simp [bv]) rfl (by simp [maxLen]))).mono ?_
  rintro e w1 ⟨A1, c1, rfl, own1⟩
  have X1 : Ext w w1 := Ext.trans (by repeat with_reducible (first | exact Ext.refl _ | refine Ext.alloc ?_ _ | refine Ext.drew ?_ | refine Ext.drewN ?_ _ | refine Ext.setCell ?_ (by first | exact Nat.le_refl _ | omega | (simp; done) | (simp; omega)) _)) own1.ext
  go_wp2_with fail
  refine (same (xs := [1, 2, 3]) (ys := [1, 2, 3]) (own1.up (by repeat with_reducible (first | exact Ext.refl _ | refine Ext.alloc ?_ _ | refine Ext.drew ?_ | refine Ext.drewN ?_ _ | refine Ext.setCell ?_ (by first | exact Nat.le_refl _ | omega | (simp; done) | (simp; omega)) _))).bytes (bytes_lit _ _ _ [1, 2, 3] 3 (by simp) (by simp [bv]) rfl (by simp [maxLen]))).mono ?_
  rintro e w3 ⟨rfl, rfl⟩
  go_wp2
  go_ret
  exact ⟨by simp, X1.trans (by repeat with_reducible (first | exact Ext.refl _ | refine Ext.alloc ?_ _ | refine Ext.drew ?_ | refine Ext.drewN ?_ _ | refine Ext.setCell ?_ (by first | exact Nat.le_refl _ | omega | (simp; done) | (simp; omega)) _))⟩

end Go.Proofs.YtpicpebolghcfaaGreatDoor

/- Plain words of layer 22: what PickGets asks of codes, things and words. -/


namespace Go.Proofs.YtpicpebolghcfaaGreatDoor
open Go.RowKit Go.Shelf
set_option linter.unusedVariables false

theorem at_on {S : List MsgD} {root d : Int} {p : ByteArray} {bs : List UInt8} (h : (wayAtV S root d p bs).2 = 0) :
    rightS S = true ∧ 0 ≤ root ∧ root < S.length ∧ ∃ f, OnWay S root.toNat (wayAtV S root d p bs).1 f ∧ (wayAtV S root d p bs).1.length ≤ 1000 := by
  unfold wayAtV at h ⊢
  by_cases h0 : argsV S root d ≠ 0
  · rw [if_pos h0] at h
    exact absurd h h0
  · rw [if_neg h0] at h ⊢
    by_cases h1 : (resolveV S root p).2 ≠ 0
    · rw [if_pos h1] at h
      exact absurd h h1
    · rw [if_neg h1]
      obtain ⟨q1, q2, q3, f, hf, q4⟩ := resolve_on (S := S) (root := root) (p := p) (by omega)
      exact ⟨q1, q2, q3, f, hf, by show (resolveV S root p).1.length ≤ 1000; omega⟩

theorem at_le (S : List MsgD) (root d : Int) (p : ByteArray) (bs : List UInt8) : (wayAtV S root d p bs).2 < 256 := by
  unfold wayAtV
  split
  · unfold argsV
    repeat' split
    all_goals decide
  · split
    · show (resolveV S root p).2 < 256
      unfold resolveV argsM
      repeat' split
      all_goals first
        | decide
        | exact (by decide : (0 : Nat) < 256)
    · have := checkB_le S root bs d
      show (checkB S root bs d).2 < 256
      omega

theorem thingsP_few {f : FieldD} {ps : List (List UInt8)} {M : Nat} (h1 : ps.flatten.length ≤ M) (h2 : ps.length ≤ M) : thingsP f ps ≤ M + 1 := by
  unfold thingsP
  split
  · omega
  · split
    · rename_i hr
      have hl : loadP f ps = ps.flatten := by
        unfold loadP
        rw [if_pos (.inl hr)]
      rw [hl]
      unfold countV
      split
      · unfold valsV
        split
        · simp
        · have := valsF_len f.kind ps.flatten.length ps.flatten
          omega
      · omega
    · split <;> omega

theorem load_few {f : FieldD} {ps : List (List UInt8)} {M : Nat} (h1 : ps.flatten.length ≤ M) (h2 : ps.length ≤ M) (hM : M ≤ 1000000000) : (loadP f ps).length ≤ 11 * M := by
  unfold loadP
  split
  · omega
  · split
    · unfold lastP
      rcases hl : ps.getLast? with _ | b
      · simp
      · have := piece_le (List.mem_of_getLast? hl)
        simp only [Option.getD_some]
        omega
    · have := told_len ps (fun b hb => by have := piece_le hb; omega)
      omega

theorem item_num {S : List MsgD} {f : FieldD} {way : List Int} {m i : Nat} {bs : List UInt8} (hf : OnWay S m way f) (hn : numberB f.kind = true) (hi : i < thingsP f (piecesW S m bs way)) :
    ∃ x, (wordsV f.kind (loadP f (piecesW S m bs way))).1[i]? = some x ∧ x < 18446744073709551616 ∧ itemV f (piecesW S m bs way) i = (putS f.kind x, 0) := by
  have ht := things_there hi
  have hw : i < (wordsV f.kind (loadP f (piecesW S m bs way))).1.length := by
    rw [words_count]
    have h := hi
    unfold thingsP at h
    rw [if_neg (by rw [ht]; simp)] at h
    by_cases hr : runP f = true
    · rw [if_pos hr] at h
      exact h
    · rw [if_neg hr] at h
      have hrep : f.rep = false := by
        unfold runP at hr
        rw [hn, Bool.and_true] at hr
        simpa using hr
      rw [if_neg (by rw [hrep]; simp)] at h
      have hk := number_bd hn
      have hl : loadP f (piecesW S m bs way) = lastP (piecesW S m bs way) := by
        unfold loadP
        rw [if_neg (by rintro (h1 | ⟨h1, _⟩); exact hr h1; omega), if_pos hrep]
      have hp := there_pos ht hrep
      have hm : lastP (piecesW S m bs way) ∈ piecesW S m bs way := by
        unfold lastP
        rw [List.getLast?_eq_some_getLast (List.ne_nil_of_length_pos hp), Option.getD_some]
        exact List.getLast_mem _
      obtain ⟨w, hw⟩ := pieceW_word hrep hn hf _ hm
      rw [hl, ← words_count, hw]
      exact h
  refine ⟨(wordsV f.kind (loadP f (piecesW S m bs way))).1[i], List.getElem?_eq_getElem hw, ?_, ?_⟩
  · have := word_lt f.kind (loadP f (piecesW S m bs way)) i
    rw [List.getElem?_eq_getElem hw] at this
    exact this
  · unfold itemV
    rw [if_neg (by omega), if_pos hn, Int.toNat_natCast, List.getElem?_eq_getElem hw]
    rfl

theorem item_rep {f : FieldD} {ps : List (List UInt8)} {i : Nat} (hn : numberB f.kind = false) (hr : f.rep = true) (hi : i < thingsP f ps) : ∃ x, ps[i]? = some x ∧ itemV f ps i = (x, 0) := by
  have ht := things_there hi
  have hl : i < ps.length := by
    have h := hi
    unfold thingsP at h
    rw [if_neg (by rw [ht]; simp), if_neg (by unfold runP; rw [hn]; simp), if_pos hr] at h
    exact h
  refine ⟨ps[i], List.getElem?_eq_getElem hl, ?_⟩
  unfold itemV
  rw [if_neg (by omega), if_neg (by rw [hn]; simp), if_pos hr, Int.toNat_natCast, List.getElem?_eq_getElem hl]
  rfl

theorem item_one {f : FieldD} {ps : List (List UInt8)} {i : Nat} (hn : numberB f.kind = false) (hr : f.rep = false) (hi : i < thingsP f ps) : itemV f ps i = (loadP f ps, 0) := by
  unfold itemV
  rw [if_neg (by omega), if_neg (by rw [hn]; simp), if_neg (by rw [hr]; simp)]

theorem item_out {f : FieldD} {ps : List (List UInt8)} {i : Int} (h : i < 0 ∨ (thingsP f ps : Int) ≤ i) : itemV f ps i = ([], 11) := by
  unfold itemV
  rw [if_pos h]

theorem got_there {f : FieldD} {ps : List (List UInt8)} (h : thereP f ps = true) : gotV f ps = (loadP f ps, 0) := by unfold gotV; rw [if_pos h]

theorem got_no {f : FieldD} {ps : List (List UInt8)} (h : thereP f ps = false) : gotV f ps = ([], 11) := by unfold gotV; rw [if_neg (by rw [h]; simp)]

end Go.Proofs.YtpicpebolghcfaaGreatDoor
