/- Layer 22: the chapter's example; the words and the texts are as many as the things. -/
import Derived.Test.YtpicpebolghcfaaGreatDoorQjW81
import Derived.Test.YtpicpebolghcfaaGreatDoorQjW11
import Derived.Test.YtpicpebolghcfaaGreatDoorQjW6
import Derived.Test.YtpicpebolghcfaaGreatDoorQjSort
import Derived.Test.YtpicpebolghcfaaGreatDoorQjW7

namespace Go.Proofs.YtpicpebolghcfaaGreatDoor
open Go.RowKit Go.Shelf
set_option linter.unusedVariables false

theorem words_count (k : Int) (bs : List UInt8) : (wordsV k bs).1.length = countV k bs := by
  unfold wordsV countV
  by_cases h : codeV k bs = 0
  · simp only [if_pos h]
    exact List.length_map _
  · simp only [if_neg h]
    rfl

theorem text_number {k : Int} (h : k = 15 ∨ k = 16) : numberB k = false := by
  rcases hb : numberB k with _ | _
  · rfl
  · have := number_bd hb
    omega

def getF : FieldD := ⟨⟨#[97]⟩, 1, 3, true, false, 0⟩

theorem get_a : (wayAtV [⟨⟨#[109]⟩, [getF]⟩] 0 0 ⟨#[97]⟩ [8, 1, 10, 2, 2, 3]).2 = 0 ∧ (wayAtV [⟨⟨#[109]⟩, [getF]⟩] 0 0 ⟨#[97]⟩ [8, 1, 10, 2, 2, 3]).1 = [1] ∧ gotV getF (atP [⟨⟨#[109]⟩, [getF]⟩] 0 0 ⟨#[97]⟩ [8, 1, 10, 2, 2, 3]) = ([1, 2, 3], 0) := by decide +kernel

set_option maxRecDepth 100000 in
theorem alive22 (w : World) : Calls Tryz.prog 6 #[] w fun e w' => e = .returned (.bool true) ∧ Ext w w' := by
  have hs := schema_lit (w := w) (nm := ⟨#[109]⟩) (f := ⟨⟨#[97]⟩, 1, 3, true, false, 0⟩) (by constructor <;> decide) (by decide)
  obtain ⟨v1, v2, v3⟩ := get_a
  have hon : OnWay [⟨⟨#[109]⟩, [getF]⟩] (0 : Int).toNat (wayAtV [⟨⟨#[109]⟩, [getF]⟩] 0 0 ⟨#[97]⟩ [8, 1, 10, 2, 2, 3]).1 getF := by
    rw [v2]
    exact .last (by decide +kernel)
  have hg := fun (W : World) (A B C : Option Addr) (h : SchemaAt W A 1 1 [⟨⟨⟨#[109]⟩, [getF]⟩, C, 1, 1⟩]) (hb : BytesAt W B 6 6 [8, 1, 10, 2, 2, 3]) => pGet_ok (root := 0) (d := 0) (p := ⟨#[97]⟩) h hb (by omega) (by decide) v1 hon
  simp only [List.map_cons, List.map_nil, v3] at hg
  have Hs := Lib.hid hs
  have Hg := Lib.hid hg
  clear hs hg v1 v2 v3 hon
  go_enter Tryz.func6, Tryz.ntmps6
  go_wp2_with fail
  refine (Hg.out _ _ _ _ (Hs.out.up (by repeat with_reducible (first | exact Ext.refl _ | refine Ext.alloc ?_ _ | refine Ext.drew ?_ | refine Ext.drewN ?_ _ | refine Ext.setCell ?_ (by first | exact Nat.le_refl _ | omega | (simp; done) | (simp; omega)) _))) (bytes_lit _ _ _ [8, 1, 10, 2, 2, 3] 6 (by simp) (by simp [bv]) rfl (by simp [maxLen]))).mono ?_
  rintro e w1 ⟨A1, c1, rfl, own1⟩
  have X1 : Ext w w1 := Ext.trans (by repeat with_reducible (first | exact Ext.refl _ | refine Ext.alloc ?_ _ | refine Ext.drew ?_ | refine Ext.drewN ?_ _ | refine Ext.setCell ?_ (by first | exact Nat.le_refl _ | omega | (simp; done) | (simp; omega)) _)) own1.ext
  go_wp2_with fail
  refine (same (xs := [1, 2, 3]) (ys := [1, 2, 3]) (own1.up (by repeat with_reducible (first | exact Ext.refl _ | refine Ext.alloc ?_ _ | refine Ext.drew ?_ | refine Ext.drewN ?_ _ | refine Ext.setCell ?_ (by first | exact Nat.le_refl _ | omega | (simp; done) | (simp; omega)) _))).bytes (bytes_lit _ _ _ [1, 2, 3] 3 (by simp) (by simp [bv]) rfl (by simp [maxLen]))).mono ?_
  rintro e w3 ⟨rfl, rfl⟩
  go_wp2
  go_ret
  exact ⟨by simp, X1.trans (by repeat with_reducible (first | exact Ext.refl _ | refine Ext.alloc ?_ _ | refine Ext.drew ?_ | refine Ext.drewN ?_ _ | refine Ext.setCell ?_ (by first | exact Nat.le_refl _ | omega | (simp; done) | (simp; omega)) _))⟩

end Go.Proofs.YtpicpebolghcfaaGreatDoor

/- Plain words of layer 22: what PickGets asks of codes, things and words. -/



namespace Go.Proofs.YtpicpebolghcfaaGreatDoor
open Go.RowKit Go.Shelf
set_option linter.unusedVariables false

theorem at_on {S : List MsgD} {root d : Int} {p : ByteArray} {bs : List UInt8} (h : (wayAtV S root d p bs).2 = 0) :
    rightS S = true ∧ 0 ≤ root ∧ root < S.length ∧ ∃ f, OnWay S root.toNat (wayAtV S root d p bs).1 f ∧ (wayAtV S root d p bs).1.length ≤ 1000 := by
  unfold wayAtV at h ⊢
  by_cases h0 : argsV S root d ≠ 0
  · rw [if_pos h0] at h
    exact absurd h h0
  · rw [if_neg h0] at h ⊢
    by_cases h1 : (resolveV S root p).2 ≠ 0
    · rw [if_pos h1] at h
      exact absurd h h1
    · rw [if_neg h1]
      obtain ⟨q1, q2, q3, f, hf, q4⟩ := resolve_on (S := S) (root := root) (p := p) (by omega)
      exact ⟨q1, q2, q3, f, hf, by show (resolveV S root p).1.length ≤ 1000; omega⟩

theorem at_le (S : List MsgD) (root d : Int) (p : ByteArray) (bs : List UInt8) : (wayAtV S root d p bs).2 < 256 := by
  unfold wayAtV
  split
  · unfold argsV
    repeat' split
    all_goals decide
  · split
    · show (resolveV S root p).2 < 256
      unfold resolveV argsM
      repeat' split
      all_goals first
        | decide
        | exact (by decide : (0 : Nat) < 256)
    · have := checkB_le S root bs d
      show (checkB S root bs d).2 < 256
      omega

theorem load_few {f : FieldD} {ps : List (List UInt8)} {M : Nat} (h1 : ps.flatten.length ≤ M) (h2 : ps.length ≤ M) (hM : M ≤ 1000000000) : (loadP f ps).length ≤ 11 * M := by
  unfold loadP
  split
  · omega
  · split
    · unfold lastP
      rcases hl : ps.getLast? with _ | b
      · simp
      · have := piece_le (List.mem_of_getLast? hl)
        simp only [Option.getD_some]
        omega
    · have := told_len ps (fun b hb => by have := piece_le hb; omega)
      omega

end Go.Proofs.YtpicpebolghcfaaGreatDoor

/- Contracts of Go's stable sort of whole numbers, in place. -/




namespace Go.Proofs.YtpicpebolghcfaaGreatDoor
open Go.RowKit
set_option linter.unusedVariables false

section
variable {w0 w w' : World} {e : TypeId} {g n c : Nat} {ys : List Nat}

end

end Go.Proofs.YtpicpebolghcfaaGreatDoor

/- Contracts of Go's stable sort of whole numbers: merging in place. -/


namespace Go.Proofs.YtpicpebolghcfaaGreatDoor
open Go.RowKit
set_option linter.unusedVariables false

end Go.Proofs.YtpicpebolghcfaaGreatDoor

/- Contracts of Go's stable sort of whole numbers: merging in place, whole. -/


namespace Go.Proofs.YtpicpebolghcfaaGreatDoor
open Go.RowKit
set_option linter.unusedVariables false

end Go.Proofs.YtpicpebolghcfaaGreatDoor

/- Contracts of Go's stable sort of whole numbers, and of the fields' order. -/


namespace Go.Proofs.YtpicpebolghcfaaGreatDoor
open Go.RowKit
set_option linter.unusedVariables false

def keyF (fs : List FieldD) (i : Nat) : Int := ((fs[i]?).map (·.number)).getD 0

theorem keyF_at {fs : List FieldD} {i : Nat} {f : FieldD} (h : fs[i]? = some f) : keyF fs i = f.number := by unfold keyF; rw [h]; rfl

end Go.Proofs.YtpicpebolghcfaaGreatDoor
