/- The walk of the law MergeChain, out of its callees' contracts. -/
import Derived.Test.YtnnphodgegcddaaGreatQcW17b
import Derived.Test.YtnnphodgegcddaaGreatQcKSchemaChecks

namespace Go.Proofs.YtnnphodgegcddaaGreat
open Go.RowKit
set_option linter.unusedVariables false

theorem merge_a : twoC [⟨⟨#[109]⟩, [⟨⟨#[97]⟩, 1, 3, false, false, 0⟩]⟩] 0 0 [8, 1] [8, 2] = 0 ∧ ((viewsV [⟨⟨#[97]⟩, 1, 3, false, false, 0⟩] [8, 1]).1.filter (overP [⟨⟨#[97]⟩, 1, 3, false, false, 0⟩] (viewsV [⟨⟨#[97]⟩, 1, 3, false, false, 0⟩] [8, 2]).1)).length = 1 := by decide +kernel

theorem alive17 (w : World) : Calls Tryz.prog 9 #[] w fun e w' => e = .returned (.bool true) ∧ Ext w w' := by
 have hs := schema_lit (w := w) (nm := ⟨#[109]⟩) (f := ⟨⟨#[97]⟩, 1, 3, false, false, 0⟩) (by constructor <;> decide) (by decide)
 obtain ⟨v1, v2⟩ := merge_a
 have h1 := fun (W : World) (A : Option Addr) (n c : Nat) (A' : Option Addr) (n' c' : Nat) (h : SchemaAt W A n c [⟨⟨⟨#[109]⟩, [⟨⟨#[97]⟩, 1, 3, false, false, 0⟩]⟩, A', n', c'⟩]) (B C : Option Addr) (ha : BytesAt W B 2 2 [8, 1]) (hb : BytesAt W C 2 2 [8, 2]) => mTwo_ok (root := 0) (d := 0) h ha hb (by omega) ((twoC_all _ 0 0).1 v1)
 have h2 := fun (W : World) (A : Option Addr) (n c : Nat) (A' : Option Addr) (n' c' : Nat) (h : SchemaAt W A n c [⟨⟨⟨#[109]⟩, [⟨⟨#[97]⟩, 1, 3, false, false, 0⟩]⟩, A', n', c'⟩]) (B C : Option Addr) (ha : BytesAt W B 2 2 [8, 1]) (hb : BytesAt W C 2 2 [8, 2]) => mOver_ok (m := 0) (d := 0) h ha hb (by omega) rfl v1
 rw [show ((0 : Nat) : Int) = 0 from rfl] at h2
 simp only [v2] at h2
 have Hs := Lib.hid hs
 have H1 := Lib.hid h1
 have H2 := Lib.hid h2
 clear hs h1 h2 v1 v2
 go_enter Tryz.func9, Tryz.ntmps9
 go_wp2_with fail
 refine (H1.out _ _ _ _ _ _ _ (Hs.out.up (by repeat with_reducible (first | exact Ext.refl _ | refine Ext.alloc ?_ _ | refine Ext.drew ?_ | refine Ext.drewN ?_ _ | refine Ext.setCell ?_ (by first | omega | (simp <;> omega)) _))) _ _ (BytesAt.up (bytes_lit _ _ _ [8, 1] 2 (by simp) (by simp [bv]) rfl (by simp [maxLen])) (Ext.alloc (Ext.refl _) _)) (bytes_lit _ _ _ [8, 2] 2 (by simp) (by simp [bv]) rfl (by simp [maxLen]))).mono ?_
 rintro e w1 ⟨A1, c1, rfl, own1⟩
 have X1 : Ext w w1 := Ext.trans (by repeat with_reducible (first | exact Ext.refl _ | refine Ext.alloc ?_ _ | refine Ext.drew ?_ | refine Ext.drewN ?_ _ | refine Ext.setCell ?_ (by first | omega | (simp <;> omega)) _)) own1.ext
 have Hs1 := Hs.out.up (Ext.trans (by repeat with_reducible (first | exact Ext.refl _ | refine Ext.alloc ?_ _ | refine Ext.drew ?_ | refine Ext.drewN ?_ _ | refine Ext.setCell ?_ (by first | omega | (simp <;> omega)) _)) own1.ext)
 go_wp2_with fail
 refine (H2.out _ _ _ _ _ _ _ (Hs1.up (by repeat with_reducible (first | exact Ext.refl _ | refine Ext.alloc ?_ _ | refine Ext.drew ?_ | refine Ext.drewN ?_ _ | refine Ext.setCell ?_ (by first | omega | (simp <;> omega)) _))) _ _ (BytesAt.up (bytes_lit _ _ _ [8, 1] 2 (by simp) (by simp [bv]) rfl (by simp [maxLen])) (Ext.alloc (Ext.refl _) _)) (bytes_lit _ _ _ [8, 2] 2 (by simp) (by simp [bv]) rfl (by simp [maxLen]))).mono ?_
 rintro e w2 ⟨rfl, E2⟩
 have X2 : Ext w1 w2 := Ext.trans (by repeat with_reducible (first | exact Ext.refl _ | refine Ext.alloc ?_ _ | refine Ext.drew ?_ | refine Ext.drewN ?_ _ | refine Ext.setCell ?_ (by first | omega | (simp <;> omega)) _)) E2
 have own2 := own1.up X2
 go_wp2_with fail
 refine (same (xs := [8, 1] ++ [8, 2]) (ys := [8, 1, 8, 2]) (own2.up (by repeat with_reducible (first | exact Ext.refl _ | refine Ext.alloc ?_ _ | refine Ext.drew ?_ | refine Ext.drewN ?_ _ | refine Ext.setCell ?_ (by first | omega | (simp <;> omega)) _))).bytes (bytes_lit _ _ _ [8, 1, 8, 2] 4 (by simp) (by simp [bv]) rfl (by simp [maxLen]))).mono ?_
 rintro e w3 ⟨rfl, rfl⟩
 go_wp2
 go_ret
 exact ⟨by simp, X1.trans (X2.trans (by repeat with_reducible (first | exact Ext.refl _ | refine Ext.alloc ?_ _ | refine Ext.drew ?_ | refine Ext.drewN ?_ _ | refine Ext.setCell ?_ (by first | omega | (simp <;> omega)) _)))⟩

end Go.Proofs.YtnnphodgegcddaaGreat
