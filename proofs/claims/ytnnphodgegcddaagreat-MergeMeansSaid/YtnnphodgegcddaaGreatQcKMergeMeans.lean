/- The walk of the law MergeMeans, out of its callees' contracts. (Printed by gen_kmm.py.) -/
import Derived.Test.YtnnphodgegcddaaGreatQcS18
import Derived.Test.YtnnphodgegcddaaGreatQcW30
import Derived.Test.YtnnphodgegcddaaGreatQcW14w
import Derived.Test.YtnnphodgegcddaaGreatQcW14o
import Derived.Test.YtnnphodgegcddaaGreatQcW14r
import Derived.Test.YtnnphodgegcddaaGreatQcW11
import Derived.Test.YtnnphodgegcddaaGreatQcKMergeChain
import Derived.Test.YtnnphodgegcddaaGreatQcKSchemaChecks

namespace Go.Proofs.YtnnphodgegcddaaGreat
open Go.RowKit Go.Shelf
set_option linter.unusedVariables false

theorem code_two (S : List MsgD) (root d : Int) (xs ys : List UInt8) : twoC S root d xs ys = if (checkB S root xs d).2 = 0 then (checkB S root ys d).2 else (checkB S root xs d).2 := by
 unfold twoC
 by_cases h : argsV S root d = 0
 · rw [if_pos h]
 · rw [if_neg h]
   have e : ∀ bs, (checkB S root bs d).2 = argsV S root d := fun bs => by
    unfold checkB
    rw [if_neg h]
   rw [e, e, if_neg h]

set_option maxRecDepth 100000 in
theorem mergeMeans_long {A : Option Addr} {n c : Nat} {S : List MsgV} {root : Int} {B C : Option Addr} {n1 c1 n2 c2 : Nat} {xs ys : List UInt8} {d : Int} {w : World} (hs : SchemaAt w A n c S) (ha : BytesAt w B n1 c1 xs) (hb : BytesAt w C n2 c2 ys) (g1 : (n1 : Int) ≤ 140737488351232) (g2 : (n2 : Int) ≤ 140737488351232) (hn : (1500 : Int) < (n1 : Int) + n2) :
  Calls Tryz.prog 3 #[.slice A n c, .int .i64 root, .slice B n1 c1, .slice C n2 c2, .int .i64 d] w fun e w' => e = .returned (.bool true) ∧ Ext w w' := by
 have hE := Ext.refl w
 go_enter Tryz.func3, Tryz.ntmps3
 go_wp2_with (first | (go_at_call 9; refine (alive17 _).mono ?_; rintro e w1 ⟨rfl, E1⟩; have X_ : Ext w w1 := Ext.trans (by repeat with_reducible (first | exact Ext.refl _ | refine Ext.alloc ?_ _ | refine Ext.drew ?_ | refine Ext.drewN ?_ _ | refine Ext.setCell ?_ (by first | omega | (simp <;> omega)) _)) E1; replace hE := hE.up X_; replace hs := hs.up X_; clear X_) | (go_at_call 10; refine (few07 hs).mono ?_; rintro e w2 ⟨x, rfl, E2⟩; have X_ : Ext w1 w2 := Ext.trans (by repeat with_reducible (first | exact Ext.refl _ | refine Ext.alloc ?_ _ | refine Ext.drew ?_ | refine Ext.drewN ?_ _ | refine Ext.setCell ?_ (by first | omega | (simp <;> omega)) _)) E2; replace hE := hE.up X_; clear X_))
 all_goals
  go_ret
  exact ⟨rfl, hE⟩

set_option maxRecDepth 100000 in
set_option maxHeartbeats 4000000 in
theorem mergeMeans_bad {A : Option Addr} {n c : Nat} {S : List MsgV} {root : Int} {B C : Option Addr} {n1 c1 n2 c2 : Nat} {xs ys : List UInt8} {d : Int} {w : World} (hs : SchemaAt w A n c S) (ha : BytesAt w B n1 c1 xs) (hb : BytesAt w C n2 c2 ys) (g1 : (n1 : Int) ≤ 140737488351232) (g2 : (n2 : Int) ≤ 140737488351232) (hn : ¬ (1500 : Int) < (n1 : Int) + n2) (hC : twoC (S.map MsgV.d) root d xs ys ≠ 0) :
  Calls Tryz.prog 3 #[.slice A n c, .int .i64 root, .slice B n1 c1, .slice C n2 c2, .int .i64 d] w fun e w' => e = .returned (.bool true) ∧ Ext w w' := by
 have hE := Ext.refl w
 obtain ⟨i, hAll⟩ := (twoC_all (S.map MsgV.d) root d (A := B) (B := C) (n := n1) (c := c1) (m := n2) (e := c2)).2 hC
 have h1 := fun (W : World) (h : SchemaAt W A n c S) (p : BytesAt W B n1 c1 xs) (q : BytesAt W C n2 c2 ys) => mTwo_bad h p q (by omega) hAll
 have h2 := fun (W : World) (h : SchemaAt W A n c S) (p : BytesAt W B n1 c1 xs) => vCheckR (root := root) (d := d) h p (by omega)
 have h3 := fun (W : World) (h : SchemaAt W A n c S) (p : BytesAt W C n2 c2 ys) => vCheckR (root := root) (d := d) h p (by omega)
 have k1 := checkB_le (S.map MsgV.d) root xs d
 have k2 := checkB_le (S.map MsgV.d) root ys d
 rw [code_two] at h1 hC
 generalize checkB (S.map MsgV.d) root xs d = V1 at *
 generalize checkB (S.map MsgV.d) root ys d = V2 at *
 obtain ⟨P1, C1⟩ := V1
 obtain ⟨P2, C2⟩ := V2
 simp only at h1 h2 h3 k1 k2 hC
 by_cases hc1 : C1 = 0
 · subst hc1
   rw [if_pos rfl] at h1 hC
   have q2 : ((C2 : Int) != 0) = true := by simpa using hC
   have q3 : (C2 : Int) < 256 := by omega
   have H1 := Lib.hid h1
   have H2 := Lib.hid h2
   have H3 := Lib.hid h3
   clear h1 h2 h3 hAll hC
   go_enter Tryz.func3, Tryz.ntmps3
   go_wp2_with (first
    | (go_at_call 9; refine (alive17 _).mono ?_; rintro e w1 ⟨rfl, E1⟩; have X_ : Ext w w1 := Ext.trans (by repeat with_reducible (first | exact Ext.refl _ | refine Ext.alloc ?_ _ | refine Ext.drew ?_ | refine Ext.drewN ?_ _ | refine Ext.setCell ?_ (by first | omega | (simp <;> omega)) _)) E1; replace hE := hE.up X_; replace hs := hs.up X_; replace ha := ha.up X_; replace hb := hb.up X_; clear X_)
    | (go_at_call 10; refine (few07 hs).mono ?_; rintro e w2 ⟨x, rfl, E2⟩; have X_ : Ext w1 w2 := Ext.trans (by repeat with_reducible (first | exact Ext.refl _ | refine Ext.alloc ?_ _ | refine Ext.drew ?_ | refine Ext.drewN ?_ _ | refine Ext.setCell ?_ (by first | omega | (simp <;> omega)) _)) E2; replace hE := hE.up X_; replace hs := hs.up X_; replace ha := ha.up X_; replace hb := hb.up X_; clear X_)
    | (go_at_call 11; refine (H1.out _ hs ha hb).mono ?_; rintro e w3 ⟨rfl, E3⟩; have X_ : Ext w2 w3 := Ext.trans (by repeat with_reducible (first | exact Ext.refl _ | refine Ext.alloc ?_ _ | refine Ext.drew ?_ | refine Ext.drewN ?_ _ | refine Ext.setCell ?_ (by first | omega | (simp <;> omega)) _)) E3; replace hE := hE.up X_; replace hs := hs.up X_; replace ha := ha.up X_; replace hb := hb.up X_; clear X_)
    | (go_at_call 12; (with_reducible refine (H2.out w3 hs ha).mono ?_); rintro e w4 ⟨rfl, E4⟩; have X_ : Ext w3 w4 := Ext.trans (by repeat with_reducible (first | exact Ext.refl _ | refine Ext.alloc ?_ _ | refine Ext.drew ?_ | refine Ext.drewN ?_ _ | refine Ext.setCell ?_ (by first | omega | (simp <;> omega)) _)) E4; replace hE := hE.up X_; replace hs := hs.up X_; replace hb := hb.up X_; clear X_)
    | (go_at_call 12; (with_reducible refine (H3.out w4 hs hb).mono ?_); rintro e w5 ⟨rfl, E5⟩; have X_ : Ext w4 w5 := Ext.trans (by repeat with_reducible (first | exact Ext.refl _ | refine Ext.alloc ?_ _ | refine Ext.drew ?_ | refine Ext.drewN ?_ _ | refine Ext.setCell ?_ (by first | omega | (simp <;> omega)) _)) E5; replace hE := hE.up X_; clear X_))
   all_goals
    go_ret
    exact ⟨by simp, hE⟩
 · rw [if_neg hc1] at h1 hC
   have q0 : ((C1 : Int) == 0) = false := by rw [beq_eq_false_iff_ne]; omega
   have q2 : ((C1 : Int) != 0) = true := by rw [bne_iff_ne]; omega
   have q3 : (C1 : Int) < 256 := by omega
   have H1 := Lib.hid h1
   have H2 := Lib.hid h2
   clear h1 h2 h3 hAll hC hc1
   go_enter Tryz.func3, Tryz.ntmps3
   go_wp2_with (first
    | (go_at_call 9; refine (alive17 _).mono ?_; rintro e w1 ⟨rfl, E1⟩; have X_ : Ext w w1 := Ext.trans (by repeat with_reducible (first | exact Ext.refl _ | refine Ext.alloc ?_ _ | refine Ext.drew ?_ | refine Ext.drewN ?_ _ | refine Ext.setCell ?_ (by first | omega | (simp <;> omega)) _)) E1; replace hE := hE.up X_; replace hs := hs.up X_; replace ha := ha.up X_; replace hb := hb.up X_; clear X_)
    | (go_at_call 10; refine (few07 hs).mono ?_; rintro e w2 ⟨x, rfl, E2⟩; have X_ : Ext w1 w2 := Ext.trans (by repeat with_reducible (first | exact Ext.refl _ | refine Ext.alloc ?_ _ | refine Ext.drew ?_ | refine Ext.drewN ?_ _ | refine Ext.setCell ?_ (by first | omega | (simp <;> omega)) _)) E2; replace hE := hE.up X_; replace hs := hs.up X_; replace ha := ha.up X_; replace hb := hb.up X_; clear X_)
    | (go_at_call 11; refine (H1.out _ hs ha hb).mono ?_; rintro e w3 ⟨rfl, E3⟩; have X_ : Ext w2 w3 := Ext.trans (by repeat with_reducible (first | exact Ext.refl _ | refine Ext.alloc ?_ _ | refine Ext.drew ?_ | refine Ext.drewN ?_ _ | refine Ext.setCell ?_ (by first | omega | (simp <;> omega)) _)) E3; replace hE := hE.up X_; replace hs := hs.up X_; replace ha := ha.up X_; clear X_)
    | (go_at_call 12; (with_reducible refine (H2.out w3 hs ha).mono ?_); rintro e w4 ⟨rfl, E4⟩; have X_ : Ext w3 w4 := Ext.trans (by repeat with_reducible (first | exact Ext.refl _ | refine Ext.alloc ?_ _ | refine Ext.drew ?_ | refine Ext.drewN ?_ _ | refine Ext.setCell ?_ (by first | omega | (simp <;> omega)) _)) E4; replace hE := hE.up X_; clear X_))
   all_goals
    go_ret
    exact ⟨by simp, hE⟩

set_option maxRecDepth 100000 in
set_option maxHeartbeats 8000000 in
theorem mergeMeans_good {A : Option Addr} {n c : Nat} {S : List MsgV} {m : Nat} {B C : Option Addr} {n1 c1 n2 c2 : Nat} {xs ys : List UInt8} {d : Int} {w : World} (hs : SchemaAt w A n c S) (ha : BytesAt w B n1 c1 xs) (hb : BytesAt w C n2 c2 ys) (g1 : (n1 : Int) ≤ 140737488351232) (g2 : (n2 : Int) ≤ 140737488351232) (hn : ¬ (1500 : Int) < (n1 : Int) + n2) (hC1 : (checkB (S.map MsgV.d) (m : Int) xs d).2 = 0) (hC2 : (checkB (S.map MsgV.d) (m : Int) ys d).2 = 0) :
  Calls Tryz.prog 3 #[.slice A n c, .int .i64 (m : Int), .slice B n1 c1, .slice C n2 c2, .int .i64 d] w fun e w' => e = .returned (.bool true) ∧ Ext w w' := by
 have hE := Ext.refl w
 have la := ha.length
 have lb := hb.length
 obtain ⟨hR, _, r2, e1, e2, v1⟩ := check_right hC1
 obtain ⟨_, _, _, _, _, v2⟩ := check_right hC2
 rw [Int.toNat_natCast] at v1 v2
 have hm : m < (S.map MsgV.d).length := by omega
 have hmS : m < S.length := by simpa using hm
 have x1 : validB (S.map MsgV.d) (m : Int) xs d = true := by unfold validB; exact decide_eq_true hC1
 have x2 : validB (S.map MsgV.d) (m : Int) ys d = true := by unfold validB; exact decide_eq_true hC2
 have x3 : validB (S.map MsgV.d) (m : Int) (xs ++ ys) d = true := (valid_both x1).trans x2
 have hC3 : (checkB (S.map MsgV.d) (m : Int) (xs ++ ys) d).2 = 0 := by
  unfold validB at x3
  exact of_decide_eq_true x3
 have hj := mean_join hR hm v1 v2 (by omega)
 have fa : FitT 100000000 (meanB (S.map MsgV.d) m xs) := fit_of8 hR _ _ _ (by omega)
 have fb : FitT 100000000 (meanB (S.map MsgV.d) m ys) := fit_of8 hR _ _ _ (by omega)
 have fc : FitT 1000000000000 (meanB (S.map MsgV.d) m (xs ++ ys)) := fit_of hR _ _ _ (by rw [List.length_append]; omega)
 have rx := mean_right hR hm v1 (by omega)
 have ry := mean_right hR hm v2 (by omega)
 obtain ⟨n3, hn3⟩ : ∃ n3, n3 = n1 + n2 := ⟨_, rfl⟩
 have h1 := fun (W : World) (h : SchemaAt W A n c S) (p : BytesAt W B n1 c1 xs) (q : BytesAt W C n2 c2 ys) => mTwo_ok (root := (m : Int)) (d := d) h p q (by omega) ((twoC_all _ _ _).1 (twoC_valid.2 ⟨x1, x2⟩))
 rw [← hn3] at h1
 have h2 := fun (W : World) (h : SchemaAt W A n c S) (p : BytesAt W B n1 c1 xs) => vCheckR (root := (m : Int)) (d := d) h p (by omega)
 have h3 := fun (W : World) (h : SchemaAt W A n c S) (p : BytesAt W C n2 c2 ys) => vCheckR (root := (m : Int)) (d := d) h p (by omega)
 rw [hC1] at h2
 rw [hC2] at h3
 have h4 : ∀ W (A3 : Option Addr) (c3 : Nat), SchemaAt W A n c S → BytesAt W A3 n3 c3 (xs ++ ys) → Calls Tryz.prog 13 #[.slice A n c, .int .i64 (m : Int), .slice A3 n3 c3, .int .i64 d] W fun e w' => ∃ y, e = .returned (.tuple #[treeV y, .int .u8 0]) ∧ bare y = meanB (S.map MsgV.d) m (xs ++ ys) ∧ TreeAt w' y ∧ Ext W w' := fun W A3 c3 h q => by
  refine (tOfB (root := (m : Int)) (d := d) h q (by omega)).mono ?_
  rintro e w' ⟨y, rfl, q1, q2, _, q4⟩
  refine ⟨y, by rw [hC3]; rfl, ?_, q2, q4⟩
  rw [q1]
  unfold OfT meanB
  rw [if_pos hC3, Int.toNat_natCast]
  exact ofV_fuel _ _ _ m _ (Nat.le_refl _) (by rw [List.length_append]; omega)
 have hof : ∀ W (A3 : Option Addr) (n' c3 : Nat) (bs : List UInt8), SchemaAt W A n c S → BytesAt W A3 n' c3 bs → n' ≤ 100000 → Calls Tryz.prog 15 #[.slice A n c, .int .i64 (m : Int), .slice A3 n' c3] W fun e w' => ∃ y, e = .returned (treeV y) ∧ bare y = meanB (S.map MsgV.d) m bs ∧ TreeAt w' y ∧ Ext W w' := fun W A3 n' c3 bs h q hl => by
  refine (rOf hR 100000 (Nat.le_refl _) W A n c m A3 n' c3 bs h hmS q (by omega)).mono ?_
  rintro e w' ⟨y, rfl, q1, q2, _, q4⟩
  exact ⟨y, rfl, q1, q2, q4⟩
 have h5 := fun W (h : SchemaAt W A n c S) (q : BytesAt W B n1 c1 xs) => hof W B n1 c1 xs h q (by omega)
 have h6 := fun W (h : SchemaAt W A n c S) (q : BytesAt W C n2 c2 ys) => hof W C n2 c2 ys h q (by omega)
 have h7 := fun W (A3 : Option Addr) (c3 : Nat) (h : SchemaAt W A n c S) (q : BytesAt W A3 n3 c3 (xs ++ ys)) => hof W A3 n3 c3 (xs ++ ys) h q (by omega)
 have h8 : ∀ W (p q : MsgR), bare p = meanB (S.map MsgV.d) m xs → bare q = meanB (S.map MsgV.d) m ys → SchemaAt W A n c S → TreeAt W p → TreeAt W q → Calls Tryz.prog 14 #[.slice A n c, .int .i64 (m : Int), treeV p, treeV q] W fun e w' => ∃ z, e = .returned (treeV z) ∧ bare z = meanB (S.map MsgV.d) m (xs ++ ys) ∧ TreeAt w' z ∧ Ext W w' := fun W p q hp hq h tp tq => by
  refine (rJoin hR d.toNat 100000 m p q W A n c (by omega) h tp tq (FitT.of_bare p (by rw [hp]; exact fa)) (FitT.of_bare q (by rw [hq]; exact fb)) (by rw [hp]; exact rx) (by rw [hq]; exact ry)).mono ?_
  rintro e w' ⟨z, rfl, q1, q2, _, q4⟩
  exact ⟨z, rfl, by rw [q1, hp, hq, hj], q2, q4⟩
 have h9 := fun W (A3 : Option Addr) (c3 : Nat) (h : SchemaAt W A n c S) (q : BytesAt W A3 n3 c3 (xs ++ ys)) => vIsR (root := (m : Int)) (d := d) h q (by omega)
 rw [x3] at h9
 have h10 : ∀ W (y : MsgR), bare y = meanB (S.map MsgV.d) m (xs ++ ys) → TreeAt W y → Calls Tryz.prog 18 #[treeV y] W fun e w' => ∃ z, e = .returned (treeV z) ∧ bare z = meanB (S.map MsgV.d) m (xs ++ ys) ∧ TreeAt w' z ∧ Ext W w' := fun W y hy h => by
  refine (tOf y W h (FitT.of_bare y (by rw [hy]; exact fc))).mono ?_
  rintro e w' ⟨z, rfl, q1, q2, _, q4⟩
  exact ⟨z, rfl, q1.trans hy, q2, q4⟩
 have h11 : ∀ W (y z : MsgR), bare y = meanB (S.map MsgV.d) m (xs ++ ys) → bare z = meanB (S.map MsgV.d) m (xs ++ ys) → TreeAt W y → TreeAt W z → Calls Tryz.prog 17 #[treeV y, treeV z] W fun e w' => e = .returned (.bool true) ∧ Ext W w' := fun W y z e0 e1 h k => by
  have := rSame y z W h k
  rwa [e0, e1, eqB_yes rfl] at this
 generalize checkB (S.map MsgV.d) (m : Int) xs d = V1 at *
 generalize checkB (S.map MsgV.d) (m : Int) ys d = V2 at *
 generalize meanB (S.map MsgV.d) m (xs ++ ys) = MC at *
 generalize meanB (S.map MsgV.d) m xs = MA at *
 generalize meanB (S.map MsgV.d) m ys = MB at *
 obtain ⟨P1, C1⟩ := V1
 obtain ⟨P2, C2⟩ := V2
 simp only at h2 h3
 unfold treeV at *
 have s3 : ((n3 : Int) == (n1 : Int) + n2) = true := by rw [beq_iff_eq]; omega
 have s4 : IntKind.i64.wrap ((n1 : Int) + n2) = (n1 : Int) + n2 := IntWalk.i64_in _ (by omega)
 have s5 : (n3 : Int) ≤ 1500 := by omega
 have H1 := Lib.hid h1
 have H2 := Lib.hid h2
 have H3 := Lib.hid h3
 have H4 := Lib.hid h4
 have H5 := Lib.hid h5
 have H6 := Lib.hid h6
 have H7 := Lib.hid h7
 have H8 := Lib.hid h8
 have H9 := Lib.hid h9
 have H10 := Lib.hid h10
 have H11 := Lib.hid h11
 have S3 := Lib.hid s3
 have S4 := Lib.hid s4
 clear h1 h2 h3 h4 h5 h6 h7 h8 h9 h10 h11 hof hj fa fb fc rx ry hC1 hC2 hC3 x1 x2 x3 v1 v2 hm hmS r2 la lb hR hn3 s3 s4 e1 e2
 go_enter Tryz.func3, Tryz.ntmps3
 go_wp2_with (first
  | (go_at_call 9; refine (alive17 _).mono ?_; rintro e w1 ⟨rfl, E1⟩; have X_ : Ext w w1 := Ext.trans (by repeat with_reducible (first | exact Ext.refl _ | refine Ext.alloc ?_ _ | refine Ext.drew ?_ | refine Ext.drewN ?_ _ | refine Ext.setCell ?_ (by first | omega | (simp <;> omega)) _)) E1; replace hE := hE.up X_; replace hs := hs.up X_; replace ha := ha.up X_; replace hb := hb.up X_; clear X_)
  | (go_at_call 10; refine (few07 hs).mono ?_; rintro e w2 ⟨x, rfl, E2⟩; have X_ : Ext w1 w2 := Ext.trans (by repeat with_reducible (first | exact Ext.refl _ | refine Ext.alloc ?_ _ | refine Ext.drew ?_ | refine Ext.drewN ?_ _ | refine Ext.setCell ?_ (by first | omega | (simp <;> omega)) _)) E2; replace hE := hE.up X_; replace hs := hs.up X_; replace ha := ha.up X_; replace hb := hb.up X_; clear X_)
  | (go_at_call 11; refine (H1.out _ hs ha hb).mono ?_; rintro e w3 ⟨A3, c3, rfl, own3⟩; have X_ : Ext w2 w3 := Ext.trans (by repeat with_reducible (first | exact Ext.refl _ | refine Ext.alloc ?_ _ | refine Ext.drew ?_ | refine Ext.drewN ?_ _ | refine Ext.setCell ?_ (by first | omega | (simp <;> omega)) _)) own3.ext; replace hE := hE.up X_; replace hs := hs.up X_; replace ha := ha.up X_; replace hb := hb.up X_; clear X_; have hc := own3.bytes;  clear own3)
  | (go_at_call 12; (with_reducible refine (H2.out w3 hs ha).mono ?_); rintro e w4 ⟨rfl, E4⟩; have X_ : Ext w3 w4 := Ext.trans (by repeat with_reducible (first | exact Ext.refl _ | refine Ext.alloc ?_ _ | refine Ext.drew ?_ | refine Ext.drewN ?_ _ | refine Ext.setCell ?_ (by first | omega | (simp <;> omega)) _)) E4; replace hE := hE.up X_; replace hs := hs.up X_; replace ha := ha.up X_; replace hb := hb.up X_; replace hc := hc.up X_; clear X_)
  | (go_at_call 12; (with_reducible refine (H3.out w4 hs hb).mono ?_); rintro e w5 ⟨rfl, E5⟩; have X_ : Ext w4 w5 := Ext.trans (by repeat with_reducible (first | exact Ext.refl _ | refine Ext.alloc ?_ _ | refine Ext.drew ?_ | refine Ext.drewN ?_ _ | refine Ext.setCell ?_ (by first | omega | (simp <;> omega)) _)) E5; replace hE := hE.up X_; replace hs := hs.up X_; replace ha := ha.up X_; replace hb := hb.up X_; replace hc := hc.up X_; clear X_)
  | (go_at_call 13; refine (H4.out _ _ _ hs hc).mono ?_; rintro e w6 ⟨y, rfl, y1, y2, E6⟩; have X_ : Ext w5 w6 := Ext.trans (by repeat with_reducible (first | exact Ext.refl _ | refine Ext.alloc ?_ _ | refine Ext.drew ?_ | refine Ext.drewN ?_ _ | refine Ext.setCell ?_ (by first | omega | (simp <;> omega)) _)) E6; replace hE := hE.up X_; replace hs := hs.up X_; replace ha := ha.up X_; replace hb := hb.up X_; replace hc := hc.up X_; clear X_; replace y1 := Lib.hid y1))
 · have B15 := BlkT.new w6 35 #[.slice y.a.1 y.vals.length y.a.2, .slice y.b.1 y.unk.length y.b.2] rfl
   have X7 : Ext w6 (w6.alloc (.cells #[.slice y.a.1 y.vals.length y.a.2, .slice y.b.1 y.unk.length y.b.2] 35)) := (Ext.refl w6).alloc _
   generalize w6.alloc (.cells #[.slice y.a.1 y.vals.length y.a.2, .slice y.b.1 y.unk.length y.b.2] 35) = w7 at *
   generalize w6.heap.size = ky at *
   replace hE := hE.trans X7
   replace hs := hs.up X7
   replace ha := ha.up X7
   replace hb := hb.up X7
   replace hc := hc.up X7
   replace y2 := y2.up X7
   have G7 := Ext.refl w7
   clear X7
   go_wp2_with (first
    | (go_at_call 15; (with_reducible refine (H5.out w7 hs ha).mono ?_); rintro e w8 ⟨p, rfl, p1, p2, E8⟩; have X_ : Ext w7 w8 := Ext.trans (by repeat with_reducible (first | exact Ext.refl _ | refine Ext.alloc ?_ _ | refine Ext.drew ?_ | refine Ext.drewN ?_ _ | refine Ext.setCell ?_ (by first | omega | (simp <;> omega)) _)) E8; replace hE := hE.up X_; replace hs := hs.up X_; replace hb := hb.up X_; replace hc := hc.up X_; replace y2 := y2.up X_; replace G7 := G7.up X_; clear X_; replace p1 := Lib.hid p1)
    | (go_at_call 15; (with_reducible refine (H6.out w8 hs hb).mono ?_); rintro e w9 ⟨q, rfl, q1, q2, E9⟩; have X_ : Ext w8 w9 := Ext.trans (by repeat with_reducible (first | exact Ext.refl _ | refine Ext.alloc ?_ _ | refine Ext.drew ?_ | refine Ext.drewN ?_ _ | refine Ext.setCell ?_ (by first | omega | (simp <;> omega)) _)) E9; replace hE := hE.up X_; replace hs := hs.up X_; replace hc := hc.up X_; replace y2 := y2.up X_; replace p2 := p2.up X_; replace G7 := G7.up X_; clear X_; replace q1 := Lib.hid q1)
    | (go_at_call 14; refine (H8.out _ p q p1.out q1.out hs p2 q2).mono ?_; rintro e w10 ⟨z, rfl, z1, z2, E10⟩; have X_ : Ext w9 w10 := Ext.trans (by repeat with_reducible (first | exact Ext.refl _ | refine Ext.alloc ?_ _ | refine Ext.drew ?_ | refine Ext.drewN ?_ _ | refine Ext.setCell ?_ (by first | omega | (simp <;> omega)) _)) E10; replace hE := hE.up X_; replace hs := hs.up X_; replace hc := hc.up X_; replace y2 := y2.up X_; replace G7 := G7.up X_; clear X_; replace z1 := Lib.hid z1))
   have B17 := BlkT.new w10 40 #[.slice z.a.1 z.vals.length z.a.2, .slice z.b.1 z.unk.length z.b.2] rfl
   have X11 : Ext w10 (w10.alloc (.cells #[.slice z.a.1 z.vals.length z.a.2, .slice z.b.1 z.unk.length z.b.2] 40)) := (Ext.refl w10).alloc _
   generalize w10.alloc (.cells #[.slice z.a.1 z.vals.length z.a.2, .slice z.b.1 z.unk.length z.b.2] 40) = w11 at *
   generalize w10.heap.size = kz at *
   replace hE := hE.trans X11
   replace hs := hs.up X11
   replace hc := hc.up X11
   replace y2 := y2.up X11
   replace z2 := z2.up X11
   replace B15 := B15.up (G7.trans X11)
   have u0 : w11.cell? ⟨ky, 0, none⟩ = some (.slice y.a.1 y.vals.length y.a.2) := B15.cell 0
   have u1 : w11.cell? ⟨ky, 1, none⟩ = some (.slice y.b.1 y.unk.length y.b.2) := B15.cell 1
   have t0 : w11.cell? ⟨kz, 0, none⟩ = some (.slice z.a.1 z.vals.length z.a.2) := B17.cell 0
   have t1 : w11.cell? ⟨kz, 1, none⟩ = some (.slice z.b.1 z.unk.length z.b.2) := B17.cell 1
   have lu := B15.lt
   have lt := B17.lt
   have Q11 : Ext w11 w11 := Ext.refl w11
   have s3 := S3.out
   have s4 := S4.out
   clear B15 B17 G7 X11 H1 H2 H3 H4 H5 H6 H8
   go_region_held3 (fun W => Ext w11 W ∧ ∀ b o, b < w11.heap.size → W.cell? ⟨b, o, none⟩ = w11.cell? ⟨b, o, none⟩) ((refine Ext.keep ?_; repeat with_reducible (first | assumption | exact Ext.refl _ | refine Ext.alloc ?_ _ | refine Ext.drew ?_ | refine Ext.drewN ?_ _ | refine Ext.setCell ?_ (by first | omega | (simp <;> omega)) _))) (first
    | (go_split_ands; go_at_call 16; refine (H9.out _ _ _ (hs.up (by with_reducible assumption)) (hc.up (by with_reducible assumption))).mono ?_; rintro e w12 ⟨rfl, E12⟩; have q12 : Ext w11 w12 := Ext.trans (by with_reducible assumption) E12)
    | (go_split_ands; go_at_call 15; refine (H7.out _ _ _ (hs.up (by with_reducible assumption)) (hc.up (by with_reducible assumption))).mono ?_; rintro e w13 ⟨r, rfl, r1, r2, E13⟩; have q13 : Ext w11 w13 := Ext.trans (by with_reducible assumption) E13; have R1 := Lib.hid r1; clear r1)
    | (go_split_ands; go_at_call 17; (with_reducible refine (H11.out _ r z R1.out z1.out (r2.up (by repeat with_reducible (first | exact Ext.refl _ | refine Ext.alloc ?_ _ | refine Ext.drew ?_ | refine Ext.drewN ?_ _ | refine Ext.setCell ?_ (by first | omega | (simp <;> omega)) _))) (z2.up (by with_reducible assumption))).mono ?_); rintro e w14 ⟨rfl, E14⟩; have q14 : Ext w11 w14 := Ext.trans (by with_reducible assumption) E14)
    | (go_split_ands; go_at_call 18; refine (H10.out _ y y1.out (y2.up (by with_reducible assumption))).mono ?_; rintro e w15 ⟨k, rfl, k1, k2, E15⟩; have q15 : Ext w11 w15 := Ext.trans (by with_reducible assumption) E15; have K1 := Lib.hid k1; clear k1)
    | (go_split_ands; go_at_call 17; refine (H11.out _ k z K1.out z1.out (k2.up (by repeat with_reducible (first | exact Ext.refl _ | refine Ext.alloc ?_ _ | refine Ext.drew ?_ | refine Ext.drewN ?_ _ | refine Ext.setCell ?_ (by first | omega | (simp <;> omega)) _))) (z2.up (by with_reducible assumption))).mono ?_; rintro e w16 ⟨rfl, E16⟩; have q16 : Ext w11 w16 := Ext.trans (by with_reducible assumption) E16))
   go_wp2
   go_ret
   exact ⟨rfl, hE.trans (Ext.trans q16 (by repeat with_reducible (first | exact Ext.refl _ | refine Ext.alloc ?_ _ | refine Ext.drew ?_ | refine Ext.drewN ?_ _ | refine Ext.setCell ?_ (by first | omega | (simp <;> omega)) _)))⟩
 · go_ret
   exact ⟨rfl, hE⟩

theorem mergeMeans_walk {A : Option Addr} {n c : Nat} {S : List MsgV} {root : Int} {B C : Option Addr} {n1 c1 n2 c2 : Nat} {xs ys : List UInt8} {d : Int} {w : World} (hs : SchemaAt w A n c S) (hroot : -9223372036854775808 ≤ root ∧ root < 9223372036854775808) (ha : BytesAt w B n1 c1 xs) (s1 : c1 * 1 ≤ 140737488351232) (hb : BytesAt w C n2 c2 ys) (s2 : c2 * 1 ≤ 140737488351232) (hd : -9223372036854775808 ≤ d ∧ d < 9223372036854775808) :
  Calls Tryz.prog 3 #[.slice A n c, .int .i64 root, .slice B n1 c1, .slice C n2 c2, .int .i64 d] w fun e w' => e = .returned (.bool true) ∧ Ext w w' := by
 have q1 := Reads.cap ha
 have q2 := Reads.cap hb
 have g1 : (n1 : Int) ≤ 140737488351232 := by omega
 have g2 : (n2 : Int) ≤ 140737488351232 := by omega
 by_cases hn : (1500 : Int) < (n1 : Int) + n2
 · exact mergeMeans_long hs ha hb g1 g2 hn
 · by_cases hC : twoC (S.map MsgV.d) root d xs ys = 0
   · have h := hC
     rw [code_two] at h
     by_cases hC1 : (checkB (S.map MsgV.d) root xs d).2 = 0
     · rw [if_pos hC1] at h
       obtain ⟨_, r1, _⟩ := check_right hC1
       obtain ⟨m, rfl⟩ := Int.eq_ofNat_of_zero_le r1
       exact mergeMeans_good hs ha hb g1 g2 hn hC1 h
     · rw [if_neg hC1] at h
       exact absurd h hC1
   · exact mergeMeans_bad hs ha hb g1 g2 hn hC

end Go.Proofs.YtnnphodgegcddaaGreat
