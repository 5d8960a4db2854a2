/- The walk of the law ValidTogether, out of its callees' contracts. -/
import Derived.Test.YtpgbhgimjpbhoaaKValidDepths
namespace Go.Proofs.Ytpgbhgimjpbhoaa
open Go.RowKit
set_option linter.unusedVariables false

theorem valid_args {S : List MsgD} {root : Int} {bs : List UInt8} {d : Int} (h : validB S root bs d = true) : argsV S root d = 0 ∧ (firstV S d.toNat root.toNat bs).2 = 0 ∧ 0 ≤ d ∧ d ≤ 64 ∧ 0 ≤ root ∧ root < S.length ∧ rightS S = true := by
  unfold validB checkB at h
  have h := of_decide_eq_true h
  by_cases ha : argsV S root d = 0
  · rw [if_pos ha] at h
    refine ⟨ha, h, ?_⟩
    unfold argsV at ha
    by_cases c : rightS S = false
    · rw [if_pos c] at ha; omega
    · rw [if_neg c] at ha
      by_cases c2 : root < 0 ∨ (S.length : Int) ≤ root ∨ d < 0 ∨ 64 < d
      · rw [if_pos c2] at ha; omega
      · exact ⟨by omega, by omega, by omega, by omega, by simpa using c⟩
  · rw [if_neg ha] at h
    exact absurd h ha

theorem args_ok {S : List MsgD} {root d : Int} (hR : rightS S = true) (h0 : 0 ≤ root) (h1 : root < S.length) (h2 : 0 ≤ d) (h3 : d ≤ 64) : argsV S root d = 0 := by
  unfold argsV
  rw [if_neg (by rw [hR]; simp), if_neg (by omega)]

theorem valid_iff {S : List MsgD} {root : Int} {bs : List UInt8} {d : Int} (ha : argsV S root d = 0) : validB S root bs d = decide ((firstV S d.toNat root.toNat bs).2 = 0) := by
  unfold validB checkB
  rw [if_pos ha]

/-- With the first valid, both are just if the second is. -/
theorem valid_both {S : List MsgD} {root : Int} {a b : List UInt8} {d : Int} (h : validB S root a d = true) : validB S root (a ++ b) d = validB S root b d := by
  obtain ⟨ha, h1, _⟩ := valid_args h
  rw [valid_iff ha, valid_iff ha, Bool.eq_iff_iff, decide_eq_true_iff, decide_eq_true_iff]
  exact (firstV_append b h1).1

theorem valid_more {S : List MsgD} {root : Int} {a : List UInt8} {d : Int} (h : validB S root a d = true) (hd : d < 64) : validB S root a (d + 1) = true := by
  obtain ⟨ha, h1, h2, h3, h4, h5, h6⟩ := valid_args h
  rw [valid_iff (args_ok h6 h4 h5 (by omega) (by omega))]
  exact decide_eq_true (firstV_mono S d.toNat (d + 1).toNat root.toNat a (by omega) h1).1

theorem valid_nil {S : List MsgD} {root : Int} {b : List UInt8} {d : Int} (h : validB S root [] d = false) : validB S root b d = false := by
  rcases hb : validB S root b d with _ | _
  · rfl
  · obtain ⟨ha, _⟩ := valid_args hb
    rw [valid_iff ha] at h
    have : (firstV S d.toNat root.toNat []).2 = 0 := by
      rw [firstV_eq]
      unfold checkM
      rcases hm : S[root.toNat]? with _ | M
      · rfl
      · simp only
        rw [fromC_end (by simp)]
    rw [this] at h
    simp at h

theorem depth_of {S : List MsgD} {root : Int} {a : List UInt8} {d : Int} (h : validB S root a d = true) : depthV S root a = (deepV S 64 root.toNat a, 0) ∧ deepV S 64 root.toNat a ≤ d ∧ (checkB S root a 64).2 = 0 := by
  obtain ⟨ha, h1, h2, h3, h4, h5, h6⟩ := valid_args h
  have hm := firstV_mono S d.toNat 64 root.toNat a (by omega) h1
  have hc : (checkB S root a 64).2 = 0 := by
    unfold checkB
    rw [if_pos (args_ok h6 h4 h5 (by omega) (by omega))]
    exact hm.1
  refine ⟨by unfold depthV; rw [if_pos hc], by omega, hc⟩

theorem depth_both {S : List MsgD} {root : Int} {a b : List UInt8} {d : Int} (h1 : validB S root a d = true) (h2 : validB S root b d = true) : deepV S 64 root.toNat (a ++ b) = max (deepV S 64 root.toNat a) (deepV S 64 root.toNat b) := by
  obtain ⟨a1, a2, a3, a4, a5, a6, a7⟩ := valid_args h1
  obtain ⟨b1, b2, _⟩ := valid_args h2
  exact (firstV_append b (firstV_mono S d.toNat 64 root.toNat a (by omega) a2).1).2 (firstV_mono S d.toNat 64 root.toNat b (by omega) b2).1

set_option maxRecDepth 100000 in
set_option maxHeartbeats 4000000 in
theorem validTogether_walk {A : Option Addr} {n c : Nat} {S : List MsgV} {root : Int} {B C : Option Addr} {n' c' m' d' : Nat} {xs ys : List UInt8} {d : Int} {w : World} (hs : SchemaAt w A n c S) (hroot : -9223372036854775808 ≤ root ∧ root < 9223372036854775808) (ha : BytesAt w B n' c' xs) (sa : c' * 1 ≤ 140737488351232) (hb : BytesAt w C m' d' ys) (sb : d' * 1 ≤ 140737488351232) (hd : -9223372036854775808 ≤ d ∧ d < 9223372036854775808) :
    Calls Try.prog 6 #[.slice A n c, .int .i64 root, .slice B n' c', .slice C m' d', .int .i64 d] w fun e w' => e = .returned (.bool true) ∧ Ext w w' := by
  have hE := Ext.refl w
  have hcap := Reads.cap ha
  have hcap2 := Reads.cap hb
  have n1 : (n' : Int) ≤ 140737488351232 := by omega
  have n2 : (m' : Int) ≤ 140737488351232 := by omega
  by_cases hn : (1500 : Int) < (n' : Int) + m'
  · clear hroot hd
    go_enter Try.func6, Try.ntmps6
    go_wp2_with (first | (go_at_call 24; refine (alive11 _).mono ?_; rintro e w1 ⟨rfl, E1⟩; have X_ : Ext w w1 := Ext.trans (by repeat with_reducible (first | exact Ext.refl _ | refine Ext.alloc ?_ _ | refine Ext.drew ?_ | refine Ext.drewN ?_ _ | refine Ext.setCell ?_ (by first | exact Nat.le_refl _ | omega | (simp; done) | (simp; omega)) _)) E1; replace hE := hE.up X_; replace hs := hs.up X_; clear X_) | (go_at_call 12; refine (few07 hs).mono ?_; rintro e w2 ⟨x, rfl, E2⟩; have X_ : Ext w1 w2 := Ext.trans (by repeat with_reducible (first | exact Ext.refl _ | refine Ext.alloc ?_ _ | refine Ext.drew ?_ | refine Ext.drewN ?_ _ | refine Ext.setCell ?_ (by first | exact Nat.le_refl _ | omega | (simp; done) | (simp; omega)) _)) E2; replace hE := hE.up X_; clear X_))
    all_goals
      go_ret
      exact ⟨rfl, hE⟩
  · have la := ha.length
    have h1 := fun W (h : SchemaAt W A n c S) (hb : BytesAt W B n' c' xs) => vIs (root := root) (d := d) h hb (by omega)
    have h2 := fun W (h : SchemaAt W A n c S) (hb : BytesAt W C m' d' ys) => vIs (root := root) (d := d) h hb (by omega)
    have h3 := fun W A' c' (h : SchemaAt W A n c S) (hb : BytesAt W A' (n' + m') c' (xs ++ ys)) => vIs (root := root) (d := d) h hb (by omega)
    have h4 := fun W (h : SchemaAt W A n c S) (hb : BytesAt W B n' c' xs) => vIs (root := root) (d := d + 1) h hb (by omega)
    have tokA : True := trivial
    rcases hx : validB (S.map MsgV.d) root xs d with _ | _
    · -- the first isn't valid
      have hz : n' = 0 → validB (S.map MsgV.d) root ys d = false := fun h0 => by
        have : xs = [] := List.eq_nil_of_length_eq_zero (by omega)
        rw [this] at hx
        exact valid_nil hx
      rw [hx] at h1
      generalize validB (S.map MsgV.d) root ys d = y at *
      generalize validB (S.map MsgV.d) root (xs ++ ys) d = z at *
      clear la hroot hd h4 hx
      by_cases h0 : n' = 0
      · obtain rfl : y = false := hz h0
        have q : ((n' : Int) == 0) = true := by rw [beq_iff_eq]; omega
        have H1 := Lib.hid h1
        have H2 := Lib.hid h2
        have H3 := Lib.hid h3
        clear h1 h2 h3 hz h0
        rcases z with _ | _
        all_goals
          go_enter Try.func6, Try.ntmps6
          go_wp2_with (first
            | (go_at_call 24; refine (alive11 _).mono ?_; rintro e w1 ⟨rfl, E1⟩; have X_ : Ext w w1 := Ext.trans (by repeat with_reducible (first | exact Ext.refl _ | refine Ext.alloc ?_ _ | refine Ext.drew ?_ | refine Ext.drewN ?_ _ | refine Ext.setCell ?_ (by first | exact Nat.le_refl _ | omega | (simp; done) | (simp; omega)) _)) E1; replace hE := hE.up X_; replace hs := hs.up X_; replace ha := ha.up X_; replace hb := hb.up X_; clear X_)
            | (go_at_call 12; refine (few07 hs).mono ?_; rintro e w2 ⟨x, rfl, E2⟩; have X_ : Ext w1 w2 := Ext.trans (by repeat with_reducible (first | exact Ext.refl _ | refine Ext.alloc ?_ _ | refine Ext.drew ?_ | refine Ext.drewN ?_ _ | refine Ext.setCell ?_ (by first | exact Nat.le_refl _ | omega | (simp; done) | (simp; omega)) _)) E2; replace hE := hE.up X_; replace hs := hs.up X_; replace ha := ha.up X_; replace hb := hb.up X_; clear X_)
            | (at_builtin; have _t := tokA; refine wpList_more elemB rfl (.tmp 34) (.tmp 35) rfl rfl (Own.empty (Ext.refl _) 5 1) rfl (ha.ext ((Ext.refl _).alloc _)) (bv_one _) (by omega) (by unfold maxLen; omega) ?_; intro A6 c6 w6 own6 _; simp only [Nat.zero_add, List.nil_append] at own6; clear tokA)
            | (at_builtin; refine wpList_more elemB rfl (.tmp 36) (.tmp 37) rfl rfl own6 rfl (hb.ext own6.ext) (bv_one _) (by omega) (by unfold maxLen; omega) ?_; intro A7 c7 w7 own7 _; rw [← List.map_append] at own7; replace hE := hE.trans own7.ext; replace hs := hs.up own7.ext; replace ha := ha.up own7.ext; replace hb := hb.up own7.ext; clear own6)
            | (go_at_call 27; (with_reducible refine (H1.out _ hs ha).mono ?_); rintro e w8 ⟨rfl, E8⟩; have X_ : Ext w7 w8 := Ext.trans (by repeat with_reducible (first | exact Ext.refl _ | refine Ext.alloc ?_ _ | refine Ext.drew ?_ | refine Ext.drewN ?_ _ | refine Ext.setCell ?_ (by first | exact Nat.le_refl _ | omega | (simp; done) | (simp; omega)) _)) E8; replace hE := hE.up X_; replace hs := hs.up X_; replace ha := ha.up X_; replace hb := hb.up X_; replace own7 := own7.up X_; clear X_; clear H1)
            | (go_at_call 27; (with_reducible refine (H2.out _ hs hb).mono ?_); rintro e w9 ⟨rfl, E9⟩; have X_ : Ext w8 w9 := Ext.trans (by repeat with_reducible (first | exact Ext.refl _ | refine Ext.alloc ?_ _ | refine Ext.drew ?_ | refine Ext.drewN ?_ _ | refine Ext.setCell ?_ (by first | exact Nat.le_refl _ | omega | (simp; done) | (simp; omega)) _)) E9; replace hE := hE.up X_; replace hs := hs.up X_; replace ha := ha.up X_; replace hb := hb.up X_; replace own7 := own7.up X_; clear X_; clear H2)
            | (go_at_call 27; (with_reducible refine (H3.out _ _ _ hs own7.bytes).mono ?_); rintro e w10 ⟨rfl, E10⟩; have X_ : Ext w9 w10 := Ext.trans (by repeat with_reducible (first | exact Ext.refl _ | refine Ext.alloc ?_ _ | refine Ext.drew ?_ | refine Ext.drewN ?_ _ | refine Ext.setCell ?_ (by first | exact Nat.le_refl _ | omega | (simp; done) | (simp; omega)) _)) E10; replace hE := hE.up X_; replace hs := hs.up X_; replace ha := ha.up X_; replace hb := hb.up X_; replace own7 := own7.up X_; clear X_; clear H3))
          all_goals
            go_ret
            exact ⟨rfl, hE⟩
      · have q : ((n' : Int) == 0) = false := by rw [beq_eq_false_iff_ne]; omega
        have H1 := Lib.hid h1
        have H2 := Lib.hid h2
        have H3 := Lib.hid h3
        clear h1 h2 h3 hz h0
        rcases y with _ | _ <;> rcases z with _ | _
        all_goals
          go_enter Try.func6, Try.ntmps6
          go_wp2_with (first
            | (go_at_call 24; refine (alive11 _).mono ?_; rintro e w1 ⟨rfl, E1⟩; have X_ : Ext w w1 := Ext.trans (by repeat with_reducible (first | exact Ext.refl _ | refine Ext.alloc ?_ _ | refine Ext.drew ?_ | refine Ext.drewN ?_ _ | refine Ext.setCell ?_ (by first | exact Nat.le_refl _ | omega | (simp; done) | (simp; omega)) _)) E1; replace hE := hE.up X_; replace hs := hs.up X_; replace ha := ha.up X_; replace hb := hb.up X_; clear X_)
            | (go_at_call 12; refine (few07 hs).mono ?_; rintro e w2 ⟨x, rfl, E2⟩; have X_ : Ext w1 w2 := Ext.trans (by repeat with_reducible (first | exact Ext.refl _ | refine Ext.alloc ?_ _ | refine Ext.drew ?_ | refine Ext.drewN ?_ _ | refine Ext.setCell ?_ (by first | exact Nat.le_refl _ | omega | (simp; done) | (simp; omega)) _)) E2; replace hE := hE.up X_; replace hs := hs.up X_; replace ha := ha.up X_; replace hb := hb.up X_; clear X_)
            | (at_builtin; have _t := tokA; refine wpList_more elemB rfl (.tmp 34) (.tmp 35) rfl rfl (Own.empty (Ext.refl _) 5 1) rfl (ha.ext ((Ext.refl _).alloc _)) (bv_one _) (by omega) (by unfold maxLen; omega) ?_; intro A6 c6 w6 own6 _; simp only [Nat.zero_add, List.nil_append] at own6; clear tokA)
            | (at_builtin; refine wpList_more elemB rfl (.tmp 36) (.tmp 37) rfl rfl own6 rfl (hb.ext own6.ext) (bv_one _) (by omega) (by unfold maxLen; omega) ?_; intro A7 c7 w7 own7 _; rw [← List.map_append] at own7; replace hE := hE.trans own7.ext; replace hs := hs.up own7.ext; replace ha := ha.up own7.ext; replace hb := hb.up own7.ext; clear own6)
            | (go_at_call 27; (with_reducible refine (H1.out _ hs ha).mono ?_); rintro e w8 ⟨rfl, E8⟩; have X_ : Ext w7 w8 := Ext.trans (by repeat with_reducible (first | exact Ext.refl _ | refine Ext.alloc ?_ _ | refine Ext.drew ?_ | refine Ext.drewN ?_ _ | refine Ext.setCell ?_ (by first | exact Nat.le_refl _ | omega | (simp; done) | (simp; omega)) _)) E8; replace hE := hE.up X_; replace hs := hs.up X_; replace ha := ha.up X_; replace hb := hb.up X_; replace own7 := own7.up X_; clear X_; clear H1)
            | (go_at_call 27; (with_reducible refine (H2.out _ hs hb).mono ?_); rintro e w9 ⟨rfl, E9⟩; have X_ : Ext w8 w9 := Ext.trans (by repeat with_reducible (first | exact Ext.refl _ | refine Ext.alloc ?_ _ | refine Ext.drew ?_ | refine Ext.drewN ?_ _ | refine Ext.setCell ?_ (by first | exact Nat.le_refl _ | omega | (simp; done) | (simp; omega)) _)) E9; replace hE := hE.up X_; replace hs := hs.up X_; replace ha := ha.up X_; replace hb := hb.up X_; replace own7 := own7.up X_; clear X_; clear H2)
            | (go_at_call 27; (with_reducible refine (H3.out _ _ _ hs own7.bytes).mono ?_); rintro e w10 ⟨rfl, E10⟩; have X_ : Ext w9 w10 := Ext.trans (by repeat with_reducible (first | exact Ext.refl _ | refine Ext.alloc ?_ _ | refine Ext.drew ?_ | refine Ext.drewN ?_ _ | refine Ext.setCell ?_ (by first | exact Nat.le_refl _ | omega | (simp; done) | (simp; omega)) _)) E10; replace hE := hE.up X_; replace hs := hs.up X_; replace ha := ha.up X_; replace hb := hb.up X_; replace own7 := own7.up X_; clear X_; clear H3))
          all_goals
            go_ret
            exact ⟨rfl, hE⟩
    · have hzy := valid_both (b := ys) hx
      have hm := fun h => valid_more hx h
      obtain ⟨_, _, d0, d1, _⟩ := valid_args hx
      rcases hy : validB (S.map MsgV.d) root ys d with _ | _
      · rw [hy] at hzy h2
        rw [hzy] at h3
        rw [hx] at h1
        have H1 := Lib.hid h1
        have H2 := Lib.hid h2
        have H3 := Lib.hid h3
        clear h1 h2 h3 hx hy hzy la hroot hd
        by_cases h64 : d < 64
        · rw [hm h64] at h4
          have H4 := Lib.hid h4
          clear h4 hm
          go_enter Try.func6, Try.ntmps6
          go_wp2_with (first
            | (go_at_call 24; refine (alive11 _).mono ?_; rintro e w1 ⟨rfl, E1⟩; have X_ : Ext w w1 := Ext.trans (by repeat with_reducible (first | exact Ext.refl _ | refine Ext.alloc ?_ _ | refine Ext.drew ?_ | refine Ext.drewN ?_ _ | refine Ext.setCell ?_ (by first | exact Nat.le_refl _ | omega | (simp; done) | (simp; omega)) _)) E1; replace hE := hE.up X_; replace hs := hs.up X_; replace ha := ha.up X_; replace hb := hb.up X_; clear X_)
            | (go_at_call 12; refine (few07 hs).mono ?_; rintro e w2 ⟨x, rfl, E2⟩; have X_ : Ext w1 w2 := Ext.trans (by repeat with_reducible (first | exact Ext.refl _ | refine Ext.alloc ?_ _ | refine Ext.drew ?_ | refine Ext.drewN ?_ _ | refine Ext.setCell ?_ (by first | exact Nat.le_refl _ | omega | (simp; done) | (simp; omega)) _)) E2; replace hE := hE.up X_; replace hs := hs.up X_; replace ha := ha.up X_; replace hb := hb.up X_; clear X_)
            | (at_builtin; have _t := tokA; refine wpList_more elemB rfl (.tmp 34) (.tmp 35) rfl rfl (Own.empty (Ext.refl _) 5 1) rfl (ha.ext ((Ext.refl _).alloc _)) (bv_one _) (by omega) (by unfold maxLen; omega) ?_; intro A6 c6 w6 own6 _; simp only [Nat.zero_add, List.nil_append] at own6; clear tokA)
            | (at_builtin; refine wpList_more elemB rfl (.tmp 36) (.tmp 37) rfl rfl own6 rfl (hb.ext own6.ext) (bv_one _) (by omega) (by unfold maxLen; omega) ?_; intro A7 c7 w7 own7 _; rw [← List.map_append] at own7; replace hE := hE.trans own7.ext; replace hs := hs.up own7.ext; replace ha := ha.up own7.ext; replace hb := hb.up own7.ext; clear own6)
            | (go_at_call 27; (with_reducible refine (H1.out _ hs ha).mono ?_); rintro e w8 ⟨rfl, E8⟩; have X_ : Ext w7 w8 := Ext.trans (by repeat with_reducible (first | exact Ext.refl _ | refine Ext.alloc ?_ _ | refine Ext.drew ?_ | refine Ext.drewN ?_ _ | refine Ext.setCell ?_ (by first | exact Nat.le_refl _ | omega | (simp; done) | (simp; omega)) _)) E8; replace hE := hE.up X_; replace hs := hs.up X_; replace ha := ha.up X_; replace hb := hb.up X_; replace own7 := own7.up X_; clear X_; clear H1)
            | (go_at_call 27; (with_reducible refine (H2.out _ hs hb).mono ?_); rintro e w9 ⟨rfl, E9⟩; have X_ : Ext w8 w9 := Ext.trans (by repeat with_reducible (first | exact Ext.refl _ | refine Ext.alloc ?_ _ | refine Ext.drew ?_ | refine Ext.drewN ?_ _ | refine Ext.setCell ?_ (by first | exact Nat.le_refl _ | omega | (simp; done) | (simp; omega)) _)) E9; replace hE := hE.up X_; replace hs := hs.up X_; replace ha := ha.up X_; replace hb := hb.up X_; replace own7 := own7.up X_; clear X_; clear H2)
            | (go_at_call 27; (with_reducible refine (H3.out _ _ _ hs own7.bytes).mono ?_); rintro e w10 ⟨rfl, E10⟩; have X_ : Ext w9 w10 := Ext.trans (by repeat with_reducible (first | exact Ext.refl _ | refine Ext.alloc ?_ _ | refine Ext.drew ?_ | refine Ext.drewN ?_ _ | refine Ext.setCell ?_ (by first | exact Nat.le_refl _ | omega | (simp; done) | (simp; omega)) _)) E10; replace hE := hE.up X_; replace hs := hs.up X_; replace ha := ha.up X_; replace hb := hb.up X_; replace own7 := own7.up X_; clear X_; clear H3)
            | (go_at_call 27; (with_reducible refine (H4.out _ hs ha).mono ?_); rintro e w11 ⟨rfl, E11⟩; have X_ : Ext w10 w11 := Ext.trans (by repeat with_reducible (first | exact Ext.refl _ | refine Ext.alloc ?_ _ | refine Ext.drew ?_ | refine Ext.drewN ?_ _ | refine Ext.setCell ?_ (by first | exact Nat.le_refl _ | omega | (simp; done) | (simp; omega)) _)) E11; replace hE := hE.up X_; replace hs := hs.up X_; replace ha := ha.up X_; replace hb := hb.up X_; replace own7 := own7.up X_; clear X_; clear H4))
          all_goals
            go_ret
            exact ⟨rfl, hE⟩
        · clear h4 hm
          go_enter Try.func6, Try.ntmps6
          go_wp2_with (first
            | (go_at_call 24; refine (alive11 _).mono ?_; rintro e w1 ⟨rfl, E1⟩; have X_ : Ext w w1 := Ext.trans (by repeat with_reducible (first | exact Ext.refl _ | refine Ext.alloc ?_ _ | refine Ext.drew ?_ | refine Ext.drewN ?_ _ | refine Ext.setCell ?_ (by first | exact Nat.le_refl _ | omega | (simp; done) | (simp; omega)) _)) E1; replace hE := hE.up X_; replace hs := hs.up X_; replace ha := ha.up X_; replace hb := hb.up X_; clear X_)
            | (go_at_call 12; refine (few07 hs).mono ?_; rintro e w2 ⟨x, rfl, E2⟩; have X_ : Ext w1 w2 := Ext.trans (by repeat with_reducible (first | exact Ext.refl _ | refine Ext.alloc ?_ _ | refine Ext.drew ?_ | refine Ext.drewN ?_ _ | refine Ext.setCell ?_ (by first | exact Nat.le_refl _ | omega | (simp; done) | (simp; omega)) _)) E2; replace hE := hE.up X_; replace hs := hs.up X_; replace ha := ha.up X_; replace hb := hb.up X_; clear X_)
            | (at_builtin; have _t := tokA; refine wpList_more elemB rfl (.tmp 34) (.tmp 35) rfl rfl (Own.empty (Ext.refl _) 5 1) rfl (ha.ext ((Ext.refl _).alloc _)) (bv_one _) (by omega) (by unfold maxLen; omega) ?_; intro A6 c6 w6 own6 _; simp only [Nat.zero_add, List.nil_append] at own6; clear tokA)
            | (at_builtin; refine wpList_more elemB rfl (.tmp 36) (.tmp 37) rfl rfl own6 rfl (hb.ext own6.ext) (bv_one _) (by omega) (by unfold maxLen; omega) ?_; intro A7 c7 w7 own7 _; rw [← List.map_append] at own7; replace hE := hE.trans own7.ext; replace hs := hs.up own7.ext; replace ha := ha.up own7.ext; replace hb := hb.up own7.ext; clear own6)
            | (go_at_call 27; (with_reducible refine (H1.out _ hs ha).mono ?_); rintro e w8 ⟨rfl, E8⟩; have X_ : Ext w7 w8 := Ext.trans (by repeat with_reducible (first | exact Ext.refl _ | refine Ext.alloc ?_ _ | refine Ext.drew ?_ | refine Ext.drewN ?_ _ | refine Ext.setCell ?_ (by first | exact Nat.le_refl _ | omega | (simp; done) | (simp; omega)) _)) E8; replace hE := hE.up X_; replace hs := hs.up X_; replace ha := ha.up X_; replace hb := hb.up X_; replace own7 := own7.up X_; clear X_; clear H1)
            | (go_at_call 27; (with_reducible refine (H2.out _ hs hb).mono ?_); rintro e w9 ⟨rfl, E9⟩; have X_ : Ext w8 w9 := Ext.trans (by repeat with_reducible (first | exact Ext.refl _ | refine Ext.alloc ?_ _ | refine Ext.drew ?_ | refine Ext.drewN ?_ _ | refine Ext.setCell ?_ (by first | exact Nat.le_refl _ | omega | (simp; done) | (simp; omega)) _)) E9; replace hE := hE.up X_; replace hs := hs.up X_; replace ha := ha.up X_; replace hb := hb.up X_; replace own7 := own7.up X_; clear X_; clear H2)
            | (go_at_call 27; (with_reducible refine (H3.out _ _ _ hs own7.bytes).mono ?_); rintro e w10 ⟨rfl, E10⟩; have X_ : Ext w9 w10 := Ext.trans (by repeat with_reducible (first | exact Ext.refl _ | refine Ext.alloc ?_ _ | refine Ext.drew ?_ | refine Ext.drewN ?_ _ | refine Ext.setCell ?_ (by first | exact Nat.le_refl _ | omega | (simp; done) | (simp; omega)) _)) E10; replace hE := hE.up X_; replace hs := hs.up X_; replace ha := ha.up X_; replace hb := hb.up X_; replace own7 := own7.up X_; clear X_; clear H3))
          all_goals
            go_ret
            exact ⟨rfl, hE⟩
      · obtain ⟨e1, e2, e3⟩ := depth_of hx
        obtain ⟨f1, f2, f3⟩ := depth_of hy
        have hboth := depth_both hx hy
        obtain ⟨g1, g2, g3⟩ := depth_of (hzy.trans hy)
        have h8v := fun (k : Nat) hk => (valid_at g3 (k := k) hk).2
        have h5 := fun W (h : SchemaAt W A n c S) (hb : BytesAt W B n' c' xs) => vDepth (root := root) h hb (by omega)
        have h6 := fun W (h : SchemaAt W A n c S) (hb : BytesAt W C m' d' ys) => vDepth (root := root) h hb (by omega)
        have h7 := fun W A' c' (h : SchemaAt W A n c S) (hb : BytesAt W A' (n' + m') c' (xs ++ ys)) => vDepth (root := root) h hb (by omega)
        have h8 := fun (k : Nat) W A' c' (h : SchemaAt W A n c S) (hb : BytesAt W A' (n' + m') c' (xs ++ ys)) => vIs (root := root) (d := (k : Int)) h hb (by omega)
        rw [e1] at h5
        rw [f1] at h6
        rw [g1] at h7
        rw [hy] at hzy h2
        rw [hzy] at h3
        rw [hx] at h1
        generalize deepV (S.map MsgV.d) 64 root.toNat xs = Da at *
        generalize deepV (S.map MsgV.d) 64 root.toNat ys = Db at *
        generalize deepV (S.map MsgV.d) 64 root.toNat (xs ++ ys) = D at *
        have hmax : max (Da : Int) (Db : Int) = (D : Int) := by omega
        have hmx := fun W => run_max_i (P := Try.prog) #[3, 3] 3 .i64 .i64 (Da : Int) (Db : Int) W
        rw [hmax] at hmx
        have H1 := Lib.hid h1
        have H2 := Lib.hid h2
        have H3 := Lib.hid h3
        have H5 := Lib.hid h5
        have H6 := Lib.hid h6
        have H7 := Lib.hid h7
        clear h1 h2 h3 h5 h6 h7 hx hy hzy la hroot hd e1 e3 f1 f3 g1 g3 hmax hboth
        by_cases hD0 : D = 0
        · subst hD0
          clear h8 h8v
          by_cases h64 : d < 64
          · rw [hm h64] at h4
            have H4 := Lib.hid h4
            clear h4 hm
            go_enter Try.func6, Try.ntmps6
            go_wp2_with (first
              | (go_at_call 24; refine (alive11 _).mono ?_; rintro e w1 ⟨rfl, E1⟩; have X_ : Ext w w1 := Ext.trans (by repeat with_reducible (first | exact Ext.refl _ | refine Ext.alloc ?_ _ | refine Ext.drew ?_ | refine Ext.drewN ?_ _ | refine Ext.setCell ?_ (by first | exact Nat.le_refl _ | omega | (simp; done) | (simp; omega)) _)) E1; replace hE := hE.up X_; replace hs := hs.up X_; replace ha := ha.up X_; replace hb := hb.up X_; clear X_)
              | (go_at_call 12; refine (few07 hs).mono ?_; rintro e w2 ⟨x, rfl, E2⟩; have X_ : Ext w1 w2 := Ext.trans (by repeat with_reducible (first | exact Ext.refl _ | refine Ext.alloc ?_ _ | refine Ext.drew ?_ | refine Ext.drewN ?_ _ | refine Ext.setCell ?_ (by first | exact Nat.le_refl _ | omega | (simp; done) | (simp; omega)) _)) E2; replace hE := hE.up X_; replace hs := hs.up X_; replace ha := ha.up X_; replace hb := hb.up X_; clear X_)
              | (at_builtin; have _t := tokA; refine wpList_more elemB rfl (.tmp 34) (.tmp 35) rfl rfl (Own.empty (Ext.refl _) 5 1) rfl (ha.ext ((Ext.refl _).alloc _)) (bv_one _) (by omega) (by unfold maxLen; omega) ?_; intro A6 c6 w6 own6 _; simp only [Nat.zero_add, List.nil_append] at own6; clear tokA)
              | (at_builtin; refine wpList_more elemB rfl (.tmp 36) (.tmp 37) rfl rfl own6 rfl (hb.ext own6.ext) (bv_one _) (by omega) (by unfold maxLen; omega) ?_; intro A7 c7 w7 own7 _; rw [← List.map_append] at own7; replace hE := hE.trans own7.ext; replace hs := hs.up own7.ext; replace ha := ha.up own7.ext; replace hb := hb.up own7.ext; clear own6)
              | (go_at_call 27; (with_reducible refine (H1.out _ hs ha).mono ?_); rintro e w8 ⟨rfl, E8⟩; have X_ : Ext w7 w8 := Ext.trans (by repeat with_reducible (first | exact Ext.refl _ | refine Ext.alloc ?_ _ | refine Ext.drew ?_ | refine Ext.drewN ?_ _ | refine Ext.setCell ?_ (by first | exact Nat.le_refl _ | omega | (simp; done) | (simp; omega)) _)) E8; replace hE := hE.up X_; replace hs := hs.up X_; replace ha := ha.up X_; replace hb := hb.up X_; replace own7 := own7.up X_; clear X_; clear H1)
              | (go_at_call 27; (with_reducible refine (H2.out _ hs hb).mono ?_); rintro e w9 ⟨rfl, E9⟩; have X_ : Ext w8 w9 := Ext.trans (by repeat with_reducible (first | exact Ext.refl _ | refine Ext.alloc ?_ _ | refine Ext.drew ?_ | refine Ext.drewN ?_ _ | refine Ext.setCell ?_ (by first | exact Nat.le_refl _ | omega | (simp; done) | (simp; omega)) _)) E9; replace hE := hE.up X_; replace hs := hs.up X_; replace ha := ha.up X_; replace hb := hb.up X_; replace own7 := own7.up X_; clear X_; clear H2)
              | (go_at_call 27; (with_reducible refine (H3.out _ _ _ hs own7.bytes).mono ?_); rintro e w10 ⟨rfl, E10⟩; have X_ : Ext w9 w10 := Ext.trans (by repeat with_reducible (first | exact Ext.refl _ | refine Ext.alloc ?_ _ | refine Ext.drew ?_ | refine Ext.drewN ?_ _ | refine Ext.setCell ?_ (by first | exact Nat.le_refl _ | omega | (simp; done) | (simp; omega)) _)) E10; replace hE := hE.up X_; replace hs := hs.up X_; replace ha := ha.up X_; replace hb := hb.up X_; replace own7 := own7.up X_; clear X_; clear H3)
              | (go_at_call 27; (with_reducible refine (H4.out _ hs ha).mono ?_); rintro e w11 ⟨rfl, E11⟩; have X_ : Ext w10 w11 := Ext.trans (by repeat with_reducible (first | exact Ext.refl _ | refine Ext.alloc ?_ _ | refine Ext.drew ?_ | refine Ext.drewN ?_ _ | refine Ext.setCell ?_ (by first | exact Nat.le_refl _ | omega | (simp; done) | (simp; omega)) _)) E11; replace hE := hE.up X_; replace hs := hs.up X_; replace ha := ha.up X_; replace hb := hb.up X_; replace own7 := own7.up X_; clear X_; clear H4)
              | (go_at_call 30; (with_reducible refine (H5.out _ hs ha).mono ?_); rintro e w12 ⟨rfl, E12⟩; have X_ : Ext w11 w12 := Ext.trans (by repeat with_reducible (first | exact Ext.refl _ | refine Ext.alloc ?_ _ | refine Ext.drew ?_ | refine Ext.drewN ?_ _ | refine Ext.setCell ?_ (by first | exact Nat.le_refl _ | omega | (simp; done) | (simp; omega)) _)) E12; replace hE := hE.up X_; replace hs := hs.up X_; replace ha := ha.up X_; replace hb := hb.up X_; replace own7 := own7.up X_; clear X_; clear H5)
              | (go_at_call 30; (with_reducible refine (H6.out _ hs hb).mono ?_); rintro e w13 ⟨rfl, E13⟩; have X_ : Ext w12 w13 := Ext.trans (by repeat with_reducible (first | exact Ext.refl _ | refine Ext.alloc ?_ _ | refine Ext.drew ?_ | refine Ext.drewN ?_ _ | refine Ext.setCell ?_ (by first | exact Nat.le_refl _ | omega | (simp; done) | (simp; omega)) _)) E13; replace hE := hE.up X_; replace hs := hs.up X_; replace ha := ha.up X_; replace hb := hb.up X_; replace own7 := own7.up X_; clear X_; clear H6)
              | (go_at_call 30; (with_reducible refine (H7.out _ _ _ hs own7.bytes).mono ?_); rintro e w14 ⟨rfl, E14⟩; have X_ : Ext w13 w14 := Ext.trans (by repeat with_reducible (first | exact Ext.refl _ | refine Ext.alloc ?_ _ | refine Ext.drew ?_ | refine Ext.drewN ?_ _ | refine Ext.setCell ?_ (by first | exact Nat.le_refl _ | omega | (simp; done) | (simp; omega)) _)) E14; replace hE := hE.up X_; replace hs := hs.up X_; replace own7 := own7.up X_; clear X_; clear H7))
            all_goals
              go_ret
              exact ⟨rfl, hE⟩
          · clear h4 hm
            go_enter Try.func6, Try.ntmps6
            go_wp2_with (first
              | (go_at_call 24; refine (alive11 _).mono ?_; rintro e w1 ⟨rfl, E1⟩; have X_ : Ext w w1 := Ext.trans (by repeat with_reducible (first | exact Ext.refl _ | refine Ext.alloc ?_ _ | refine Ext.drew ?_ | refine Ext.drewN ?_ _ | refine Ext.setCell ?_ (by first | exact Nat.le_refl _ | omega | (simp; done) | (simp; omega)) _)) E1; replace hE := hE.up X_; replace hs := hs.up X_; replace ha := ha.up X_; replace hb := hb.up X_; clear X_)
              | (go_at_call 12; refine (few07 hs).mono ?_; rintro e w2 ⟨x, rfl, E2⟩; have X_ : Ext w1 w2 := Ext.trans (by repeat with_reducible (first | exact Ext.refl _ | refine Ext.alloc ?_ _ | refine Ext.drew ?_ | refine Ext.drewN ?_ _ | refine Ext.setCell ?_ (by first | exact Nat.le_refl _ | omega | (simp; done) | (simp; omega)) _)) E2; replace hE := hE.up X_; replace hs := hs.up X_; replace ha := ha.up X_; replace hb := hb.up X_; clear X_)
              | (at_builtin; have _t := tokA; refine wpList_more elemB rfl (.tmp 34) (.tmp 35) rfl rfl (Own.empty (Ext.refl _) 5 1) rfl (ha.ext ((Ext.refl _).alloc _)) (bv_one _) (by omega) (by unfold maxLen; omega) ?_; intro A6 c6 w6 own6 _; simp only [Nat.zero_add, List.nil_append] at own6; clear tokA)
              | (at_builtin; refine wpList_more elemB rfl (.tmp 36) (.tmp 37) rfl rfl own6 rfl (hb.ext own6.ext) (bv_one _) (by omega) (by unfold maxLen; omega) ?_; intro A7 c7 w7 own7 _; rw [← List.map_append] at own7; replace hE := hE.trans own7.ext; replace hs := hs.up own7.ext; replace ha := ha.up own7.ext; replace hb := hb.up own7.ext; clear own6)
              | (go_at_call 27; (with_reducible refine (H1.out _ hs ha).mono ?_); rintro e w8 ⟨rfl, E8⟩; have X_ : Ext w7 w8 := Ext.trans (by repeat with_reducible (first | exact Ext.refl _ | refine Ext.alloc ?_ _ | refine Ext.drew ?_ | refine Ext.drewN ?_ _ | refine Ext.setCell ?_ (by first | exact Nat.le_refl _ | omega | (simp; done) | (simp; omega)) _)) E8; replace hE := hE.up X_; replace hs := hs.up X_; replace ha := ha.up X_; replace hb := hb.up X_; replace own7 := own7.up X_; clear X_; clear H1)
              | (go_at_call 27; (with_reducible refine (H2.out _ hs hb).mono ?_); rintro e w9 ⟨rfl, E9⟩; have X_ : Ext w8 w9 := Ext.trans (by repeat with_reducible (first | exact Ext.refl _ | refine Ext.alloc ?_ _ | refine Ext.drew ?_ | refine Ext.drewN ?_ _ | refine Ext.setCell ?_ (by first | exact Nat.le_refl _ | omega | (simp; done) | (simp; omega)) _)) E9; replace hE := hE.up X_; replace hs := hs.up X_; replace ha := ha.up X_; replace hb := hb.up X_; replace own7 := own7.up X_; clear X_; clear H2)
              | (go_at_call 27; (with_reducible refine (H3.out _ _ _ hs own7.bytes).mono ?_); rintro e w10 ⟨rfl, E10⟩; have X_ : Ext w9 w10 := Ext.trans (by repeat with_reducible (first | exact Ext.refl _ | refine Ext.alloc ?_ _ | refine Ext.drew ?_ | refine Ext.drewN ?_ _ | refine Ext.setCell ?_ (by first | exact Nat.le_refl _ | omega | (simp; done) | (simp; omega)) _)) E10; replace hE := hE.up X_; replace hs := hs.up X_; replace ha := ha.up X_; replace hb := hb.up X_; replace own7 := own7.up X_; clear X_; clear H3)
              | (go_at_call 30; (with_reducible refine (H5.out _ hs ha).mono ?_); rintro e w12 ⟨rfl, E12⟩; have X_ : Ext w10 w12 := Ext.trans (by repeat with_reducible (first | exact Ext.refl _ | refine Ext.alloc ?_ _ | refine Ext.drew ?_ | refine Ext.drewN ?_ _ | refine Ext.setCell ?_ (by first | exact Nat.le_refl _ | omega | (simp; done) | (simp; omega)) _)) E12; replace hE := hE.up X_; replace hs := hs.up X_; replace ha := ha.up X_; replace hb := hb.up X_; replace own7 := own7.up X_; clear X_; clear H5)
              | (go_at_call 30; (with_reducible refine (H6.out _ hs hb).mono ?_); rintro e w13 ⟨rfl, E13⟩; have X_ : Ext w12 w13 := Ext.trans (by repeat with_reducible (first | exact Ext.refl _ | refine Ext.alloc ?_ _ | refine Ext.drew ?_ | refine Ext.drewN ?_ _ | refine Ext.setCell ?_ (by first | exact Nat.le_refl _ | omega | (simp; done) | (simp; omega)) _)) E13; replace hE := hE.up X_; replace hs := hs.up X_; replace ha := ha.up X_; replace hb := hb.up X_; replace own7 := own7.up X_; clear X_; clear H6)
              | (go_at_call 30; (with_reducible refine (H7.out _ _ _ hs own7.bytes).mono ?_); rintro e w14 ⟨rfl, E14⟩; have X_ : Ext w13 w14 := Ext.trans (by repeat with_reducible (first | exact Ext.refl _ | refine Ext.alloc ?_ _ | refine Ext.drew ?_ | refine Ext.drewN ?_ _ | refine Ext.setCell ?_ (by first | exact Nat.le_refl _ | omega | (simp; done) | (simp; omega)) _)) E14; replace hE := hE.up X_; replace hs := hs.up X_; replace own7 := own7.up X_; clear X_; clear H7))
            all_goals
              go_ret
              exact ⟨rfl, hE⟩
        · obtain ⟨k, hk⟩ : ∃ k, D = k + 1 := ⟨D - 1, by omega⟩
          have h9 := h8 k
          rw [h8v k (by omega), show decide (D ≤ k) = false by simp; omega] at h9
          have H8 := Lib.hid h9
          have qD : ((D : Int) == 0) = false := by rw [beq_eq_false_iff_ne]; omega
          have qk : (D : Int) - 1 = k := by omega
          have hD64 : (D : Int) ≤ 64 := by omega
          clear h8 h8v h9 hk hD0
          by_cases h64 : d < 64
          · rw [hm h64] at h4
            have H4 := Lib.hid h4
            clear h4 hm
            go_enter Try.func6, Try.ntmps6
            go_wp2_with (first
              | (go_at_call 24; refine (alive11 _).mono ?_; rintro e w1 ⟨rfl, E1⟩; have X_ : Ext w w1 := Ext.trans (by repeat with_reducible (first | exact Ext.refl _ | refine Ext.alloc ?_ _ | refine Ext.drew ?_ | refine Ext.drewN ?_ _ | refine Ext.setCell ?_ (by first | exact Nat.le_refl _ | omega | (simp; done) | (simp; omega)) _)) E1; replace hE := hE.up X_; replace hs := hs.up X_; replace ha := ha.up X_; replace hb := hb.up X_; clear X_)
              | (go_at_call 12; refine (few07 hs).mono ?_; rintro e w2 ⟨x, rfl, E2⟩; have X_ : Ext w1 w2 := Ext.trans (by repeat with_reducible (first | exact Ext.refl _ | refine Ext.alloc ?_ _ | refine Ext.drew ?_ | refine Ext.drewN ?_ _ | refine Ext.setCell ?_ (by first | exact Nat.le_refl _ | omega | (simp; done) | (simp; omega)) _)) E2; replace hE := hE.up X_; replace hs := hs.up X_; replace ha := ha.up X_; replace hb := hb.up X_; clear X_)
              | (at_builtin; have _t := tokA; refine wpList_more elemB rfl (.tmp 34) (.tmp 35) rfl rfl (Own.empty (Ext.refl _) 5 1) rfl (ha.ext ((Ext.refl _).alloc _)) (bv_one _) (by omega) (by unfold maxLen; omega) ?_; intro A6 c6 w6 own6 _; simp only [Nat.zero_add, List.nil_append] at own6; clear tokA)
              | (at_builtin; refine wpList_more elemB rfl (.tmp 36) (.tmp 37) rfl rfl own6 rfl (hb.ext own6.ext) (bv_one _) (by omega) (by unfold maxLen; omega) ?_; intro A7 c7 w7 own7 _; rw [← List.map_append] at own7; replace hE := hE.trans own7.ext; replace hs := hs.up own7.ext; replace ha := ha.up own7.ext; replace hb := hb.up own7.ext; clear own6)
              | (go_at_call 27; (with_reducible refine (H1.out _ hs ha).mono ?_); rintro e w8 ⟨rfl, E8⟩; have X_ : Ext w7 w8 := Ext.trans (by repeat with_reducible (first | exact Ext.refl _ | refine Ext.alloc ?_ _ | refine Ext.drew ?_ | refine Ext.drewN ?_ _ | refine Ext.setCell ?_ (by first | exact Nat.le_refl _ | omega | (simp; done) | (simp; omega)) _)) E8; replace hE := hE.up X_; replace hs := hs.up X_; replace ha := ha.up X_; replace hb := hb.up X_; replace own7 := own7.up X_; clear X_; clear H1)
              | (go_at_call 27; (with_reducible refine (H2.out _ hs hb).mono ?_); rintro e w9 ⟨rfl, E9⟩; have X_ : Ext w8 w9 := Ext.trans (by repeat with_reducible (first | exact Ext.refl _ | refine Ext.alloc ?_ _ | refine Ext.drew ?_ | refine Ext.drewN ?_ _ | refine Ext.setCell ?_ (by first | exact Nat.le_refl _ | omega | (simp; done) | (simp; omega)) _)) E9; replace hE := hE.up X_; replace hs := hs.up X_; replace ha := ha.up X_; replace hb := hb.up X_; replace own7 := own7.up X_; clear X_; clear H2)
              | (go_at_call 27; (with_reducible refine (H3.out _ _ _ hs own7.bytes).mono ?_); rintro e w10 ⟨rfl, E10⟩; have X_ : Ext w9 w10 := Ext.trans (by repeat with_reducible (first | exact Ext.refl _ | refine Ext.alloc ?_ _ | refine Ext.drew ?_ | refine Ext.drewN ?_ _ | refine Ext.setCell ?_ (by first | exact Nat.le_refl _ | omega | (simp; done) | (simp; omega)) _)) E10; replace hE := hE.up X_; replace hs := hs.up X_; replace ha := ha.up X_; replace hb := hb.up X_; replace own7 := own7.up X_; clear X_; clear H3)
              | (go_at_call 27; (with_reducible refine (H4.out _ hs ha).mono ?_); rintro e w11 ⟨rfl, E11⟩; have X_ : Ext w10 w11 := Ext.trans (by repeat with_reducible (first | exact Ext.refl _ | refine Ext.alloc ?_ _ | refine Ext.drew ?_ | refine Ext.drewN ?_ _ | refine Ext.setCell ?_ (by first | exact Nat.le_refl _ | omega | (simp; done) | (simp; omega)) _)) E11; replace hE := hE.up X_; replace hs := hs.up X_; replace ha := ha.up X_; replace hb := hb.up X_; replace own7 := own7.up X_; clear X_; clear H4)
              | (go_at_call 30; (with_reducible refine (H5.out _ hs ha).mono ?_); rintro e w12 ⟨rfl, E12⟩; have X_ : Ext w11 w12 := Ext.trans (by repeat with_reducible (first | exact Ext.refl _ | refine Ext.alloc ?_ _ | refine Ext.drew ?_ | refine Ext.drewN ?_ _ | refine Ext.setCell ?_ (by first | exact Nat.le_refl _ | omega | (simp; done) | (simp; omega)) _)) E12; replace hE := hE.up X_; replace hs := hs.up X_; replace ha := ha.up X_; replace hb := hb.up X_; replace own7 := own7.up X_; clear X_; clear H5)
              | (go_at_call 30; (with_reducible refine (H6.out _ hs hb).mono ?_); rintro e w13 ⟨rfl, E13⟩; have X_ : Ext w12 w13 := Ext.trans (by repeat with_reducible (first | exact Ext.refl _ | refine Ext.alloc ?_ _ | refine Ext.drew ?_ | refine Ext.drewN ?_ _ | refine Ext.setCell ?_ (by first | exact Nat.le_refl _ | omega | (simp; done) | (simp; omega)) _)) E13; replace hE := hE.up X_; replace hs := hs.up X_; replace ha := ha.up X_; replace hb := hb.up X_; replace own7 := own7.up X_; clear X_; clear H6)
              | (go_at_call 30; (with_reducible refine (H7.out _ _ _ hs own7.bytes).mono ?_); rintro e w14 ⟨rfl, E14⟩; have X_ : Ext w13 w14 := Ext.trans (by repeat with_reducible (first | exact Ext.refl _ | refine Ext.alloc ?_ _ | refine Ext.drew ?_ | refine Ext.drewN ?_ _ | refine Ext.setCell ?_ (by first | exact Nat.le_refl _ | omega | (simp; done) | (simp; omega)) _)) E14; replace hE := hE.up X_; replace hs := hs.up X_; replace own7 := own7.up X_; clear X_; clear H7)
              | (go_at_call 27; (with_reducible refine (H8.out _ _ _ hs own7.bytes).mono ?_); rintro e w15 ⟨rfl, E15⟩; have X_ : Ext w14 w15 := Ext.trans (by repeat with_reducible (first | exact Ext.refl _ | refine Ext.alloc ?_ _ | refine Ext.drew ?_ | refine Ext.drewN ?_ _ | refine Ext.setCell ?_ (by first | exact Nat.le_refl _ | omega | (simp; done) | (simp; omega)) _)) E15; replace hE := hE.up X_; clear X_))
            all_goals
              go_ret
              exact ⟨rfl, hE⟩
          · clear h4 hm
            go_enter Try.func6, Try.ntmps6
            go_wp2_with (first
              | (go_at_call 24; refine (alive11 _).mono ?_; rintro e w1 ⟨rfl, E1⟩; have X_ : Ext w w1 := Ext.trans (by repeat with_reducible (first | exact Ext.refl _ | refine Ext.alloc ?_ _ | refine Ext.drew ?_ | refine Ext.drewN ?_ _ | refine Ext.setCell ?_ (by first | exact Nat.le_refl _ | omega | (simp; done) | (simp; omega)) _)) E1; replace hE := hE.up X_; replace hs := hs.up X_; replace ha := ha.up X_; replace hb := hb.up X_; clear X_)
              | (go_at_call 12; refine (few07 hs).mono ?_; rintro e w2 ⟨x, rfl, E2⟩; have X_ : Ext w1 w2 := Ext.trans (by repeat with_reducible (first | exact Ext.refl _ | refine Ext.alloc ?_ _ | refine Ext.drew ?_ | refine Ext.drewN ?_ _ | refine Ext.setCell ?_ (by first | exact Nat.le_refl _ | omega | (simp; done) | (simp; omega)) _)) E2; replace hE := hE.up X_; replace hs := hs.up X_; replace ha := ha.up X_; replace hb := hb.up X_; clear X_)
              | (at_builtin; have _t := tokA; refine wpList_more elemB rfl (.tmp 34) (.tmp 35) rfl rfl (Own.empty (Ext.refl _) 5 1) rfl (ha.ext ((Ext.refl _).alloc _)) (bv_one _) (by omega) (by unfold maxLen; omega) ?_; intro A6 c6 w6 own6 _; simp only [Nat.zero_add, List.nil_append] at own6; clear tokA)
              | (at_builtin; refine wpList_more elemB rfl (.tmp 36) (.tmp 37) rfl rfl own6 rfl (hb.ext own6.ext) (bv_one _) (by omega) (by unfold maxLen; omega) ?_; intro A7 c7 w7 own7 _; rw [← List.map_append] at own7; replace hE := hE.trans own7.ext; replace hs := hs.up own7.ext; replace ha := ha.up own7.ext; replace hb := hb.up own7.ext; clear own6)
              | (go_at_call 27; (with_reducible refine (H1.out _ hs ha).mono ?_); rintro e w8 ⟨rfl, E8⟩; have X_ : Ext w7 w8 := Ext.trans (by repeat with_reducible (first | exact Ext.refl _ | refine Ext.alloc ?_ _ | refine Ext.drew ?_ | refine Ext.drewN ?_ _ | refine Ext.setCell ?_ (by first | exact Nat.le_refl _ | omega | (simp; done) | (simp; omega)) _)) E8; replace hE := hE.up X_; replace hs := hs.up X_; replace ha := ha.up X_; replace hb := hb.up X_; replace own7 := own7.up X_; clear X_; clear H1)
              | (go_at_call 27; (with_reducible refine (H2.out _ hs hb).mono ?_); rintro e w9 ⟨rfl, E9⟩; have X_ : Ext w8 w9 := Ext.trans (by repeat with_reducible (first | exact Ext.refl _ | refine Ext.alloc ?_ _ | refine Ext.drew ?_ | refine Ext.drewN ?_ _ | refine Ext.setCell ?_ (by first | exact Nat.le_refl _ | omega | (simp; done) | (simp; omega)) _)) E9; replace hE := hE.up X_; replace hs := hs.up X_; replace ha := ha.up X_; replace hb := hb.up X_; replace own7 := own7.up X_; clear X_; clear H2)
              | (go_at_call 27; (with_reducible refine (H3.out _ _ _ hs own7.bytes).mono ?_); rintro e w10 ⟨rfl, E10⟩; have X_ : Ext w9 w10 := Ext.trans (by repeat with_reducible (first | exact Ext.refl _ | refine Ext.alloc ?_ _ | refine Ext.drew ?_ | refine Ext.drewN ?_ _ | refine Ext.setCell ?_ (by first | exact Nat.le_refl _ | omega | (simp; done) | (simp; omega)) _)) E10; replace hE := hE.up X_; replace hs := hs.up X_; replace ha := ha.up X_; replace hb := hb.up X_; replace own7 := own7.up X_; clear X_; clear H3)
              | (go_at_call 30; (with_reducible refine (H5.out _ hs ha).mono ?_); rintro e w12 ⟨rfl, E12⟩; have X_ : Ext w10 w12 := Ext.trans (by repeat with_reducible (first | exact Ext.refl _ | refine Ext.alloc ?_ _ | refine Ext.drew ?_ | refine Ext.drewN ?_ _ | refine Ext.setCell ?_ (by first | exact Nat.le_refl _ | omega | (simp; done) | (simp; omega)) _)) E12; replace hE := hE.up X_; replace hs := hs.up X_; replace ha := ha.up X_; replace hb := hb.up X_; replace own7 := own7.up X_; clear X_; clear H5)
              | (go_at_call 30; (with_reducible refine (H6.out _ hs hb).mono ?_); rintro e w13 ⟨rfl, E13⟩; have X_ : Ext w12 w13 := Ext.trans (by repeat with_reducible (first | exact Ext.refl _ | refine Ext.alloc ?_ _ | refine Ext.drew ?_ | refine Ext.drewN ?_ _ | refine Ext.setCell ?_ (by first | exact Nat.le_refl _ | omega | (simp; done) | (simp; omega)) _)) E13; replace hE := hE.up X_; replace hs := hs.up X_; replace ha := ha.up X_; replace hb := hb.up X_; replace own7 := own7.up X_; clear X_; clear H6)
              | (go_at_call 30; (with_reducible refine (H7.out _ _ _ hs own7.bytes).mono ?_); rintro e w14 ⟨rfl, E14⟩; have X_ : Ext w13 w14 := Ext.trans (by repeat with_reducible (first | exact Ext.refl _ | refine Ext.alloc ?_ _ | refine Ext.drew ?_ | refine Ext.drewN ?_ _ | refine Ext.setCell ?_ (by first | exact Nat.le_refl _ | omega | (simp; done) | (simp; omega)) _)) E14; replace hE := hE.up X_; replace hs := hs.up X_; replace own7 := own7.up X_; clear X_; clear H7)
              | (go_at_call 27; (with_reducible refine (H8.out _ _ _ hs own7.bytes).mono ?_); rintro e w15 ⟨rfl, E15⟩; have X_ : Ext w14 w15 := Ext.trans (by repeat with_reducible (first | exact Ext.refl _ | refine Ext.alloc ?_ _ | refine Ext.drew ?_ | refine Ext.drewN ?_ _ | refine Ext.setCell ?_ (by first | exact Nat.le_refl _ | omega | (simp; done) | (simp; omega)) _)) E15; replace hE := hE.up X_; clear X_))
            all_goals
              go_ret
              exact ⟨rfl, hE⟩

end Go.Proofs.Ytpgbhgimjpbhoaa
