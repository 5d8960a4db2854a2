/- Contracts of layer 18: is it normal, and the first place that isn't. -/
import Derived.Test.YtcbpbpeogfbpiaaGreatQW18h
import Derived.Test.YtcbpbpeogfbpiaaGreatQW22
import Derived.Test.YtcbpbpeogfbpiaaGreatQW14w
import Derived.Test.YtcbpbpeogfbpiaaGreatQW14s

namespace Go.Proofs.YtcbpbpeogfbpiaaGreat
open Go.RowKit Go.Shelf
set_option linter.unusedVariables false

theorem nIs {A : Option Addr} {n c : Nat} {S : List MsgV} {root d : Int} {B : Option Addr} {n' c' : Nat} {bs : List UInt8} {w : World} (hs : SchemaAt w A n c S) (hb : BytesAt w B n' c' bs) (hn : n' ≤ 100000) :
    Calls Tryz.prog 14 #[.slice A n c, .int .i64 root, .slice B n' c', .int .i64 d] w fun e w' => e = .returned (.bool (decide ((checkB (S.map MsgV.d) root bs d).2 = 0) && decide (bs = formB (S.map MsgV.d) root bs d))) ∧ Ext w w' := by
  have hE := Ext.refl w
  have h1 := fun W (h : SchemaAt W A n c S) (h2 : BytesAt W B n' c' bs) => nFormB (root := root) (d := d) h h2 hn
  generalize formB (S.map MsgV.d) root bs d = F at *
  generalize checkB (S.map MsgV.d) root bs d = V at *
  obtain ⟨p, C⟩ := V
  simp only at h1 ⊢
  generalize hfl : F.length = fl at *
  have H1 := Lib.hid h1
  clear h1 hfl
  by_cases hC : C = 0
  · subst hC
    go_enter Tryz.func14, Tryz.ntmps14
    go_wp2_with (first
      | (go_at_call 10; (with_reducible refine (H1.out _ (hs.up (by repeat with_reducible (first | exact Ext.refl _ | refine Ext.alloc ?_ _ | refine Ext.drew ?_ | refine Ext.drewN ?_ _ | refine Ext.setCell ?_ (by first | exact Nat.le_refl _ | omega | (simp; done) | (simp; omega)) _))) (hb.up (by repeat with_reducible (first | exact Ext.refl _ | refine Ext.alloc ?_ _ | refine Ext.drew ?_ | refine Ext.drewN ?_ _ | refine Ext.setCell ?_ (by first | exact Nat.le_refl _ | omega | (simp; done) | (simp; omega)) _)))).mono ?_); rintro e w1 ⟨A3, c3, rfl, own3⟩; have X_ : Ext w w1 := Ext.trans (by repeat with_reducible (first | exact Ext.refl _ | refine Ext.alloc ?_ _ | refine Ext.drew ?_ | refine Ext.drewN ?_ _ | refine Ext.setCell ?_ (by first | exact Nat.le_refl _ | omega | (simp; done) | (simp; omega)) _)) own3.ext; replace hE := hE.up X_; replace hb := hb.up X_; clear X_)
      | (go_at_call 49; refine (bEqual hb own3.bytes).mono ?_; rintro e w' ⟨rfl, rfl⟩))
    go_ret
    exact ⟨by simp, hE⟩
  · have hC' : ¬ ((C : Int) = 0) := by omega
    go_enter Tryz.func14, Tryz.ntmps14
    go_wp2_with (first
      | (go_at_call 10; (with_reducible refine (H1.out _ (hs.up (by repeat with_reducible (first | exact Ext.refl _ | refine Ext.alloc ?_ _ | refine Ext.drew ?_ | refine Ext.drewN ?_ _ | refine Ext.setCell ?_ (by first | exact Nat.le_refl _ | omega | (simp; done) | (simp; omega)) _))) (hb.up (by repeat with_reducible (first | exact Ext.refl _ | refine Ext.alloc ?_ _ | refine Ext.drew ?_ | refine Ext.drewN ?_ _ | refine Ext.setCell ?_ (by first | exact Nat.le_refl _ | omega | (simp; done) | (simp; omega)) _)))).mono ?_); rintro e w1 ⟨A3, c3, rfl, own3⟩; have X_ : Ext w w1 := Ext.trans (by repeat with_reducible (first | exact Ext.refl _ | refine Ext.alloc ?_ _ | refine Ext.drew ?_ | refine Ext.drewN ?_ _ | refine Ext.setCell ?_ (by first | exact Nat.le_refl _ | omega | (simp; done) | (simp; omega)) _)) own3.ext; replace hE := hE.up X_; replace hb := hb.up X_; clear X_))
    go_ret
    exact ⟨by simp [hC], hE⟩

end Go.Proofs.YtcbpbpeogfbpiaaGreat

/- The walk of the law NormStays, out of its callees' contracts. -/




namespace Go.Proofs.YtcbpbpeogfbpiaaGreat
open Go.RowKit Go.Shelf
set_option linter.unusedVariables false

theorem of_mean {S : List MsgD} {m : Nat} {bs : List UInt8} {d : Int} (hC : (checkB S (m : Int) bs d).2 = 0) (hb : bs.length ≤ 100000) : OfT S (m : Int) bs d = meanB S m bs := by
  unfold OfT meanB
  rw [if_pos hC, Int.toNat_natCast]
  exact ofV_fuel S _ _ m bs (Nat.le_refl _) hb

theorem mean_fit {S : List MsgD} (hR : rightS S = true) {m : Nat} {bs : List UInt8} (hb : bs.length ≤ 100000) : FitT 1000000000000 (meanB S m bs) := fit_of hR _ _ _ hb

theorem mean_texts {S : List MsgD} {m : Nat} {bs : List UInt8} (hb : bs.length ≤ 100000) : TextsT 1000000000 (meanB S m bs) := texts_of _ _ _ (by omega)

/-- The bytes of a meaning of valid bytes, as the program writes them. -/
theorem cEncodeB {A : Option Addr} {n c : Nat} {S : List MsgV} {m : Nat} {d : Int} {bs : List UInt8} {x : MsgR} {w : World} (hs : SchemaAt w A n c S) (hx : TreeAt w x) (hC : (checkB (S.map MsgV.d) (m : Int) bs d).2 = 0) (hb : bs.length ≤ 3125) (hq : bare x = meanB (S.map MsgV.d) m bs) :
    Calls Tryz.prog 21 #[.slice A n c, .int .i64 (m : Int), treeV x] w fun e w' => ∃ A' n2 c2, e = .returned (.tuple #[.slice A' n2 c2, .int .u8 0]) ∧ Hid (n2 = (normB (S.map MsgV.d) m bs).length) ∧ Own w w' 5 1 A' n2 c2 ((normB (S.map MsgV.d) m bs).map bv) := by
  obtain ⟨hR, r1, r2, e1, e2, v1⟩ := checked_right hC
  rw [Int.toNat_natCast] at v1
  have hm : m < (S.map MsgV.d).length := by omega
  have hr := mean_right hR hm v1 (by omega)
  have hN : normB (S.map MsgV.d) m bs = encV (S.map MsgV.d) d.toNat m (bare x) := by rw [hq]; exact encV_fuel hR hr (by omega)
  have hl := normB_small hR (m := m) (bs := bs) (by omega)
  rw [hN] at hl ⊢
  refine cEncode hR (by have := hs.length; rw [List.length_map] at hm; omega) hs hx (by rw [hq]; exact hr) (FitT.of_bare x (by rw [hq]; exact mean_fit hR (by omega))) (TextsT.of_bare x (by rw [hq]; exact mean_texts (by omega))) (by omega)

set_option maxHeartbeats 1000000 in
theorem cIs {A B : Option Addr} {n c n' c' : Nat} {S : List MsgV} {m : Nat} {bs : List UInt8} {w : World} (hs : SchemaAt w A n c S) (hb : BytesAt w B n' c' bs) (hn : n' ≤ 3125) (hC : (checkB (S.map MsgV.d) (m : Int) bs 64).2 = 0) (hN : normB (S.map MsgV.d) m bs = bs) :
    Calls Tryz.prog 23 #[.slice A n c, .int .i64 (m : Int), .slice B n' c'] w fun e w' => e = .returned (.bool true) ∧ Ext w w' := by
  have hbl := hb.length
  have h1 := fun W (h : SchemaAt W A n c S) (q : BytesAt W B n' c' bs) => tOfB (root := (m : Int)) (d := 64) h q (by omega)
  rw [of_mean hC (by omega), hC] at h1
  have h2 := fun (y : MsgR) W (q : bare y = meanB (S.map MsgV.d) m bs) (h : SchemaAt W A n c S) (t : TreeAt W y) => cEncodeB h t hC (by omega) q
  rw [hN] at h2
  generalize meanB (S.map MsgV.d) m bs = M at *
  have z8 : (((0 : Nat) : Int)) = 0 := rfl
  rw [z8] at h1
  clear z8
  unfold treeV at h1 h2
  have H1 := Lib.hid h1
  have H2 := Lib.hid h2
  clear h1 h2 hC hN
  go_enter Tryz.func23, Tryz.ntmps23
  go_wp2_with (first
    | (go_at_call 20; refine (H1.out _ (hs.up (by repeat with_reducible (first | exact Ext.refl _ | refine Ext.alloc ?_ _ | refine Ext.drew ?_ | refine Ext.drewN ?_ _ | refine Ext.setCell ?_ (by first | exact Nat.le_refl _ | omega | (simp; done) | (simp; omega)) _))) (hb.up (by repeat with_reducible (first | exact Ext.refl _ | refine Ext.alloc ?_ _ | refine Ext.drew ?_ | refine Ext.drewN ?_ _ | refine Ext.setCell ?_ (by first | exact Nat.le_refl _ | omega | (simp; done) | (simp; omega)) _)))).mono ?_; rintro e w1 ⟨y, rfl, hy, ht, _, E1⟩; have X1 : Ext w w1 := Ext.trans (by repeat with_reducible (first | exact Ext.refl _ | refine Ext.alloc ?_ _ | refine Ext.drew ?_ | refine Ext.drewN ?_ _ | refine Ext.setCell ?_ (by first | exact Nat.le_refl _ | omega | (simp; done) | (simp; omega)) _)) E1)
    | (go_at_call 21; refine (H2.out y _ hy (hs.up (X1.trans (by repeat with_reducible (first | exact Ext.refl _ | refine Ext.alloc ?_ _ | refine Ext.drew ?_ | refine Ext.drewN ?_ _ | refine Ext.setCell ?_ (by first | exact Nat.le_refl _ | omega | (simp; done) | (simp; omega)) _)))) (ht.up (by repeat with_reducible (first | exact Ext.refl _ | refine Ext.alloc ?_ _ | refine Ext.drew ?_ | refine Ext.drewN ?_ _ | refine Ext.setCell ?_ (by first | exact Nat.le_refl _ | omega | (simp; done) | (simp; omega)) _)))).mono ?_; rintro e w2 ⟨A2, n2, c2, rfl, hn2, own2⟩; have X2 : Ext w1 w2 := Ext.trans (by repeat with_reducible (first | exact Ext.refl _ | refine Ext.alloc ?_ _ | refine Ext.drew ?_ | refine Ext.drewN ?_ _ | refine Ext.setCell ?_ (by first | exact Nat.le_refl _ | omega | (simp; done) | (simp; omega)) _)) own2.ext)
    | (go_at_call 49; refine (bEqual (hb.up (X1.trans X2)) own2.bytes).mono ?_; rintro e w' ⟨rfl, rfl⟩))
  all_goals
    go_ret
    exact ⟨by simp, X1.trans (X2.trans (by repeat with_reducible (first | exact Ext.refl _ | refine Ext.alloc ?_ _ | refine Ext.drew ?_ | refine Ext.drewN ?_ _ | refine Ext.setCell ?_ (by first | exact Nat.le_refl _ | omega | (simp; done) | (simp; omega)) _)))⟩

theorem check_by {S : List MsgD} {root d : Int} {a b : List UInt8} (h : (checkB S root a d).2 = 0) (hb : (firstV S d.toNat root.toNat b).2 = 0) : (checkB S root b d).2 = 0 := by
  unfold checkB at h ⊢
  by_cases h0 : argsV S root d = 0
  · rw [if_pos h0]
    exact hb
  · rw [if_neg h0] at h
    exact absurd h h0

theorem check_more {S : List MsgD} {root d : Int} {bs : List UInt8} (h : (checkB S root bs d).2 = 0) : (checkB S root bs 64).2 = 0 := (depth_of (d := d) (by unfold validB; exact decide_eq_true h)).2.2

set_option maxRecDepth 100000 in
set_option maxHeartbeats 4000000 in
theorem normStays_bad {A : Option Addr} {n c : Nat} {S : List MsgV} {root : Int} {B D : Option Addr} {n1 c1 n2 c2 : Nat} {xs ys : List UInt8} {d : Int} {w : World} (hs : SchemaAt w A n c S) (hroot : -9223372036854775808 ≤ root ∧ root < 9223372036854775808) (ha : BytesAt w B n1 c1 xs) (sa : c1 * 1 ≤ 140737488351232) (hb : BytesAt w D n2 c2 ys) (sb : c2 * 1 ≤ 140737488351232) (hd : -9223372036854775808 ≤ d ∧ d < 9223372036854775808) (hn : ¬ (1500 : Int) < (n1 : Int) + n2) (hC : ¬ (checkB (S.map MsgV.d) root xs d).2 = 0) :
    Calls Tryz.prog 4 #[.slice A n c, .int .i64 root, .slice B n1 c1, .slice D n2 c2, .int .i64 d] w fun e w' => e = .returned (.bool true) ∧ Ext w w' := by
  have hE := Ext.refl w
  have hcap := Reads.cap ha
  have hcap2 := Reads.cap hb
  have g1 : (n1 : Int) ≤ 140737488351232 := by omega
  have g2 : (n2 : Int) ≤ 140737488351232 := by omega
  have la := ha.length
  have lb := hb.length
  have k1 := checkB_le (S.map MsgV.d) root xs d
  have k2 := checkB_le (S.map MsgV.d) root ys d
  have h1 := fun W (h : SchemaAt W A n c S) (q : BytesAt W B n1 c1 xs) => nFormB (root := root) (d := d) h q (by omega)
  have h2 := fun W (h : SchemaAt W A n c S) (q : BytesAt W D n2 c2 ys) => nFormB (root := root) (d := d) h q (by omega)
  have h3 := fun W (h : SchemaAt W A n c S) (q : BytesAt W B n1 c1 xs) => vIs (root := root) (d := d) h q (by omega)
  rw [show validB (S.map MsgV.d) root xs d = false by unfold validB; exact decide_eq_false hC] at h3
  rw [show formB (S.map MsgV.d) root xs d = [] by unfold formB; rw [if_neg hC]] at h1
  generalize formB (S.map MsgV.d) root ys d = Y at *
  generalize checkB (S.map MsgV.d) root xs d = V at *
  generalize checkB (S.map MsgV.d) root ys d = U at *
  obtain ⟨P, C⟩ := V
  obtain ⟨Q, K⟩ := U
  simp only at h1 h2 hC k1 k2
  have hCi : (C : Int) < 256 := by omega
  have hKi : (K : Int) < 256 := by omega
  have hC0 : ¬ ((C : Int) = 0) := by omega
  generalize hY : Y.length = yl at *
  have H1 := Lib.hid h1
  have H2 := Lib.hid h2
  have H3 := Lib.hid h3
  clear h1 h2 h3 hroot hd hY k1 k2 la lb
  go_enter Tryz.func4, Tryz.ntmps4
  go_wp2_with (first
    | (go_at_call 8; refine (alive18 _).mono ?_; rintro e w1 ⟨rfl, E1⟩; have X_ : Ext w w1 := Ext.trans (by repeat with_reducible (first | exact Ext.refl _ | refine Ext.alloc ?_ _ | refine Ext.drew ?_ | refine Ext.drewN ?_ _ | refine Ext.setCell ?_ (by first | exact Nat.le_refl _ | omega | (simp; done) | (simp; omega)) _)) E1; replace hE := hE.up X_; replace hs := hs.up X_; replace ha := ha.up X_; replace hb := hb.up X_; clear X_)
    | (go_at_call 9; refine (few07 hs).mono ?_; rintro e w2 ⟨x, rfl, E2⟩; have X_ : Ext w1 w2 := Ext.trans (by repeat with_reducible (first | exact Ext.refl _ | refine Ext.alloc ?_ _ | refine Ext.drew ?_ | refine Ext.drewN ?_ _ | refine Ext.setCell ?_ (by first | exact Nat.le_refl _ | omega | (simp; done) | (simp; omega)) _)) E2; replace hE := hE.up X_; replace hs := hs.up X_; replace ha := ha.up X_; replace hb := hb.up X_; clear X_)
    | (go_at_call 10; (with_reducible refine (H1.out _ (hs.up (by repeat with_reducible (first | exact Ext.refl _ | refine Ext.alloc ?_ _ | refine Ext.drew ?_ | refine Ext.drewN ?_ _ | refine Ext.setCell ?_ (by first | exact Nat.le_refl _ | omega | (simp; done) | (simp; omega)) _))) (ha.up (by repeat with_reducible (first | exact Ext.refl _ | refine Ext.alloc ?_ _ | refine Ext.drew ?_ | refine Ext.drewN ?_ _ | refine Ext.setCell ?_ (by first | exact Nat.le_refl _ | omega | (simp; done) | (simp; omega)) _)))).mono ?_); rintro e w3 ⟨A3, c3, rfl, own3⟩; clear H1; have X_ : Ext w2 w3 := Ext.trans (by repeat with_reducible (first | exact Ext.refl _ | refine Ext.alloc ?_ _ | refine Ext.drew ?_ | refine Ext.drewN ?_ _ | refine Ext.setCell ?_ (by first | exact Nat.le_refl _ | omega | (simp; done) | (simp; omega)) _)) own3.ext; replace hE := hE.up X_; replace hs := hs.up X_; replace ha := ha.up X_; replace hb := hb.up X_; clear X_)
    | (go_at_call 10; (with_reducible refine (H2.out _ (hs.up (by repeat with_reducible (first | exact Ext.refl _ | refine Ext.alloc ?_ _ | refine Ext.drew ?_ | refine Ext.drewN ?_ _ | refine Ext.setCell ?_ (by first | exact Nat.le_refl _ | omega | (simp; done) | (simp; omega)) _))) (hb.up (by repeat with_reducible (first | exact Ext.refl _ | refine Ext.alloc ?_ _ | refine Ext.drew ?_ | refine Ext.drewN ?_ _ | refine Ext.setCell ?_ (by first | exact Nat.le_refl _ | omega | (simp; done) | (simp; omega)) _)))).mono ?_); rintro e w4 ⟨A4, c4, rfl, own4⟩; clear H2; have X_ : Ext w3 w4 := Ext.trans (by repeat with_reducible (first | exact Ext.refl _ | refine Ext.alloc ?_ _ | refine Ext.drew ?_ | refine Ext.drewN ?_ _ | refine Ext.setCell ?_ (by first | exact Nat.le_refl _ | omega | (simp; done) | (simp; omega)) _)) own4.ext; replace hE := hE.up X_; replace hs := hs.up X_; replace ha := ha.up X_; clear X_)
    | (go_at_call 19; refine (H3.out _ (hs.up (by repeat with_reducible (first | exact Ext.refl _ | refine Ext.alloc ?_ _ | refine Ext.drew ?_ | refine Ext.drewN ?_ _ | refine Ext.setCell ?_ (by first | exact Nat.le_refl _ | omega | (simp; done) | (simp; omega)) _))) (ha.up (by repeat with_reducible (first | exact Ext.refl _ | refine Ext.alloc ?_ _ | refine Ext.drew ?_ | refine Ext.drewN ?_ _ | refine Ext.setCell ?_ (by first | exact Nat.le_refl _ | omega | (simp; done) | (simp; omega)) _)))).mono ?_; rintro e w5 ⟨rfl, E5⟩; have X_ : Ext w4 w5 := Ext.trans (by repeat with_reducible (first | exact Ext.refl _ | refine Ext.alloc ?_ _ | refine Ext.drew ?_ | refine Ext.drewN ?_ _ | refine Ext.setCell ?_ (by first | exact Nat.le_refl _ | omega | (simp; done) | (simp; omega)) _)) E5; replace hE := hE.up X_; clear X_))
  all_goals
    go_ret
    exact ⟨by simp, hE⟩

set_option maxRecDepth 100000 in
set_option maxHeartbeats 4000000 in
theorem normStays_half {A : Option Addr} {n c : Nat} {S : List MsgV} {root : Int} {B D : Option Addr} {n1 c1 n2 c2 : Nat} {xs ys : List UInt8} {d : Int} {w : World} (hs : SchemaAt w A n c S) (hroot : -9223372036854775808 ≤ root ∧ root < 9223372036854775808) (ha : BytesAt w B n1 c1 xs) (sa : c1 * 1 ≤ 140737488351232) (hb : BytesAt w D n2 c2 ys) (sb : c2 * 1 ≤ 140737488351232) (hd : -9223372036854775808 ≤ d ∧ d < 9223372036854775808) (hn : ¬ (1500 : Int) < (n1 : Int) + n2) (hC : (checkB (S.map MsgV.d) root xs d).2 = 0) (hK : ¬ (checkB (S.map MsgV.d) root ys d).2 = 0) :
    Calls Tryz.prog 4 #[.slice A n c, .int .i64 root, .slice B n1 c1, .slice D n2 c2, .int .i64 d] w fun e w' => e = .returned (.bool true) ∧ Ext w w' := by
  have hE := Ext.refl w
  have hcap := Reads.cap ha
  have hcap2 := Reads.cap hb
  have g1 : (n1 : Int) ≤ 140737488351232 := by omega
  have g2 : (n2 : Int) ≤ 140737488351232 := by omega
  have la := ha.length
  have lb := hb.length
  have k1 := checkB_le (S.map MsgV.d) root xs d
  have k2 := checkB_le (S.map MsgV.d) root ys d
  have h1 := fun W (h : SchemaAt W A n c S) (q : BytesAt W B n1 c1 xs) => nFormB (root := root) (d := d) h q (by omega)
  have h2 := fun W (h : SchemaAt W A n c S) (q : BytesAt W D n2 c2 ys) => nFormB (root := root) (d := d) h q (by omega)
  obtain ⟨hR, r1, r2, e1, e2, v1⟩ := checked_right hC
  obtain ⟨m, rfl⟩ := Int.eq_ofNat_of_zero_le r1
  rw [Int.toNat_natCast] at v1
  have hm : m < (S.map MsgV.d).length := by omega
  have hF : formB (S.map MsgV.d) (m : Int) xs d = normB (S.map MsgV.d) m xs := by unfold formB; rw [if_pos hC]; rfl
  have hlX := normB_small hR (m := m) (bs := xs) (by omega)
  have hl2 := norm_twice hR hm v1 (by omega)
  have hmean := norm_means hR hm v1 (by omega) (by omega)
  have hvX := norm_valid hR hm v1 (by omega) (by omega)
  have hCX : (checkB (S.map MsgV.d) (m : Int) (normB (S.map MsgV.d) m xs) d).2 = 0 := check_by hC (by rw [Int.toNat_natCast]; exact hvX)
  have hid : normB (S.map MsgV.d) m (normB (S.map MsgV.d) m xs) = normB (S.map MsgV.d) m xs := by unfold normB at hmean ⊢; rw [hmean]
  have hFX : formB (S.map MsgV.d) (m : Int) (normB (S.map MsgV.d) m xs) d = normB (S.map MsgV.d) m xs := by unfold formB; rw [if_pos hCX, Int.toNat_natCast]; exact hid
  have h3 := fun W (h : SchemaAt W A n c S) (q : BytesAt W B n1 c1 xs) => tOfB (root := (m : Int)) (d := d) h q (by omega)
  rw [of_mean hC (by omega), hC] at h3
  have h4 := fun W (A9 : Option Addr) (c9 : Nat) (h : SchemaAt W A n c S) (q : BytesAt W A9 (normB (S.map MsgV.d) m xs).length c9 (normB (S.map MsgV.d) m xs)) => tOfB (root := (m : Int)) (d := d) h q (by omega)
  rw [of_mean hCX (by omega), hCX, hmean] at h4
  have h5 := fun (y : MsgR) W (q : bare y = meanB (S.map MsgV.d) m xs) (h : SchemaAt W A n c S) (t : TreeAt W y) => cEncodeB h t hC (by omega) q
  have h6 : ∀ (y z : MsgR) (W : World), bare y = meanB (S.map MsgV.d) m xs → bare z = meanB (S.map MsgV.d) m xs → TreeAt W y → TreeAt W z → Calls Tryz.prog 22 #[treeV y, treeV z] W fun e w' => e = .returned (.bool true) ∧ Ext W w' := fun y z W q1 q2 t1 t2 => by
    have := tSame y z W t1 t2
    rw [q1, q2, eqB_yes rfl] at this
    exact this
  have h7 := fun W (A9 : Option Addr) (c9 : Nat) (h : SchemaAt W A n c S) (q : BytesAt W A9 (normB (S.map MsgV.d) m xs).length c9 (normB (S.map MsgV.d) m xs)) => nIs (root := (m : Int)) (d := d) h q (by omega)
  rw [hCX, hFX] at h7
  have h8 := fun W (A9 : Option Addr) (c9 : Nat) (h : SchemaAt W A n c S) (q : BytesAt W A9 (normB (S.map MsgV.d) m xs).length c9 (normB (S.map MsgV.d) m xs)) => cIs h q (by omega) (check_more hCX) hid
  rw [hF, hC] at h1
  have z8 : (((0 : Nat) : Int)) = 0 := rfl
  rw [z8] at h1 h3 h4
  simp only [decide_true, Bool.true_and] at h7
  have hlI : ¬ ((2 : Int) * (n1 : Int) < ((normB (S.map MsgV.d) m xs).length : Int)) := by omega
  unfold treeV at h3 h4 h5 h6
  generalize normB (S.map MsgV.d) m xs = X at *
  generalize meanB (S.map MsgV.d) m xs = M at *
  generalize formB (S.map MsgV.d) (m : Int) ys d = Y at *
  generalize checkB (S.map MsgV.d) (m : Int) ys d = U at *
  obtain ⟨Q, K⟩ := U
  simp only at h2 hK k2
  have hKi : (K : Int) < 256 := by omega
  have hK0 : ¬ ((K : Int) = 0) := by omega
  have hXl : (X.length : Int) ≤ 48000 := by omega
  generalize hY : Y.length = yl at *
  have H1 := Lib.hid h1
  have H2 := Lib.hid h2
  have H3 := Lib.hid h3
  have H4 := Lib.hid h4
  have H5 := Lib.hid h5
  have H6 := Lib.hid h6
  have H7 := Lib.hid h7
  have H8 := Lib.hid h8
  clear h1 h2 h3 h4 h5 h6 h7 h8 hroot hd hY k1 k2 la lb hF hlX hl2 hmean hvX hCX hid hFX v1 hC hm z8 r1 r2
  go_enter Tryz.func4, Tryz.ntmps4
  go_wp2_with (first
    | (go_at_call 8; refine (alive18 _).mono ?_; rintro e w1 ⟨rfl, E1⟩; have X_ : Ext w w1 := Ext.trans (by repeat with_reducible (first | exact Ext.refl _ | refine Ext.alloc ?_ _ | refine Ext.drew ?_ | refine Ext.drewN ?_ _ | refine Ext.setCell ?_ (by first | exact Nat.le_refl _ | omega | (simp; done) | (simp; omega)) _)) E1; replace hE := hE.up X_; replace hs := hs.up X_; replace ha := ha.up X_; replace hb := hb.up X_; clear X_)
    | (go_at_call 9; refine (few07 hs).mono ?_; rintro e w2 ⟨x, rfl, E2⟩; have X_ : Ext w1 w2 := Ext.trans (by repeat with_reducible (first | exact Ext.refl _ | refine Ext.alloc ?_ _ | refine Ext.drew ?_ | refine Ext.drewN ?_ _ | refine Ext.setCell ?_ (by first | exact Nat.le_refl _ | omega | (simp; done) | (simp; omega)) _)) E2; replace hE := hE.up X_; replace hs := hs.up X_; replace ha := ha.up X_; replace hb := hb.up X_; clear X_)
    | (go_at_call 10; (with_reducible refine (H1.out _ (hs.up (by repeat with_reducible (first | exact Ext.refl _ | refine Ext.alloc ?_ _ | refine Ext.drew ?_ | refine Ext.drewN ?_ _ | refine Ext.setCell ?_ (by first | exact Nat.le_refl _ | omega | (simp; done) | (simp; omega)) _))) (ha.up (by repeat with_reducible (first | exact Ext.refl _ | refine Ext.alloc ?_ _ | refine Ext.drew ?_ | refine Ext.drewN ?_ _ | refine Ext.setCell ?_ (by first | exact Nat.le_refl _ | omega | (simp; done) | (simp; omega)) _)))).mono ?_); rintro e w3 ⟨A3, c3, rfl, own3⟩; clear H1; have X_ : Ext w2 w3 := Ext.trans (by repeat with_reducible (first | exact Ext.refl _ | refine Ext.alloc ?_ _ | refine Ext.drew ?_ | refine Ext.drewN ?_ _ | refine Ext.setCell ?_ (by first | exact Nat.le_refl _ | omega | (simp; done) | (simp; omega)) _)) own3.ext; replace hE := hE.up X_; replace hs := hs.up X_; replace ha := ha.up X_; replace hb := hb.up X_; clear X_)
    | (go_at_call 10; (with_reducible refine (H2.out _ (hs.up (by repeat with_reducible (first | exact Ext.refl _ | refine Ext.alloc ?_ _ | refine Ext.drew ?_ | refine Ext.drewN ?_ _ | refine Ext.setCell ?_ (by first | exact Nat.le_refl _ | omega | (simp; done) | (simp; omega)) _))) (hb.up (by repeat with_reducible (first | exact Ext.refl _ | refine Ext.alloc ?_ _ | refine Ext.drew ?_ | refine Ext.drewN ?_ _ | refine Ext.setCell ?_ (by first | exact Nat.le_refl _ | omega | (simp; done) | (simp; omega)) _)))).mono ?_); rintro e w4 ⟨A4, c4, rfl, own4⟩; clear H2; have X_ : Ext w3 w4 := Ext.trans (by repeat with_reducible (first | exact Ext.refl _ | refine Ext.alloc ?_ _ | refine Ext.drew ?_ | refine Ext.drewN ?_ _ | refine Ext.setCell ?_ (by first | exact Nat.le_refl _ | omega | (simp; done) | (simp; omega)) _)) own4.ext; replace hE := hE.up X_; replace hs := hs.up X_; replace ha := ha.up X_; replace hb := hb.up X_; replace own3 := own3.up X_; clear X_)
    | (go_at_call 20; (with_reducible refine (H3.out _ (hs.up (by repeat with_reducible (first | exact Ext.refl _ | refine Ext.alloc ?_ _ | refine Ext.drew ?_ | refine Ext.drewN ?_ _ | refine Ext.setCell ?_ (by first | exact Nat.le_refl _ | omega | (simp; done) | (simp; omega)) _))) (ha.up (by repeat with_reducible (first | exact Ext.refl _ | refine Ext.alloc ?_ _ | refine Ext.drew ?_ | refine Ext.drewN ?_ _ | refine Ext.setCell ?_ (by first | exact Nat.le_refl _ | omega | (simp; done) | (simp; omega)) _)))).mono ?_); rintro e w5 ⟨y1, rfl, hy1, ht1, _, E5⟩; clear H3; have X_ : Ext w4 w5 := Ext.trans (by repeat with_reducible (first | exact Ext.refl _ | refine Ext.alloc ?_ _ | refine Ext.drew ?_ | refine Ext.drewN ?_ _ | refine Ext.setCell ?_ (by first | exact Nat.le_refl _ | omega | (simp; done) | (simp; omega)) _)) E5; replace hE := hE.up X_; replace hs := hs.up X_; replace ha := ha.up X_; replace hb := hb.up X_; replace own3 := own3.up X_; replace own4 := own4.up X_; clear X_; have B1 := BlkT.new w5 44 #[.slice y1.a.1 y1.vals.length y1.a.2, .slice y1.b.1 y1.unk.length y1.b.2] rfl)
    | (go_at_call 20; (with_reducible refine (H4.out _ _ _ (hs.up (by repeat with_reducible (first | exact Ext.refl _ | refine Ext.alloc ?_ _ | refine Ext.drew ?_ | refine Ext.drewN ?_ _ | refine Ext.setCell ?_ (by first | exact Nat.le_refl _ | omega | (simp; done) | (simp; omega)) _))) (own3.bytes.up (by repeat with_reducible (first | exact Ext.refl _ | refine Ext.alloc ?_ _ | refine Ext.drew ?_ | refine Ext.drewN ?_ _ | refine Ext.setCell ?_ (by first | exact Nat.le_refl _ | omega | (simp; done) | (simp; omega)) _)))).mono ?_); rintro e w6 ⟨y2, rfl, hy2, ht2, _, E6⟩; clear H4; have X_ : Ext w5 w6 := Ext.trans (by repeat with_reducible (first | exact Ext.refl _ | refine Ext.alloc ?_ _ | refine Ext.drew ?_ | refine Ext.drewN ?_ _ | refine Ext.setCell ?_ (by first | exact Nat.le_refl _ | omega | (simp; done) | (simp; omega)) _)) E6; replace hE := hE.up X_; replace hs := hs.up X_; replace ha := ha.up X_; replace hb := hb.up X_; replace own3 := own3.up X_; replace own4 := own4.up X_; replace ht1 := ht1.up X_; clear X_; replace B1 := B1.up E6;  have p0 : w6.cell? ⟨w5.heap.size, 0, none⟩ = some (.slice y1.a.1 y1.vals.length y1.a.2) := B1.cell 0;  have p1 : w6.cell? ⟨w5.heap.size, 1, none⟩ = some (.slice y1.b.1 y1.unk.length y1.b.2) := B1.cell 1;  have pl := B1.lt;  clear B1;  have B2 := BlkT.new w6 44 #[.slice y2.a.1 y2.vals.length y2.a.2, .slice y2.b.1 y2.unk.length y2.b.2] rfl)
    | (go_at_call 21; refine (H5.out y1 _ hy1 (hs.up (by repeat with_reducible (first | exact Ext.refl _ | refine Ext.alloc ?_ _ | refine Ext.drew ?_ | refine Ext.drewN ?_ _ | refine Ext.setCell ?_ (by first | exact Nat.le_refl _ | omega | (simp; done) | (simp; omega)) _))) (ht1.up (by repeat with_reducible (first | exact Ext.refl _ | refine Ext.alloc ?_ _ | refine Ext.drew ?_ | refine Ext.drewN ?_ _ | refine Ext.setCell ?_ (by first | exact Nat.le_refl _ | omega | (simp; done) | (simp; omega)) _)))).mono ?_; rintro e w7 ⟨A7, n7, c7, rfl, hn7, own7⟩; have X7 : Ext w6 w7 := Ext.trans (by repeat with_reducible (first | exact Ext.refl _ | refine Ext.alloc ?_ _ | refine Ext.drew ?_ | refine Ext.drewN ?_ _ | refine Ext.setCell ?_ (by first | exact Nat.le_refl _ | omega | (simp; done) | (simp; omega)) _)) own7.ext; replace B2 := B2.up own7.ext; have q0 : w7.cell? ⟨w6.heap.size, 0, none⟩ = some (.slice y2.a.1 y2.vals.length y2.a.2) := B2.cell 0; have q1 : w7.cell? ⟨w6.heap.size, 1, none⟩ = some (.slice y2.b.1 y2.unk.length y2.b.2) := B2.cell 1; have ql := B2.lt; clear B2; replace p0 := X7.of_cell p0; replace p1 := X7.of_cell p1; replace pl := Nat.lt_of_lt_of_le pl X7.size; replace hE := hE.trans X7; replace hs := hs.up X7; replace hb := hb.up X7; replace ha := ha.up X7; replace own3 := own3.up X7; replace own4 := own4.up X7; replace ht1 := ht1.up X7; replace ht2 := ht2.up X7)
    | (go_at_call 22; refine (H6.out y1 y2 _ hy1 hy2 (ht1.up (by repeat with_reducible (first | exact Ext.refl _ | refine Ext.alloc ?_ _ | refine Ext.drew ?_ | refine Ext.drewN ?_ _ | refine Ext.setCell ?_ (by first | exact Nat.le_refl _ | omega | (simp; done) | (simp; omega)) _))) (ht2.up (by repeat with_reducible (first | exact Ext.refl _ | refine Ext.alloc ?_ _ | refine Ext.drew ?_ | refine Ext.drewN ?_ _ | refine Ext.setCell ?_ (by first | exact Nat.le_refl _ | omega | (simp; done) | (simp; omega)) _)))).mono ?_; rintro e w8 ⟨rfl, E8⟩; have X8 : Ext w7 w8 := Ext.trans (by repeat with_reducible (first | exact Ext.refl _ | refine Ext.alloc ?_ _ | refine Ext.drew ?_ | refine Ext.drewN ?_ _ | refine Ext.setCell ?_ (by first | exact Nat.le_refl _ | omega | (simp; done) | (simp; omega)) _)) E8; replace p0 := X8.of_cell p0; replace p1 := X8.of_cell p1; replace pl := Nat.lt_of_lt_of_le pl X8.size; replace hE := hE.trans X8; replace hs := hs.up X8; replace hb := hb.up X8; replace ha := ha.up X8; replace own3 := own3.up X8; replace own4 := own4.up X8; replace own7 := own7.up X8; replace ht1 := ht1.up X8)
    | (go_at_call 16; refine (same (own7.bytes.up (by repeat with_reducible (first | exact Ext.refl _ | refine Ext.alloc ?_ _ | refine Ext.drew ?_ | refine Ext.drewN ?_ _ | refine Ext.setCell ?_ (by first | exact Nat.le_refl _ | omega | (simp; done) | (simp; omega)) _))) (own3.bytes.up (by repeat with_reducible (first | exact Ext.refl _ | refine Ext.alloc ?_ _ | refine Ext.drew ?_ | refine Ext.drewN ?_ _ | refine Ext.setCell ?_ (by first | exact Nat.le_refl _ | omega | (simp; done) | (simp; omega)) _)))).mono ?_; rintro e w' ⟨rfl, rfl⟩)
    | (go_at_call 14; refine (H7.out _ _ _ (hs.up (by repeat with_reducible (first | exact Ext.refl _ | refine Ext.alloc ?_ _ | refine Ext.drew ?_ | refine Ext.drewN ?_ _ | refine Ext.setCell ?_ (by first | exact Nat.le_refl _ | omega | (simp; done) | (simp; omega)) _))) (own3.bytes.up (by repeat with_reducible (first | exact Ext.refl _ | refine Ext.alloc ?_ _ | refine Ext.drew ?_ | refine Ext.drewN ?_ _ | refine Ext.setCell ?_ (by first | exact Nat.le_refl _ | omega | (simp; done) | (simp; omega)) _)))).mono ?_; rintro e w9 ⟨rfl, E9⟩; have X9 : Ext w8 w9 := Ext.trans (by repeat with_reducible (first | exact Ext.refl _ | refine Ext.alloc ?_ _ | refine Ext.drew ?_ | refine Ext.drewN ?_ _ | refine Ext.setCell ?_ (by first | exact Nat.le_refl _ | omega | (simp; done) | (simp; omega)) _)) E9; replace p0 := X9.of_cell p0; replace p1 := X9.of_cell p1; replace pl := Nat.lt_of_lt_of_le pl X9.size; replace hE := hE.trans X9; replace hs := hs.up X9; replace hb := hb.up X9; replace ha := ha.up X9; replace own3 := own3.up X9; replace own4 := own4.up X9; replace ht1 := ht1.up X9)
    | (go_at_call 23; refine (H8.out _ _ _ (hs.up (by repeat with_reducible (first | exact Ext.refl _ | refine Ext.alloc ?_ _ | refine Ext.drew ?_ | refine Ext.drewN ?_ _ | refine Ext.setCell ?_ (by first | exact Nat.le_refl _ | omega | (simp; done) | (simp; omega)) _))) (own3.bytes.up (by repeat with_reducible (first | exact Ext.refl _ | refine Ext.alloc ?_ _ | refine Ext.drew ?_ | refine Ext.drewN ?_ _ | refine Ext.setCell ?_ (by first | exact Nat.le_refl _ | omega | (simp; done) | (simp; omega)) _)))).mono ?_; rintro e w10 ⟨rfl, E10⟩; have X10 : Ext w9 w10 := Ext.trans (by repeat with_reducible (first | exact Ext.refl _ | refine Ext.alloc ?_ _ | refine Ext.drew ?_ | refine Ext.drewN ?_ _ | refine Ext.setCell ?_ (by first | exact Nat.le_refl _ | omega | (simp; done) | (simp; omega)) _)) E10; replace p0 := X10.of_cell p0; replace p1 := X10.of_cell p1; replace pl := Nat.lt_of_lt_of_le pl X10.size; replace hE := hE.trans X10; replace hs := hs.up X10; replace hb := hb.up X10; replace ha := ha.up X10; replace own3 := own3.up X10; replace own4 := own4.up X10; replace ht1 := ht1.up X10))
  all_goals
    go_ret
    exact ⟨by simp, hE⟩

set_option maxRecDepth 100000 in
set_option maxHeartbeats 4000000 in
theorem normStays_ok {A : Option Addr} {n c : Nat} {S : List MsgV} {root : Int} {B D : Option Addr} {n1 c1 n2 c2 : Nat} {xs ys : List UInt8} {d : Int} {w : World} (hs : SchemaAt w A n c S) (hroot : -9223372036854775808 ≤ root ∧ root < 9223372036854775808) (ha : BytesAt w B n1 c1 xs) (sa : c1 * 1 ≤ 140737488351232) (hb : BytesAt w D n2 c2 ys) (sb : c2 * 1 ≤ 140737488351232) (hd : -9223372036854775808 ≤ d ∧ d < 9223372036854775808) (hn : ¬ (1500 : Int) < (n1 : Int) + n2) (hC : (checkB (S.map MsgV.d) root xs d).2 = 0) (hK : (checkB (S.map MsgV.d) root ys d).2 = 0) :
    Calls Tryz.prog 4 #[.slice A n c, .int .i64 root, .slice B n1 c1, .slice D n2 c2, .int .i64 d] w fun e w' => e = .returned (.bool true) ∧ Ext w w' := by
  have hE := Ext.refl w
  have hcap := Reads.cap ha
  have hcap2 := Reads.cap hb
  have g1 : (n1 : Int) ≤ 140737488351232 := by omega
  have g2 : (n2 : Int) ≤ 140737488351232 := by omega
  have la := ha.length
  have lb := hb.length
  have k1 := checkB_le (S.map MsgV.d) root xs d
  have k2 := checkB_le (S.map MsgV.d) root ys d
  have h1 := fun W (h : SchemaAt W A n c S) (q : BytesAt W B n1 c1 xs) => nFormB (root := root) (d := d) h q (by omega)
  have h2 := fun W (h : SchemaAt W A n c S) (q : BytesAt W D n2 c2 ys) => nFormB (root := root) (d := d) h q (by omega)
  obtain ⟨hR, r1, r2, e1, e2, v1⟩ := checked_right hC
  obtain ⟨m, rfl⟩ := Int.eq_ofNat_of_zero_le r1
  rw [Int.toNat_natCast] at v1
  have hm : m < (S.map MsgV.d).length := by omega
  have hF : formB (S.map MsgV.d) (m : Int) xs d = normB (S.map MsgV.d) m xs := by unfold formB; rw [if_pos hC]; rfl
  have hlX := normB_small hR (m := m) (bs := xs) (by omega)
  have hl2 := norm_twice hR hm v1 (by omega)
  have hmean := norm_means hR hm v1 (by omega) (by omega)
  have hvX := norm_valid hR hm v1 (by omega) (by omega)
  have hCX : (checkB (S.map MsgV.d) (m : Int) (normB (S.map MsgV.d) m xs) d).2 = 0 := check_by hC (by rw [Int.toNat_natCast]; exact hvX)
  have hid : normB (S.map MsgV.d) m (normB (S.map MsgV.d) m xs) = normB (S.map MsgV.d) m xs := by unfold normB at hmean ⊢; rw [hmean]
  have hFX : formB (S.map MsgV.d) (m : Int) (normB (S.map MsgV.d) m xs) d = normB (S.map MsgV.d) m xs := by unfold formB; rw [if_pos hCX, Int.toNat_natCast]; exact hid
  have h3 := fun W (h : SchemaAt W A n c S) (q : BytesAt W B n1 c1 xs) => tOfB (root := (m : Int)) (d := d) h q (by omega)
  rw [of_mean hC (by omega), hC] at h3
  have h4 := fun W (A9 : Option Addr) (c9 : Nat) (h : SchemaAt W A n c S) (q : BytesAt W A9 (normB (S.map MsgV.d) m xs).length c9 (normB (S.map MsgV.d) m xs)) => tOfB (root := (m : Int)) (d := d) h q (by omega)
  rw [of_mean hCX (by omega), hCX, hmean] at h4
  have h5 := fun (y : MsgR) W (q : bare y = meanB (S.map MsgV.d) m xs) (h : SchemaAt W A n c S) (t : TreeAt W y) => cEncodeB h t hC (by omega) q
  have h6 : ∀ (y z : MsgR) (W : World), bare y = meanB (S.map MsgV.d) m xs → bare z = meanB (S.map MsgV.d) m xs → TreeAt W y → TreeAt W z → Calls Tryz.prog 22 #[treeV y, treeV z] W fun e w' => e = .returned (.bool true) ∧ Ext W w' := fun y z W q1 q2 t1 t2 => by
    have := tSame y z W t1 t2
    rw [q1, q2, eqB_yes rfl] at this
    exact this
  have h7 := fun W (A9 : Option Addr) (c9 : Nat) (h : SchemaAt W A n c S) (q : BytesAt W A9 (normB (S.map MsgV.d) m xs).length c9 (normB (S.map MsgV.d) m xs)) => nIs (root := (m : Int)) (d := d) h q (by omega)
  rw [hCX, hFX] at h7
  have h8 := fun W (A9 : Option Addr) (c9 : Nat) (h : SchemaAt W A n c S) (q : BytesAt W A9 (normB (S.map MsgV.d) m xs).length c9 (normB (S.map MsgV.d) m xs)) => cIs h q (by omega) (check_more hCX) hid
  rw [hF, hC] at h1
  obtain ⟨_, _, _, _, _, v2⟩ := checked_right hK
  rw [Int.toNat_natCast] at v2
  have hG : formB (S.map MsgV.d) (m : Int) ys d = normB (S.map MsgV.d) m ys := by unfold formB; rw [if_pos hK]; rfl
  have hlY := normB_small hR (m := m) (bs := ys) (by omega)
  have hsm := norm_same hR hm v1 (by omega) v2 (by omega) (by omega) (by omega)
  have h9 := fun W (h : SchemaAt W A n c S) (q : BytesAt W D n2 c2 ys) => tOfB (root := (m : Int)) (d := d) h q (by omega)
  rw [of_mean hK (by omega), hK] at h9
  have h10 := fun W (h : SchemaAt W A n c S) (q1 : BytesAt W B n1 c1 xs) (q2 : BytesAt W D n2 c2 ys) => nSameB (root := (m : Int)) (d := d) h q1 q2 (by omega) (by omega)
  have hbo : bothC (S.map MsgV.d) (m : Int) xs ys d = 0 := by unfold bothC; rw [if_pos hC, hK]
  rw [hbo, hF, hG] at h10
  rw [hG, hK] at h2
  have hsm2 : eqB (meanB (S.map MsgV.d) m xs = meanB (S.map MsgV.d) m ys) = decide (normB (S.map MsgV.d) m xs = normB (S.map MsgV.d) m ys) := by
    by_cases q : meanB (S.map MsgV.d) m xs = meanB (S.map MsgV.d) m ys
    · rw [eqB_yes q]
      exact (decide_eq_true (hsm.2 q)).symm
    · rw [eqB_no q]
      exact (decide_eq_false (fun r => q (hsm.1 r))).symm
  have h11 : ∀ (y z : MsgR) (W : World), bare y = meanB (S.map MsgV.d) m xs → bare z = meanB (S.map MsgV.d) m ys → TreeAt W y → TreeAt W z → Calls Tryz.prog 22 #[treeV y, treeV z] W fun e w' => e = .returned (.bool (decide (normB (S.map MsgV.d) m xs = normB (S.map MsgV.d) m ys))) ∧ Ext W w' := fun y z W q1 q2 t1 t2 => by
    have := tSame y z W t1 t2
    rw [q1, q2, hsm2] at this
    exact this
  have z8 : (((0 : Nat) : Int)) = 0 := rfl
  rw [z8] at h1 h2 h3 h4 h9 h10
  simp only [decide_true, Bool.true_and] at h7 h10
  have hlI : ¬ ((2 : Int) * (n1 : Int) < ((normB (S.map MsgV.d) m xs).length : Int)) := by omega
  unfold treeV at h3 h4 h5 h6 h9 h11
  have h12 := fun (W : World) (A9 A8 : Option Addr) (c9 c8 : Nat) (q1 : BytesAt W A9 (normB (S.map MsgV.d) m xs).length c9 (normB (S.map MsgV.d) m xs)) (q2 : BytesAt W A8 (normB (S.map MsgV.d) m ys).length c8 (normB (S.map MsgV.d) m ys)) => same q1 q2
  generalize hDD : decide (normB (S.map MsgV.d) m xs = normB (S.map MsgV.d) m ys) = DD at *
  generalize normB (S.map MsgV.d) m xs = X at *
  generalize normB (S.map MsgV.d) m ys = Y at *
  generalize meanB (S.map MsgV.d) m xs = M at *
  generalize meanB (S.map MsgV.d) m ys = M2 at *
  have hXl : (X.length : Int) ≤ 48000 := by omega
  have H9 := Lib.hid h9
  have H10 := Lib.hid h10
  have H11 := Lib.hid h11
  have H12 := Lib.hid h12
  have H1 := Lib.hid h1
  have H2 := Lib.hid h2
  have H3 := Lib.hid h3
  have H4 := Lib.hid h4
  have H5 := Lib.hid h5
  have H6 := Lib.hid h6
  have H7 := Lib.hid h7
  have H8 := Lib.hid h8
  clear h1 h2 h3 h4 h5 h6 h7 h8 h9 h10 h11 h12 hDD hsm hsm2 hbo hG hlY v2 hK hroot hd k1 k2 la lb hF hlX hl2 hmean hvX hCX hid hFX v1 hC hm z8 r1 r2
  go_enter Tryz.func4, Tryz.ntmps4
  go_wp2_with (first
    | (go_at_call 8; refine (alive18 _).mono ?_; rintro e w1 ⟨rfl, E1⟩; have X_ : Ext w w1 := Ext.trans (by repeat with_reducible (first | exact Ext.refl _ | refine Ext.alloc ?_ _ | refine Ext.drew ?_ | refine Ext.drewN ?_ _ | refine Ext.setCell ?_ (by first | exact Nat.le_refl _ | omega | (simp; done) | (simp; omega)) _)) E1; replace hE := hE.up X_; replace hs := hs.up X_; replace ha := ha.up X_; replace hb := hb.up X_; clear X_)
    | (go_at_call 9; refine (few07 hs).mono ?_; rintro e w2 ⟨x, rfl, E2⟩; have X_ : Ext w1 w2 := Ext.trans (by repeat with_reducible (first | exact Ext.refl _ | refine Ext.alloc ?_ _ | refine Ext.drew ?_ | refine Ext.drewN ?_ _ | refine Ext.setCell ?_ (by first | exact Nat.le_refl _ | omega | (simp; done) | (simp; omega)) _)) E2; replace hE := hE.up X_; replace hs := hs.up X_; replace ha := ha.up X_; replace hb := hb.up X_; clear X_)
    | (go_at_call 10; (with_reducible refine (H1.out _ (hs.up (by repeat with_reducible (first | exact Ext.refl _ | refine Ext.alloc ?_ _ | refine Ext.drew ?_ | refine Ext.drewN ?_ _ | refine Ext.setCell ?_ (by first | exact Nat.le_refl _ | omega | (simp; done) | (simp; omega)) _))) (ha.up (by repeat with_reducible (first | exact Ext.refl _ | refine Ext.alloc ?_ _ | refine Ext.drew ?_ | refine Ext.drewN ?_ _ | refine Ext.setCell ?_ (by first | exact Nat.le_refl _ | omega | (simp; done) | (simp; omega)) _)))).mono ?_); rintro e w3 ⟨A3, c3, rfl, own3⟩; clear H1; have X_ : Ext w2 w3 := Ext.trans (by repeat with_reducible (first | exact Ext.refl _ | refine Ext.alloc ?_ _ | refine Ext.drew ?_ | refine Ext.drewN ?_ _ | refine Ext.setCell ?_ (by first | exact Nat.le_refl _ | omega | (simp; done) | (simp; omega)) _)) own3.ext; replace hE := hE.up X_; replace hs := hs.up X_; replace ha := ha.up X_; replace hb := hb.up X_; clear X_)
    | (go_at_call 10; (with_reducible refine (H2.out _ (hs.up (by repeat with_reducible (first | exact Ext.refl _ | refine Ext.alloc ?_ _ | refine Ext.drew ?_ | refine Ext.drewN ?_ _ | refine Ext.setCell ?_ (by first | exact Nat.le_refl _ | omega | (simp; done) | (simp; omega)) _))) (hb.up (by repeat with_reducible (first | exact Ext.refl _ | refine Ext.alloc ?_ _ | refine Ext.drew ?_ | refine Ext.drewN ?_ _ | refine Ext.setCell ?_ (by first | exact Nat.le_refl _ | omega | (simp; done) | (simp; omega)) _)))).mono ?_); rintro e w4 ⟨A4, c4, rfl, own4⟩; clear H2; have X_ : Ext w3 w4 := Ext.trans (by repeat with_reducible (first | exact Ext.refl _ | refine Ext.alloc ?_ _ | refine Ext.drew ?_ | refine Ext.drewN ?_ _ | refine Ext.setCell ?_ (by first | exact Nat.le_refl _ | omega | (simp; done) | (simp; omega)) _)) own4.ext; replace hE := hE.up X_; replace hs := hs.up X_; replace ha := ha.up X_; replace hb := hb.up X_; replace own3 := own3.up X_; clear X_)
    | (go_at_call 20; (with_reducible refine (H3.out _ (hs.up (by repeat with_reducible (first | exact Ext.refl _ | refine Ext.alloc ?_ _ | refine Ext.drew ?_ | refine Ext.drewN ?_ _ | refine Ext.setCell ?_ (by first | exact Nat.le_refl _ | omega | (simp; done) | (simp; omega)) _))) (ha.up (by repeat with_reducible (first | exact Ext.refl _ | refine Ext.alloc ?_ _ | refine Ext.drew ?_ | refine Ext.drewN ?_ _ | refine Ext.setCell ?_ (by first | exact Nat.le_refl _ | omega | (simp; done) | (simp; omega)) _)))).mono ?_); rintro e w5 ⟨y1, rfl, hy1, ht1, _, E5⟩; clear H3; have X_ : Ext w4 w5 := Ext.trans (by repeat with_reducible (first | exact Ext.refl _ | refine Ext.alloc ?_ _ | refine Ext.drew ?_ | refine Ext.drewN ?_ _ | refine Ext.setCell ?_ (by first | exact Nat.le_refl _ | omega | (simp; done) | (simp; omega)) _)) E5; replace hE := hE.up X_; replace hs := hs.up X_; replace ha := ha.up X_; replace hb := hb.up X_; replace own3 := own3.up X_; replace own4 := own4.up X_; clear X_; have B1 := BlkT.new w5 44 #[.slice y1.a.1 y1.vals.length y1.a.2, .slice y1.b.1 y1.unk.length y1.b.2] rfl)
    | (go_at_call 20; (with_reducible refine (H4.out _ _ _ (hs.up (by repeat with_reducible (first | exact Ext.refl _ | refine Ext.alloc ?_ _ | refine Ext.drew ?_ | refine Ext.drewN ?_ _ | refine Ext.setCell ?_ (by first | exact Nat.le_refl _ | omega | (simp; done) | (simp; omega)) _))) (own3.bytes.up (by repeat with_reducible (first | exact Ext.refl _ | refine Ext.alloc ?_ _ | refine Ext.drew ?_ | refine Ext.drewN ?_ _ | refine Ext.setCell ?_ (by first | exact Nat.le_refl _ | omega | (simp; done) | (simp; omega)) _)))).mono ?_); rintro e w6 ⟨y2, rfl, hy2, ht2, _, E6⟩; clear H4; have X_ : Ext w5 w6 := Ext.trans (by repeat with_reducible (first | exact Ext.refl _ | refine Ext.alloc ?_ _ | refine Ext.drew ?_ | refine Ext.drewN ?_ _ | refine Ext.setCell ?_ (by first | exact Nat.le_refl _ | omega | (simp; done) | (simp; omega)) _)) E6; replace hE := hE.up X_; replace hs := hs.up X_; replace ha := ha.up X_; replace hb := hb.up X_; replace own3 := own3.up X_; replace own4 := own4.up X_; replace ht1 := ht1.up X_; clear X_; replace B1 := B1.up E6;  have p0 : w6.cell? ⟨w5.heap.size, 0, none⟩ = some (.slice y1.a.1 y1.vals.length y1.a.2) := B1.cell 0;  have p1 : w6.cell? ⟨w5.heap.size, 1, none⟩ = some (.slice y1.b.1 y1.unk.length y1.b.2) := B1.cell 1;  have pl := B1.lt;  clear B1;  have B2 := BlkT.new w6 44 #[.slice y2.a.1 y2.vals.length y2.a.2, .slice y2.b.1 y2.unk.length y2.b.2] rfl)
    | (go_at_call 21; refine (H5.out y1 _ hy1 (hs.up (by repeat with_reducible (first | exact Ext.refl _ | refine Ext.alloc ?_ _ | refine Ext.drew ?_ | refine Ext.drewN ?_ _ | refine Ext.setCell ?_ (by first | exact Nat.le_refl _ | omega | (simp; done) | (simp; omega)) _))) (ht1.up (by repeat with_reducible (first | exact Ext.refl _ | refine Ext.alloc ?_ _ | refine Ext.drew ?_ | refine Ext.drewN ?_ _ | refine Ext.setCell ?_ (by first | exact Nat.le_refl _ | omega | (simp; done) | (simp; omega)) _)))).mono ?_; rintro e w7 ⟨A7, n7, c7, rfl, hn7, own7⟩; have X7 : Ext w6 w7 := Ext.trans (by repeat with_reducible (first | exact Ext.refl _ | refine Ext.alloc ?_ _ | refine Ext.drew ?_ | refine Ext.drewN ?_ _ | refine Ext.setCell ?_ (by first | exact Nat.le_refl _ | omega | (simp; done) | (simp; omega)) _)) own7.ext; replace B2 := B2.up own7.ext; have q0 : w7.cell? ⟨w6.heap.size, 0, none⟩ = some (.slice y2.a.1 y2.vals.length y2.a.2) := B2.cell 0; have q1 : w7.cell? ⟨w6.heap.size, 1, none⟩ = some (.slice y2.b.1 y2.unk.length y2.b.2) := B2.cell 1; have ql := B2.lt; clear B2; replace p0 := X7.of_cell p0; replace p1 := X7.of_cell p1; replace pl := Nat.lt_of_lt_of_le pl X7.size; replace hE := hE.trans X7; replace hs := hs.up X7; replace hb := hb.up X7; replace ha := ha.up X7; replace own3 := own3.up X7; replace own4 := own4.up X7; replace ht1 := ht1.up X7; replace ht2 := ht2.up X7)
    | (go_at_call 22; refine (H6.out y1 y2 _ hy1 hy2 (ht1.up (by repeat with_reducible (first | exact Ext.refl _ | refine Ext.alloc ?_ _ | refine Ext.drew ?_ | refine Ext.drewN ?_ _ | refine Ext.setCell ?_ (by first | exact Nat.le_refl _ | omega | (simp; done) | (simp; omega)) _))) (ht2.up (by repeat with_reducible (first | exact Ext.refl _ | refine Ext.alloc ?_ _ | refine Ext.drew ?_ | refine Ext.drewN ?_ _ | refine Ext.setCell ?_ (by first | exact Nat.le_refl _ | omega | (simp; done) | (simp; omega)) _)))).mono ?_; rintro e w8 ⟨rfl, E8⟩; have X8 : Ext w7 w8 := Ext.trans (by repeat with_reducible (first | exact Ext.refl _ | refine Ext.alloc ?_ _ | refine Ext.drew ?_ | refine Ext.drewN ?_ _ | refine Ext.setCell ?_ (by first | exact Nat.le_refl _ | omega | (simp; done) | (simp; omega)) _)) E8; replace p0 := X8.of_cell p0; replace p1 := X8.of_cell p1; replace pl := Nat.lt_of_lt_of_le pl X8.size; replace hE := hE.trans X8; replace hs := hs.up X8; replace hb := hb.up X8; replace ha := ha.up X8; replace own3 := own3.up X8; replace own4 := own4.up X8; replace own7 := own7.up X8; replace ht1 := ht1.up X8)
    | (go_at_call 16; refine (same (own7.bytes.up (by repeat with_reducible (first | exact Ext.refl _ | refine Ext.alloc ?_ _ | refine Ext.drew ?_ | refine Ext.drewN ?_ _ | refine Ext.setCell ?_ (by first | exact Nat.le_refl _ | omega | (simp; done) | (simp; omega)) _))) (own3.bytes.up (by repeat with_reducible (first | exact Ext.refl _ | refine Ext.alloc ?_ _ | refine Ext.drew ?_ | refine Ext.drewN ?_ _ | refine Ext.setCell ?_ (by first | exact Nat.le_refl _ | omega | (simp; done) | (simp; omega)) _)))).mono ?_; rintro e w' ⟨rfl, rfl⟩)
    | (go_at_call 14; refine (H7.out _ _ _ (hs.up (by repeat with_reducible (first | exact Ext.refl _ | refine Ext.alloc ?_ _ | refine Ext.drew ?_ | refine Ext.drewN ?_ _ | refine Ext.setCell ?_ (by first | exact Nat.le_refl _ | omega | (simp; done) | (simp; omega)) _))) (own3.bytes.up (by repeat with_reducible (first | exact Ext.refl _ | refine Ext.alloc ?_ _ | refine Ext.drew ?_ | refine Ext.drewN ?_ _ | refine Ext.setCell ?_ (by first | exact Nat.le_refl _ | omega | (simp; done) | (simp; omega)) _)))).mono ?_; rintro e w9 ⟨rfl, E9⟩; have X9 : Ext w8 w9 := Ext.trans (by repeat with_reducible (first | exact Ext.refl _ | refine Ext.alloc ?_ _ | refine Ext.drew ?_ | refine Ext.drewN ?_ _ | refine Ext.setCell ?_ (by first | exact Nat.le_refl _ | omega | (simp; done) | (simp; omega)) _)) E9; replace p0 := X9.of_cell p0; replace p1 := X9.of_cell p1; replace pl := Nat.lt_of_lt_of_le pl X9.size; replace hE := hE.trans X9; replace hs := hs.up X9; replace hb := hb.up X9; replace ha := ha.up X9; replace own3 := own3.up X9; replace own4 := own4.up X9; replace ht1 := ht1.up X9)
    | (go_at_call 23; refine (H8.out _ _ _ (hs.up (by repeat with_reducible (first | exact Ext.refl _ | refine Ext.alloc ?_ _ | refine Ext.drew ?_ | refine Ext.drewN ?_ _ | refine Ext.setCell ?_ (by first | exact Nat.le_refl _ | omega | (simp; done) | (simp; omega)) _))) (own3.bytes.up (by repeat with_reducible (first | exact Ext.refl _ | refine Ext.alloc ?_ _ | refine Ext.drew ?_ | refine Ext.drewN ?_ _ | refine Ext.setCell ?_ (by first | exact Nat.le_refl _ | omega | (simp; done) | (simp; omega)) _)))).mono ?_; rintro e w10 ⟨rfl, E10⟩; have X10 : Ext w9 w10 := Ext.trans (by repeat with_reducible (first | exact Ext.refl _ | refine Ext.alloc ?_ _ | refine Ext.drew ?_ | refine Ext.drewN ?_ _ | refine Ext.setCell ?_ (by first | exact Nat.le_refl _ | omega | (simp; done) | (simp; omega)) _)) E10; replace p0 := X10.of_cell p0; replace p1 := X10.of_cell p1; replace pl := Nat.lt_of_lt_of_le pl X10.size; replace hE := hE.trans X10; replace hs := hs.up X10; replace hb := hb.up X10; replace ha := ha.up X10; replace own3 := own3.up X10; replace own4 := own4.up X10; replace ht1 := ht1.up X10)
    | (go_at_call 20; (with_reducible refine (H9.out _ (hs.up (by repeat with_reducible (first | exact Ext.refl _ | refine Ext.alloc ?_ _ | refine Ext.drew ?_ | refine Ext.drewN ?_ _ | refine Ext.setCell ?_ (by first | exact Nat.le_refl _ | omega | (simp; done) | (simp; omega)) _))) (hb.up (by repeat with_reducible (first | exact Ext.refl _ | refine Ext.alloc ?_ _ | refine Ext.drew ?_ | refine Ext.drewN ?_ _ | refine Ext.setCell ?_ (by first | exact Nat.le_refl _ | omega | (simp; done) | (simp; omega)) _)))).mono ?_); rintro e w11 ⟨y3, rfl, hy3, ht3, _, E11⟩; clear H9; have X11 : Ext w10 w11 := Ext.trans (by repeat with_reducible (first | exact Ext.refl _ | refine Ext.alloc ?_ _ | refine Ext.drew ?_ | refine Ext.drewN ?_ _ | refine Ext.setCell ?_ (by first | exact Nat.le_refl _ | omega | (simp; done) | (simp; omega)) _)) E11; replace p0 := X11.of_cell p0; replace p1 := X11.of_cell p1; replace pl := Nat.lt_of_lt_of_le pl X11.size; replace hE := hE.trans X11; replace hs := hs.up X11; replace hb := hb.up X11; replace ha := ha.up X11; replace own3 := own3.up X11; replace own4 := own4.up X11; replace ht1 := ht1.up X11; have B3 := BlkT.new w11 44 #[.slice y3.a.1 y3.vals.length y3.a.2, .slice y3.b.1 y3.unk.length y3.b.2] rfl)
    | (go_at_call 24; refine (H10.out _ (hs.up (by repeat with_reducible (first | exact Ext.refl _ | refine Ext.alloc ?_ _ | refine Ext.drew ?_ | refine Ext.drewN ?_ _ | refine Ext.setCell ?_ (by first | exact Nat.le_refl _ | omega | (simp; done) | (simp; omega)) _))) (ha.up (by repeat with_reducible (first | exact Ext.refl _ | refine Ext.alloc ?_ _ | refine Ext.drew ?_ | refine Ext.drewN ?_ _ | refine Ext.setCell ?_ (by first | exact Nat.le_refl _ | omega | (simp; done) | (simp; omega)) _))) (hb.up (by repeat with_reducible (first | exact Ext.refl _ | refine Ext.alloc ?_ _ | refine Ext.drew ?_ | refine Ext.drewN ?_ _ | refine Ext.setCell ?_ (by first | exact Nat.le_refl _ | omega | (simp; done) | (simp; omega)) _)))).mono ?_; rintro e w12 ⟨rfl, E12⟩; have X12 : Ext w11 w12 := Ext.trans (by repeat with_reducible (first | exact Ext.refl _ | refine Ext.alloc ?_ _ | refine Ext.drew ?_ | refine Ext.drewN ?_ _ | refine Ext.setCell ?_ (by first | exact Nat.le_refl _ | omega | (simp; done) | (simp; omega)) _)) E12; replace B3 := B3.up E12; have r0 : w12.cell? ⟨w11.heap.size, 0, none⟩ = some (.slice y3.a.1 y3.vals.length y3.a.2) := B3.cell 0; have r1 : w12.cell? ⟨w11.heap.size, 1, none⟩ = some (.slice y3.b.1 y3.unk.length y3.b.2) := B3.cell 1; have rl := B3.lt; clear B3; replace p0 := X12.of_cell p0; replace p1 := X12.of_cell p1; replace pl := Nat.lt_of_lt_of_le pl X12.size; replace hE := hE.trans X12; replace own3 := own3.up X12; replace own4 := own4.up X12; replace ht1 := ht1.up X12; replace ht3 := ht3.up X12))
  · have X12r : Ext w12 w12 := Ext.refl w12
    go_region_held3 (fun W => Ext w12 W ∧ ∀ b o, b < w12.heap.size → W.cell? ⟨b, o, none⟩ = w12.cell? ⟨b, o, none⟩) ((refine Ext.keep ?_; repeat with_reducible (first | assumption | exact Ext.refl _ | refine Ext.alloc ?_ _ | refine Ext.drew ?_ | refine Ext.drewN ?_ _ | refine Ext.setCell ?_ (by first | exact Nat.le_refl _ | omega | (simp; done) | (simp; omega)) _))) (first
      | (go_split_ands; go_at_call 16; refine (H12.out _ _ _ _ _ (own3.bytes.up (by with_reducible assumption)) (own4.bytes.up (by with_reducible assumption))).mono ?_; rintro e w13 ⟨rfl, rfl⟩)
      | (go_split_ands; go_at_call 22; refine (H11.out y1 y3 _ hy1 hy3 (ht1.up (by with_reducible assumption)) (ht3.up (by with_reducible assumption))).mono ?_; rintro e w14 ⟨rfl, E14⟩; have q14 : Ext w12 w14 := Ext.trans (by with_reducible assumption) E14))
    go_wp2
    go_ret
    exact ⟨by simp, hE.trans (by assumption)⟩
  · go_ret
    exact ⟨rfl, hE⟩

set_option maxRecDepth 100000 in
set_option maxHeartbeats 4000000 in
theorem normStays_walk {A : Option Addr} {n c : Nat} {S : List MsgV} {root : Int} {B D : Option Addr} {n1 c1 n2 c2 : Nat} {xs ys : List UInt8} {d : Int} {w : World} (hs : SchemaAt w A n c S) (hroot : -9223372036854775808 ≤ root ∧ root < 9223372036854775808) (ha : BytesAt w B n1 c1 xs) (sa : c1 * 1 ≤ 140737488351232) (hb : BytesAt w D n2 c2 ys) (sb : c2 * 1 ≤ 140737488351232) (hd : -9223372036854775808 ≤ d ∧ d < 9223372036854775808) :
    Calls Tryz.prog 4 #[.slice A n c, .int .i64 root, .slice B n1 c1, .slice D n2 c2, .int .i64 d] w fun e w' => e = .returned (.bool true) ∧ Ext w w' := by
  have hE := Ext.refl w
  have hcap := Reads.cap ha
  have hcap2 := Reads.cap hb
  have g1 : (n1 : Int) ≤ 140737488351232 := by omega
  have g2 : (n2 : Int) ≤ 140737488351232 := by omega
  have la := ha.length
  have lb := hb.length
  by_cases hn : (1500 : Int) < (n1 : Int) + n2
  · clear hroot hd la lb
    go_enter Tryz.func4, Tryz.ntmps4
    go_wp2_with (first | (go_at_call 8; refine (alive18 _).mono ?_; rintro e w1 ⟨rfl, E1⟩; have X_ : Ext w w1 := Ext.trans (by repeat with_reducible (first | exact Ext.refl _ | refine Ext.alloc ?_ _ | refine Ext.drew ?_ | refine Ext.drewN ?_ _ | refine Ext.setCell ?_ (by first | exact Nat.le_refl _ | omega | (simp; done) | (simp; omega)) _)) E1; replace hE := hE.up X_; replace hs := hs.up X_; clear X_) | (go_at_call 9; refine (few07 hs).mono ?_; rintro e w2 ⟨x, rfl, E2⟩; have X_ : Ext w1 w2 := Ext.trans (by repeat with_reducible (first | exact Ext.refl _ | refine Ext.alloc ?_ _ | refine Ext.drew ?_ | refine Ext.drewN ?_ _ | refine Ext.setCell ?_ (by first | exact Nat.le_refl _ | omega | (simp; done) | (simp; omega)) _)) E2; replace hE := hE.up X_; clear X_))
    all_goals
      go_ret
      exact ⟨rfl, hE⟩
  · by_cases hC : (checkB (S.map MsgV.d) root xs d).2 = 0
    · by_cases hK : (checkB (S.map MsgV.d) root ys d).2 = 0
      · exact normStays_ok hs hroot ha sa hb sb hd hn hC hK
      · exact normStays_half hs hroot ha sa hb sb hd hn hC hK
    · exact normStays_bad hs hroot ha sa hb sb hd hn hC

end Go.Proofs.YtcbpbpeogfbpiaaGreat
