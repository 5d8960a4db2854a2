/- Contracts of layers 16 and 18: the reference's bytes of a right meaning, and of valid bytes. -/
import Derived.Test.YtcbpbpeogfbpiaaGreatQW16s
import Derived.Test.YtcbpbpeogfbpiaaGreatQW14w
import Derived.Test.YtcbpbpeogfbpiaaGreatQW18l
import Derived.Test.YtcbpbpeogfbpiaaGreatQW11r

namespace Go.Proofs.YtcbpbpeogfbpiaaGreat
open Go.RowKit Go.Shelf
set_option linter.unusedVariables false

theorem rEncode {S : List MsgV} (hR : rightS (S.map MsgV.d) = true) : ∀ (d m : Nat) (x : MsgR) (w : World) (A : Option Addr) (n c : Nat), SchemaAt w A n c S → TreeAt w x → RightV (S.map MsgV.d) d m (bare x) → (encV (S.map MsgV.d) d m (bare x)).length ≤ 1000000 →
    Calls Tryz.prog 55 #[.slice A n c, .int .i64 (m : Int), treeV x] w (MakesB (encV (S.map MsgV.d) d m (bare x)) w)
  | 0, m, x, w, A, n, c, hs, hx, hr, hl => by
    have hr' : RightJ (fun _ _ => False) (S.map MsgV.d) m (bare x) := hr
    have e : encV (S.map MsgV.d) 0 m (bare x) = (encC (fun _ _ => []) (S.map MsgV.d) m (bare x)).flatten := by rw [encV]
    rw [e] at hl ⊢
    refine rEncodeM hR hs hx hr' hl (fun v hv M i f hM hf hF hvl W hW => ?_)
    have hMd : (S.map MsgV.d)[m]? = some M.d := by rw [List.getElem?_map, hM]; rfl
    obtain ⟨r2, r3⟩ := right_puts hR hMd hf
    refine rValue ((hx.val hv).up hW) hF r2 r3 hvl (fun h17 y hy => ?_)
    obtain ⟨_, _, _, h4⟩ := hF
    rcases h4 with ⟨q, _⟩ | ⟨_, _, q, _⟩ | ⟨_, _, _, q⟩
    · rw [h17] at q
      exact absurd q (by decide)
    · exact absurd h17 q
    · exact (q (bare y) (List.mem_map_of_mem hy)).elim
  | d + 1, m, x, w, A, n, c, hs, hx, hr, hl => by
    have hr' : RightJ (RightV (S.map MsgV.d) d) (S.map MsgV.d) m (bare x) := hr
    have e : encV (S.map MsgV.d) (d + 1) m (bare x) = (encC (encV (S.map MsgV.d) d) (S.map MsgV.d) m (bare x)).flatten := by rw [encV]
    rw [e] at hl ⊢
    refine rEncodeM hR hs hx hr' hl (fun v hv M i f hM hf hF hvl W hW => ?_)
    have hMd : (S.map MsgV.d)[m]? = some M.d := by rw [List.getElem?_map, hM]; rfl
    obtain ⟨r2, r3⟩ := right_puts hR hMd hf
    refine rValue ((hx.val hv).up hW) hF r2 r3 hvl (fun h17 y hy W' hW' => ?_)
    obtain ⟨o, ho, _⟩ := right_of hR hMd hf h17
    obtain ⟨_, _, _, h4⟩ := hF
    have hy' : bare y ∈ (bareV v).subs := List.mem_map_of_mem hy
    have hq : RightV (S.map MsgV.d) d f.of_.toNat (bare y) := by
      rcases h4 with ⟨q, _⟩ | ⟨_, _, q, _⟩ | ⟨_, _, _, q⟩
      · rw [h17] at q
        exact absurd q (by decide)
      · exact absurd h17 q
      · exact q (bare y) hy'
    have hyl : (encV (S.map MsgV.d) d f.of_.toNat (bare y)).length ≤ 1000000 := by
      have h1 := putB_more f.number (encV (S.map MsgV.d) d f.of_.toNat (bare y))
      have hm : putB f.number 2 (encV (S.map MsgV.d) d f.of_.toNat (bare y)) ∈ valueE (encV (S.map MsgV.d) d) f (bareV v) := by
        unfold valueE
        rw [if_neg (by rw [h17]; decide)]
        exact List.mem_append_right _ (List.mem_map_of_mem (f := fun y => putB f.number 2 (encV (S.map MsgV.d) d f.of_.toNat y)) hy')
      have h2 := mem_flatten_le hm
      omega
    rw [ho, Int.toNat_natCast] at hq hyl ⊢
    exact rEncode hR d o y W' A n c (hs.up (hW.trans hW')) (((hx.val hv).sub y hy).up (hW.trans hW')) hq hyl

set_option maxHeartbeats 1000000 in
theorem rForm {S : List MsgV} {d m : Nat} {A B : Option Addr} {n c n1 c1 : Nat} {bs : List UInt8} {w : World} (hR : rightS (S.map MsgV.d) = true) (hm : m < S.length) (hv : (firstV (S.map MsgV.d) d m bs).2 = 0) (hd : d ≤ 100000) (hs : SchemaAt w A n c S) (hb : BytesAt w B n1 c1 bs) (hn : n1 ≤ 3125) :
    Calls Tryz.prog 15 #[.slice A n c, .int .i64 (m : Int), .slice B n1 c1] w (MakesB (normB (S.map MsgV.d) m bs) w) := by
  have hbl := hb.length
  have h1 := fun W (h : SchemaAt W A n c S) (h2 : BytesAt W B n1 c1 bs) => rOf hR 100000 (Nat.le_refl _) W A n c m B n1 c1 bs h hm h2 (by omega)
  have hr := mean_right hR (bs := bs) (by simpa using hm) hv (by omega)
  have hX : ofV (S.map MsgV.d) 100000 m bs = meanB (S.map MsgV.d) m bs := rfl
  have hl := normB_small hR (m := m) (bs := bs) (by omega)
  have hN : normB (S.map MsgV.d) m bs = encV (S.map MsgV.d) d m (meanB (S.map MsgV.d) m bs) := encV_fuel hR hr hd
  rw [hX] at h1
  rw [hN] at hl ⊢
  generalize meanB (S.map MsgV.d) m bs = X at *
  have h2 : ∀ (y : MsgR) (W : World), bare y = X → SchemaAt W A n c S → TreeAt W y → Calls Tryz.prog 55 #[.slice A n c, .int .i64 (m : Int), treeV y] W (MakesB (encV (S.map MsgV.d) d m X) W) := fun y W q h ht => by
    subst q
    exact rEncode hR d m y W A n c h ht hr (by omega)
  unfold treeV at h1 h2
  generalize encV (S.map MsgV.d) d m X = F at *
  have H1 := Lib.hid h1
  have H2 := Lib.hid h2
  clear h1 h2 hr hX hN
  go_enter Tryz.func15, Tryz.ntmps15
  go_wp2_with (first
    | (go_at_call 45; refine (H1.out _ (hs.up (by repeat with_reducible (first | exact Ext.refl _ | refine Ext.alloc ?_ _ | refine Ext.drew ?_ | refine Ext.drewN ?_ _ | refine Ext.setCell ?_ (by first | exact Nat.le_refl _ | omega | (simp; done) | (simp; omega)) _))) (hb.up (by repeat with_reducible (first | exact Ext.refl _ | refine Ext.alloc ?_ _ | refine Ext.drew ?_ | refine Ext.drewN ?_ _ | refine Ext.setCell ?_ (by first | exact Nat.le_refl _ | omega | (simp; done) | (simp; omega)) _)))).mono ?_; rintro e w1 ⟨y, rfl, hy1, hy2, hy3, E1⟩; have X1 : Ext w w1 := Ext.trans (by repeat with_reducible (first | exact Ext.refl _ | refine Ext.alloc ?_ _ | refine Ext.drew ?_ | refine Ext.drewN ?_ _ | refine Ext.setCell ?_ (by first | exact Nat.le_refl _ | omega | (simp; done) | (simp; omega)) _)) E1)
    | (go_at_call 55; refine (H2.out y _ hy1 (hs.up (X1.trans (by repeat with_reducible (first | exact Ext.refl _ | refine Ext.alloc ?_ _ | refine Ext.drew ?_ | refine Ext.drewN ?_ _ | refine Ext.setCell ?_ (by first | exact Nat.le_refl _ | omega | (simp; done) | (simp; omega)) _)))) (hy2.up (by repeat with_reducible (first | exact Ext.refl _ | refine Ext.alloc ?_ _ | refine Ext.drew ?_ | refine Ext.drewN ?_ _ | refine Ext.setCell ?_ (by first | exact Nat.le_refl _ | omega | (simp; done) | (simp; omega)) _)))).mono ?_; rintro e w2 ⟨A2, n2, c2, rfl, hn2, own2⟩))
  go_ret
  exact ⟨A2, n2, c2, rfl, hn2, own2.since (X1.trans (by repeat with_reducible (first | exact Ext.refl _ | refine Ext.alloc ?_ _ | refine Ext.drew ?_ | refine Ext.drewN ?_ _ | refine Ext.setCell ?_ (by first | exact Nat.le_refl _ | omega | (simp; done) | (simp; omega)) _)))⟩

end Go.Proofs.YtcbpbpeogfbpiaaGreat

/- The walk of the law NormForms, out of its callees' contracts. -/




namespace Go.Proofs.YtcbpbpeogfbpiaaGreat
open Go.RowKit
set_option linter.unusedVariables false

theorem first_neg {xs ys : List UInt8} : (decide (xs = ys)) = decide (firstI xs ys < 0) := by
  unfold firstI
  by_cases h : xs = ys
  · rw [if_pos h, decide_eq_true h, decide_eq_true (by omega)]
  · rw [if_neg h, decide_eq_false h, decide_eq_false (by omega)]

set_option maxRecDepth 100000 in
set_option maxHeartbeats 4000000 in
theorem normForms_ok {A : Option Addr} {n c : Nat} {S : List MsgV} {root : Int} {B : Option Addr} {n1 c1 : Nat} {bs : List UInt8} {d number : Int} {w : World} (hs : SchemaAt w A n c S) (hroot : -9223372036854775808 ≤ root ∧ root < 9223372036854775808) (hb : BytesAt w B n1 c1 bs) (sb : c1 * 1 ≤ 140737488351232) (hd : -9223372036854775808 ≤ d ∧ d < 9223372036854775808) (hnum : -9223372036854775808 ≤ number ∧ number < 9223372036854775808) (hn : ¬ (1500 : Int) < (n1 : Int)) (hC : (checkB (S.map MsgV.d) root bs d).2 = 0) :
    Calls Tryz.prog 3 #[.slice A n c, .int .i64 root, .slice B n1 c1, .int .i64 d, .int .i64 number] w fun e w' => e = .returned (.bool true) ∧ Ext w w' := by
  have hE := Ext.refl w
  have hcap := Reads.cap hb
  have lb := hb.length
  have k1 := checkB_le (S.map MsgV.d) root bs d
  have h0 := fun W (h : SchemaAt W A n c S) (hb : BytesAt W B n1 c1 bs) => nFormB (root := root) (d := d) h hb (by omega)
  have h1 := fun W (h : SchemaAt W A n c S) (hb : BytesAt W B n1 c1 bs) => nFirst (root := root) (d := d) h hb (by omega)
  have h2 := fun W (h : SchemaAt W A n c S) (hb : BytesAt W B n1 c1 bs) => nFieldN (root := root) (d := d) (number := number) h hb (by omega)
  have h3 := fun W (h : SchemaAt W A n c S) (hb : BytesAt W B n1 c1 bs) => vCheckR (root := root) (d := d) h hb (by omega)
  have h4 := fun W (h : SchemaAt W A n c S) (hb : BytesAt W B n1 c1 bs) => nIs (root := root) (d := d) h hb (by omega)
  obtain ⟨hR, r1, r2, e1, e2, v1⟩ := checked_right hC
  obtain ⟨m, rfl⟩ := Int.eq_ofNat_of_zero_le r1
  have hm : m < S.length := by simpa using r2
  have hF : formB (S.map MsgV.d) (m : Int) bs d = normB (S.map MsgV.d) m bs := by unfold formB; rw [if_pos hC]; rfl
  have hl := normB_small hR (m := m) (bs := bs) (by omega)
  have h5 := fun W (h : SchemaAt W A n c S) (hb : BytesAt W B n1 c1 bs) => rForm (d := d.toNat) hR hm v1 (by omega) h hb (by omega)
  rw [hF] at h0 h1 h2 h4
  rw [if_pos hC] at h1 h2
  rw [decide_eq_true hC, first_neg, Bool.true_and] at h4
  rw [hC] at h0 h1 h2
  have h6 := fun W (A9 : Option Addr) (n9 c9 : Nat) (q : Hid (n9 = (normB (S.map MsgV.d) m bs).length)) (h : BytesAt W B n1 c1 bs) (hx : BytesAt W A9 n9 c9 (normB (S.map MsgV.d) m bs)) => rFirst h hx (by omega) (by rw [q.out]; omega)
  have h7 := fun W (A9 : Option Addr) (n9 c9 : Nat) (q : Hid (n9 = (normB (S.map MsgV.d) m bs).length)) (hx : BytesAt W A9 n9 c9 (normB (S.map MsgV.d) m bs)) => rFieldN (number := number) hx (by rw [q.out]; omega)
  generalize recsN number (normB (S.map MsgV.d) m bs) = R at *
  generalize firstI bs (normB (S.map MsgV.d) m bs) = F at *
  generalize normB (S.map MsgV.d) m bs = X at *
  generalize checkB (S.map MsgV.d) (m : Int) bs d = V at *
  obtain ⟨P, C⟩ := V
  simp only at h3 hC
  subst hC
  have z8 : (((0 : Nat) : Int)) = 0 := rfl
  rw [z8] at h0 h1 h2 h3
  clear z8
  have H0 := Lib.hid h0
  have H1 := Lib.hid h1
  have H2 := Lib.hid h2
  have H3 := Lib.hid h3
  have H4 := Lib.hid h4
  have H5 := Lib.hid h5
  have H6 := Lib.hid h6
  have H7 := Lib.hid h7
  clear h0 h1 h2 h3 h4 h5 h6 h7 hF r1 r2 hroot hd k1 v1 hnum
  go_enter Tryz.func3, Tryz.ntmps3
  go_wp2_with (first
    | (go_at_call 8; refine (alive18 _).mono ?_; rintro e w1 ⟨rfl, E1⟩; have X_ : Ext w w1 := Ext.trans (by repeat with_reducible (first | exact Ext.refl _ | refine Ext.alloc ?_ _ | refine Ext.drew ?_ | refine Ext.drewN ?_ _ | refine Ext.setCell ?_ (by first | exact Nat.le_refl _ | omega | (simp; done) | (simp; omega)) _)) E1; replace hE := hE.up X_; replace hs := hs.up X_; replace hb := hb.up X_; clear X_)
    | (go_at_call 9; refine (few07 hs).mono ?_; rintro e w2 ⟨x, rfl, E2⟩; have X_ : Ext w1 w2 := Ext.trans (by repeat with_reducible (first | exact Ext.refl _ | refine Ext.alloc ?_ _ | refine Ext.drew ?_ | refine Ext.drewN ?_ _ | refine Ext.setCell ?_ (by first | exact Nat.le_refl _ | omega | (simp; done) | (simp; omega)) _)) E2; replace hE := hE.up X_; replace hs := hs.up X_; replace hb := hb.up X_; clear X_)
    | (go_at_call 10; refine (H0.out _ (hs.up (by repeat with_reducible (first | exact Ext.refl _ | refine Ext.alloc ?_ _ | refine Ext.drew ?_ | refine Ext.drewN ?_ _ | refine Ext.setCell ?_ (by first | exact Nat.le_refl _ | omega | (simp; done) | (simp; omega)) _))) (hb.up (by repeat with_reducible (first | exact Ext.refl _ | refine Ext.alloc ?_ _ | refine Ext.drew ?_ | refine Ext.drewN ?_ _ | refine Ext.setCell ?_ (by first | exact Nat.le_refl _ | omega | (simp; done) | (simp; omega)) _)))).mono ?_; rintro e w3 ⟨A3, c3, rfl, own3⟩; have X_ : Ext w2 w3 := Ext.trans (by repeat with_reducible (first | exact Ext.refl _ | refine Ext.alloc ?_ _ | refine Ext.drew ?_ | refine Ext.drewN ?_ _ | refine Ext.setCell ?_ (by first | exact Nat.le_refl _ | omega | (simp; done) | (simp; omega)) _)) own3.ext; replace hE := hE.up X_; replace hs := hs.up X_; replace hb := hb.up X_; clear X_)
    | (go_at_call 11; refine (H1.out _ (hs.up (by repeat with_reducible (first | exact Ext.refl _ | refine Ext.alloc ?_ _ | refine Ext.drew ?_ | refine Ext.drewN ?_ _ | refine Ext.setCell ?_ (by first | exact Nat.le_refl _ | omega | (simp; done) | (simp; omega)) _))) (hb.up (by repeat with_reducible (first | exact Ext.refl _ | refine Ext.alloc ?_ _ | refine Ext.drew ?_ | refine Ext.drewN ?_ _ | refine Ext.setCell ?_ (by first | exact Nat.le_refl _ | omega | (simp; done) | (simp; omega)) _)))).mono ?_; rintro e w4 ⟨rfl, E4⟩; have X_ : Ext w3 w4 := Ext.trans (by repeat with_reducible (first | exact Ext.refl _ | refine Ext.alloc ?_ _ | refine Ext.drew ?_ | refine Ext.drewN ?_ _ | refine Ext.setCell ?_ (by first | exact Nat.le_refl _ | omega | (simp; done) | (simp; omega)) _)) E4; replace hE := hE.up X_; replace hs := hs.up X_; replace hb := hb.up X_; replace own3 := own3.up X_; clear X_)
    | (go_at_call 12; refine (H2.out _ (hs.up (by repeat with_reducible (first | exact Ext.refl _ | refine Ext.alloc ?_ _ | refine Ext.drew ?_ | refine Ext.drewN ?_ _ | refine Ext.setCell ?_ (by first | exact Nat.le_refl _ | omega | (simp; done) | (simp; omega)) _))) (hb.up (by repeat with_reducible (first | exact Ext.refl _ | refine Ext.alloc ?_ _ | refine Ext.drew ?_ | refine Ext.drewN ?_ _ | refine Ext.setCell ?_ (by first | exact Nat.le_refl _ | omega | (simp; done) | (simp; omega)) _)))).mono ?_; rintro e w5 ⟨A5, n5, c5, rfl, own5⟩; have X_ : Ext w4 w5 := Ext.trans (by repeat with_reducible (first | exact Ext.refl _ | refine Ext.alloc ?_ _ | refine Ext.drew ?_ | refine Ext.drewN ?_ _ | refine Ext.setCell ?_ (by first | exact Nat.le_refl _ | omega | (simp; done) | (simp; omega)) _)) own5.ext; replace hE := hE.up X_; replace hs := hs.up X_; replace hb := hb.up X_; replace own3 := own3.up X_; clear X_)
    | (go_at_call 13; refine (H3.out _ (hs.up (by repeat with_reducible (first | exact Ext.refl _ | refine Ext.alloc ?_ _ | refine Ext.drew ?_ | refine Ext.drewN ?_ _ | refine Ext.setCell ?_ (by first | exact Nat.le_refl _ | omega | (simp; done) | (simp; omega)) _))) (hb.up (by repeat with_reducible (first | exact Ext.refl _ | refine Ext.alloc ?_ _ | refine Ext.drew ?_ | refine Ext.drewN ?_ _ | refine Ext.setCell ?_ (by first | exact Nat.le_refl _ | omega | (simp; done) | (simp; omega)) _)))).mono ?_; rintro e w6 ⟨rfl, E6⟩; have X_ : Ext w5 w6 := Ext.trans (by repeat with_reducible (first | exact Ext.refl _ | refine Ext.alloc ?_ _ | refine Ext.drew ?_ | refine Ext.drewN ?_ _ | refine Ext.setCell ?_ (by first | exact Nat.le_refl _ | omega | (simp; done) | (simp; omega)) _)) E6; replace hE := hE.up X_; replace hs := hs.up X_; replace hb := hb.up X_; replace own3 := own3.up X_; replace own5 := own5.up X_; clear X_)
    | (go_at_call 15; refine (H5.out _ (hs.up (by repeat with_reducible (first | exact Ext.refl _ | refine Ext.alloc ?_ _ | refine Ext.drew ?_ | refine Ext.drewN ?_ _ | refine Ext.setCell ?_ (by first | exact Nat.le_refl _ | omega | (simp; done) | (simp; omega)) _))) (hb.up (by repeat with_reducible (first | exact Ext.refl _ | refine Ext.alloc ?_ _ | refine Ext.drew ?_ | refine Ext.drewN ?_ _ | refine Ext.setCell ?_ (by first | exact Nat.le_refl _ | omega | (simp; done) | (simp; omega)) _)))).mono ?_; rintro e w7 ⟨A7, n7, c7, rfl, hn7, own7⟩; have X_ : Ext w6 w7 := Ext.trans (by repeat with_reducible (first | exact Ext.refl _ | refine Ext.alloc ?_ _ | refine Ext.drew ?_ | refine Ext.drewN ?_ _ | refine Ext.setCell ?_ (by first | exact Nat.le_refl _ | omega | (simp; done) | (simp; omega)) _)) own7.ext; replace hE := hE.up X_; replace hs := hs.up X_; replace hb := hb.up X_; replace own3 := own3.up X_; replace own5 := own5.up X_; clear X_)
    | (go_at_call 16; (with_reducible refine (same (own3.bytes.up (by repeat with_reducible (first | exact Ext.refl _ | refine Ext.alloc ?_ _ | refine Ext.drew ?_ | refine Ext.drewN ?_ _ | refine Ext.setCell ?_ (by first | exact Nat.le_refl _ | omega | (simp; done) | (simp; omega)) _))) (own7.bytes.up (by repeat with_reducible (first | exact Ext.refl _ | refine Ext.alloc ?_ _ | refine Ext.drew ?_ | refine Ext.drewN ?_ _ | refine Ext.setCell ?_ (by first | exact Nat.le_refl _ | omega | (simp; done) | (simp; omega)) _)))).mono ?_); rintro e w' ⟨rfl, rfl⟩)
    | (go_at_call 17; refine (H6.out _ _ _ _ hn7 (hb.up (by repeat with_reducible (first | exact Ext.refl _ | refine Ext.alloc ?_ _ | refine Ext.drew ?_ | refine Ext.drewN ?_ _ | refine Ext.setCell ?_ (by first | exact Nat.le_refl _ | omega | (simp; done) | (simp; omega)) _))) (own7.bytes.up (by repeat with_reducible (first | exact Ext.refl _ | refine Ext.alloc ?_ _ | refine Ext.drew ?_ | refine Ext.drewN ?_ _ | refine Ext.setCell ?_ (by first | exact Nat.le_refl _ | omega | (simp; done) | (simp; omega)) _)))).mono ?_; rintro e w9 ⟨rfl, E9⟩; have X_ : Ext w7 w9 := Ext.trans (by repeat with_reducible (first | exact Ext.refl _ | refine Ext.alloc ?_ _ | refine Ext.drew ?_ | refine Ext.drewN ?_ _ | refine Ext.setCell ?_ (by first | exact Nat.le_refl _ | omega | (simp; done) | (simp; omega)) _)) E9; replace hE := hE.up X_; replace hs := hs.up X_; replace hb := hb.up X_; replace own5 := own5.up X_; replace own7 := own7.up X_; clear X_)
    | (go_at_call 18; refine (H7.out _ _ _ _ hn7 (own7.bytes.up (by repeat with_reducible (first | exact Ext.refl _ | refine Ext.alloc ?_ _ | refine Ext.drew ?_ | refine Ext.drewN ?_ _ | refine Ext.setCell ?_ (by first | exact Nat.le_refl _ | omega | (simp; done) | (simp; omega)) _)))).mono ?_; rintro e w10 ⟨A10, n10, c10, rfl, own10⟩; have X_ : Ext w9 w10 := Ext.trans (by repeat with_reducible (first | exact Ext.refl _ | refine Ext.alloc ?_ _ | refine Ext.drew ?_ | refine Ext.drewN ?_ _ | refine Ext.setCell ?_ (by first | exact Nat.le_refl _ | omega | (simp; done) | (simp; omega)) _)) own10.ext; replace hE := hE.up X_; replace hs := hs.up X_; replace hb := hb.up X_; replace own5 := own5.up X_; clear X_)
    | (go_at_call 16; (with_reducible refine (same (own5.bytes.up (by repeat with_reducible (first | exact Ext.refl _ | refine Ext.alloc ?_ _ | refine Ext.drew ?_ | refine Ext.drewN ?_ _ | refine Ext.setCell ?_ (by first | exact Nat.le_refl _ | omega | (simp; done) | (simp; omega)) _))) (own10.bytes.up (by repeat with_reducible (first | exact Ext.refl _ | refine Ext.alloc ?_ _ | refine Ext.drew ?_ | refine Ext.drewN ?_ _ | refine Ext.setCell ?_ (by first | exact Nat.le_refl _ | omega | (simp; done) | (simp; omega)) _)))).mono ?_); rintro e w' ⟨rfl, rfl⟩)
    | (go_at_call 14; refine (H4.out _ (hs.up (by repeat with_reducible (first | exact Ext.refl _ | refine Ext.alloc ?_ _ | refine Ext.drew ?_ | refine Ext.drewN ?_ _ | refine Ext.setCell ?_ (by first | exact Nat.le_refl _ | omega | (simp; done) | (simp; omega)) _))) (hb.up (by repeat with_reducible (first | exact Ext.refl _ | refine Ext.alloc ?_ _ | refine Ext.drew ?_ | refine Ext.drewN ?_ _ | refine Ext.setCell ?_ (by first | exact Nat.le_refl _ | omega | (simp; done) | (simp; omega)) _)))).mono ?_; rintro e w12 ⟨rfl, E12⟩; have X_ : Ext w10 w12 := Ext.trans (by repeat with_reducible (first | exact Ext.refl _ | refine Ext.alloc ?_ _ | refine Ext.drew ?_ | refine Ext.drewN ?_ _ | refine Ext.setCell ?_ (by first | exact Nat.le_refl _ | omega | (simp; done) | (simp; omega)) _)) E12; replace hE := hE.up X_; clear X_))
  all_goals
    go_ret
    exact ⟨by simp, hE⟩

set_option maxRecDepth 100000 in
set_option maxHeartbeats 4000000 in
theorem normForms_bad {A : Option Addr} {n c : Nat} {S : List MsgV} {root : Int} {B : Option Addr} {n1 c1 : Nat} {bs : List UInt8} {d number : Int} {w : World} (hs : SchemaAt w A n c S) (hroot : -9223372036854775808 ≤ root ∧ root < 9223372036854775808) (hb : BytesAt w B n1 c1 bs) (sb : c1 * 1 ≤ 140737488351232) (hd : -9223372036854775808 ≤ d ∧ d < 9223372036854775808) (hnum : -9223372036854775808 ≤ number ∧ number < 9223372036854775808) (hn : ¬ (1500 : Int) < (n1 : Int)) (hC : ¬ (checkB (S.map MsgV.d) root bs d).2 = 0) :
    Calls Tryz.prog 3 #[.slice A n c, .int .i64 root, .slice B n1 c1, .int .i64 d, .int .i64 number] w fun e w' => e = .returned (.bool true) ∧ Ext w w' := by
  have hE := Ext.refl w
  have hcap := Reads.cap hb
  have lb := hb.length
  have k1 := checkB_le (S.map MsgV.d) root bs d
  have h0 := fun W (h : SchemaAt W A n c S) (hb : BytesAt W B n1 c1 bs) => nFormB (root := root) (d := d) h hb (by omega)
  have h1 := fun W (h : SchemaAt W A n c S) (hb : BytesAt W B n1 c1 bs) => nFirst (root := root) (d := d) h hb (by omega)
  have h2 := fun W (h : SchemaAt W A n c S) (hb : BytesAt W B n1 c1 bs) => nFieldN (root := root) (d := d) (number := number) h hb (by omega)
  have h3 := fun W (h : SchemaAt W A n c S) (hb : BytesAt W B n1 c1 bs) => vCheckR (root := root) (d := d) h hb (by omega)
  have h4 := fun W (h : SchemaAt W A n c S) (hb : BytesAt W B n1 c1 bs) => nIs (root := root) (d := d) h hb (by omega)
  rw [if_neg hC] at h1 h2
  rw [decide_eq_false hC, Bool.false_and] at h4
  have hF : formB (S.map MsgV.d) root bs d = [] := by unfold formB; rw [if_neg hC]
  rw [hF] at h0
  generalize checkB (S.map MsgV.d) root bs d = V at *
  obtain ⟨P, C⟩ := V
  simp only at h0 h1 h2 h3 hC k1
  have hlei : (C : Int) < 256 := by omega
  have hC0 : ¬ ((C : Int) = 0) := by omega
  have H0 := Lib.hid h0
  have H1 := Lib.hid h1
  have H2 := Lib.hid h2
  have H3 := Lib.hid h3
  have H4 := Lib.hid h4
  clear h0 h1 h2 h3 h4 hF hroot hd k1 hnum
  go_enter Tryz.func3, Tryz.ntmps3
  go_wp2_with (first
    | (go_at_call 8; refine (alive18 _).mono ?_; rintro e w1 ⟨rfl, E1⟩; have X_ : Ext w w1 := Ext.trans (by repeat with_reducible (first | exact Ext.refl _ | refine Ext.alloc ?_ _ | refine Ext.drew ?_ | refine Ext.drewN ?_ _ | refine Ext.setCell ?_ (by first | exact Nat.le_refl _ | omega | (simp; done) | (simp; omega)) _)) E1; replace hE := hE.up X_; replace hs := hs.up X_; replace hb := hb.up X_; clear X_)
    | (go_at_call 9; refine (few07 hs).mono ?_; rintro e w2 ⟨x, rfl, E2⟩; have X_ : Ext w1 w2 := Ext.trans (by repeat with_reducible (first | exact Ext.refl _ | refine Ext.alloc ?_ _ | refine Ext.drew ?_ | refine Ext.drewN ?_ _ | refine Ext.setCell ?_ (by first | exact Nat.le_refl _ | omega | (simp; done) | (simp; omega)) _)) E2; replace hE := hE.up X_; replace hs := hs.up X_; replace hb := hb.up X_; clear X_)
    | (go_at_call 10; refine (H0.out _ (hs.up (by repeat with_reducible (first | exact Ext.refl _ | refine Ext.alloc ?_ _ | refine Ext.drew ?_ | refine Ext.drewN ?_ _ | refine Ext.setCell ?_ (by first | exact Nat.le_refl _ | omega | (simp; done) | (simp; omega)) _))) (hb.up (by repeat with_reducible (first | exact Ext.refl _ | refine Ext.alloc ?_ _ | refine Ext.drew ?_ | refine Ext.drewN ?_ _ | refine Ext.setCell ?_ (by first | exact Nat.le_refl _ | omega | (simp; done) | (simp; omega)) _)))).mono ?_; rintro e w3 ⟨A3, c3, rfl, own3⟩; have X_ : Ext w2 w3 := Ext.trans (by repeat with_reducible (first | exact Ext.refl _ | refine Ext.alloc ?_ _ | refine Ext.drew ?_ | refine Ext.drewN ?_ _ | refine Ext.setCell ?_ (by first | exact Nat.le_refl _ | omega | (simp; done) | (simp; omega)) _)) own3.ext; replace hE := hE.up X_; replace hs := hs.up X_; replace hb := hb.up X_; clear X_)
    | (go_at_call 11; refine (H1.out _ (hs.up (by repeat with_reducible (first | exact Ext.refl _ | refine Ext.alloc ?_ _ | refine Ext.drew ?_ | refine Ext.drewN ?_ _ | refine Ext.setCell ?_ (by first | exact Nat.le_refl _ | omega | (simp; done) | (simp; omega)) _))) (hb.up (by repeat with_reducible (first | exact Ext.refl _ | refine Ext.alloc ?_ _ | refine Ext.drew ?_ | refine Ext.drewN ?_ _ | refine Ext.setCell ?_ (by first | exact Nat.le_refl _ | omega | (simp; done) | (simp; omega)) _)))).mono ?_; rintro e w4 ⟨rfl, E4⟩; have X_ : Ext w3 w4 := Ext.trans (by repeat with_reducible (first | exact Ext.refl _ | refine Ext.alloc ?_ _ | refine Ext.drew ?_ | refine Ext.drewN ?_ _ | refine Ext.setCell ?_ (by first | exact Nat.le_refl _ | omega | (simp; done) | (simp; omega)) _)) E4; replace hE := hE.up X_; replace hs := hs.up X_; replace hb := hb.up X_; replace own3 := own3.up X_; clear X_)
    | (go_at_call 12; refine (H2.out _ (hs.up (by repeat with_reducible (first | exact Ext.refl _ | refine Ext.alloc ?_ _ | refine Ext.drew ?_ | refine Ext.drewN ?_ _ | refine Ext.setCell ?_ (by first | exact Nat.le_refl _ | omega | (simp; done) | (simp; omega)) _))) (hb.up (by repeat with_reducible (first | exact Ext.refl _ | refine Ext.alloc ?_ _ | refine Ext.drew ?_ | refine Ext.drewN ?_ _ | refine Ext.setCell ?_ (by first | exact Nat.le_refl _ | omega | (simp; done) | (simp; omega)) _)))).mono ?_; rintro e w5 ⟨A5, n5, c5, rfl, own5⟩; have hn5 : n5 = 0 := (by have := own5.reads.len; simp at this; omega); subst hn5; have X_ : Ext w4 w5 := Ext.trans (by repeat with_reducible (first | exact Ext.refl _ | refine Ext.alloc ?_ _ | refine Ext.drew ?_ | refine Ext.drewN ?_ _ | refine Ext.setCell ?_ (by first | exact Nat.le_refl _ | omega | (simp; done) | (simp; omega)) _)) own5.ext; replace hE := hE.up X_; replace hs := hs.up X_; replace hb := hb.up X_; replace own3 := own3.up X_; clear X_)
    | (go_at_call 13; refine (H3.out _ (hs.up (by repeat with_reducible (first | exact Ext.refl _ | refine Ext.alloc ?_ _ | refine Ext.drew ?_ | refine Ext.drewN ?_ _ | refine Ext.setCell ?_ (by first | exact Nat.le_refl _ | omega | (simp; done) | (simp; omega)) _))) (hb.up (by repeat with_reducible (first | exact Ext.refl _ | refine Ext.alloc ?_ _ | refine Ext.drew ?_ | refine Ext.drewN ?_ _ | refine Ext.setCell ?_ (by first | exact Nat.le_refl _ | omega | (simp; done) | (simp; omega)) _)))).mono ?_; rintro e w6 ⟨rfl, E6⟩; have X_ : Ext w5 w6 := Ext.trans (by repeat with_reducible (first | exact Ext.refl _ | refine Ext.alloc ?_ _ | refine Ext.drew ?_ | refine Ext.drewN ?_ _ | refine Ext.setCell ?_ (by first | exact Nat.le_refl _ | omega | (simp; done) | (simp; omega)) _)) E6; replace hE := hE.up X_; replace hs := hs.up X_; replace hb := hb.up X_; replace own3 := own3.up X_; replace own5 := own5.up X_; clear X_)
    | (go_at_call 14; refine (H4.out _ (hs.up (by repeat with_reducible (first | exact Ext.refl _ | refine Ext.alloc ?_ _ | refine Ext.drew ?_ | refine Ext.drewN ?_ _ | refine Ext.setCell ?_ (by first | exact Nat.le_refl _ | omega | (simp; done) | (simp; omega)) _))) (hb.up (by repeat with_reducible (first | exact Ext.refl _ | refine Ext.alloc ?_ _ | refine Ext.drew ?_ | refine Ext.drewN ?_ _ | refine Ext.setCell ?_ (by first | exact Nat.le_refl _ | omega | (simp; done) | (simp; omega)) _)))).mono ?_; rintro e w12 ⟨rfl, E12⟩; have X_ : Ext w6 w12 := Ext.trans (by repeat with_reducible (first | exact Ext.refl _ | refine Ext.alloc ?_ _ | refine Ext.drew ?_ | refine Ext.drewN ?_ _ | refine Ext.setCell ?_ (by first | exact Nat.le_refl _ | omega | (simp; done) | (simp; omega)) _)) E12; replace hE := hE.up X_; clear X_))
  all_goals
    go_ret
    exact ⟨by simp, hE⟩

set_option maxRecDepth 100000 in
set_option maxHeartbeats 4000000 in
theorem normForms_walk {A : Option Addr} {n c : Nat} {S : List MsgV} {root : Int} {B : Option Addr} {n1 c1 : Nat} {bs : List UInt8} {d number : Int} {w : World} (hs : SchemaAt w A n c S) (hroot : -9223372036854775808 ≤ root ∧ root < 9223372036854775808) (hb : BytesAt w B n1 c1 bs) (sb : c1 * 1 ≤ 140737488351232) (hd : -9223372036854775808 ≤ d ∧ d < 9223372036854775808) (hnum : -9223372036854775808 ≤ number ∧ number < 9223372036854775808) :
    Calls Tryz.prog 3 #[.slice A n c, .int .i64 root, .slice B n1 c1, .int .i64 d, .int .i64 number] w fun e w' => e = .returned (.bool true) ∧ Ext w w' := by
  have hE := Ext.refl w
  have hcap := Reads.cap hb
  have lb := hb.length
  by_cases hn : (1500 : Int) < (n1 : Int)
  · clear hroot hd lb hnum
    go_enter Tryz.func3, Tryz.ntmps3
    go_wp2_with (first | (go_at_call 8; refine (alive18 _).mono ?_; rintro e w1 ⟨rfl, E1⟩; have X_ : Ext w w1 := Ext.trans (by repeat with_reducible (first | exact Ext.refl _ | refine Ext.alloc ?_ _ | refine Ext.drew ?_ | refine Ext.drewN ?_ _ | refine Ext.setCell ?_ (by first | exact Nat.le_refl _ | omega | (simp; done) | (simp; omega)) _)) E1; replace hE := hE.up X_; replace hs := hs.up X_; clear X_) | (go_at_call 9; refine (few07 hs).mono ?_; rintro e w2 ⟨x, rfl, E2⟩; have X_ : Ext w1 w2 := Ext.trans (by repeat with_reducible (first | exact Ext.refl _ | refine Ext.alloc ?_ _ | refine Ext.drew ?_ | refine Ext.drewN ?_ _ | refine Ext.setCell ?_ (by first | exact Nat.le_refl _ | omega | (simp; done) | (simp; omega)) _)) E2; replace hE := hE.up X_; clear X_))
    all_goals
      go_ret
      exact ⟨rfl, hE⟩
  · by_cases hC : (checkB (S.map MsgV.d) root bs d).2 = 0
    · exact normForms_ok hs hroot hb sb hd hnum hn hC
    · exact normForms_bad hs hroot hb sb hd hnum hn hC

end Go.Proofs.YtcbpbpeogfbpiaaGreat
