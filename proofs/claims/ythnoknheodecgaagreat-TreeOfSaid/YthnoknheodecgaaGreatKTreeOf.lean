/- The walk of the law TreeOf, out of its callees' contracts. -/
import Derived.Test.YthnoknheodecgaaGreatW14w
import Derived.Test.YthnoknheodecgaaGreatW11r
import Derived.Test.YthnoknheodecgaaGreatW14
import Derived.Test.YthnoknheodecgaaGreatW14d
import Derived.Test.YthnoknheodecgaaGreatW14r
namespace Go.Proofs.YthnoknheodecgaaGreat
open Go.RowKit
set_option linter.unusedVariables false

theorem fit_none : FitT 1000000000000 (MsgX.mk () () [] [] : MsgT) := .mk _ (Nat.zero_le _) (Nat.zero_le _) (fun v hv => by cases hv) (fun v hv => by cases hv)

theorem depth_same {τ σ : Type} {x : MsgX τ} {y : MsgX σ} (h : bare x = bare y) : depthI x = depthI y := by
  rw [← depth_bare x, h, depth_bare y]

set_option maxRecDepth 100000 in
set_option maxHeartbeats 4000000 in
theorem treeOf_walk {A : Option Addr} {n c : Nat} {S : List MsgV} {root : Int} {B : Option Addr} {n' c' : Nat} {bs : List UInt8} {d : Int} {w : World} (hs : SchemaAt w A n c S) (hroot : -9223372036854775808 ≤ root ∧ root < 9223372036854775808) (hb : BytesAt w B n' c' bs) (hd : -9223372036854775808 ≤ d ∧ d < 9223372036854775808) :
    Calls Tryz.prog 3 #[.slice A n c, .int .i64 root, .slice B n' c', .int .i64 d] w fun e w' => e = .returned (.bool true) ∧ Ext w w' := by
  have hE := Ext.refl w
  have hcap := Reads.cap hb
  by_cases hn : (1500 : Int) < n'
  · clear hroot hd
    go_enter Tryz.func3, Tryz.ntmps3
    go_wp2_with (first | (go_at_call 9; refine (alive14 _).mono ?_; rintro e w1 ⟨rfl, E1⟩; have X_ : Ext w w1 := Ext.trans (by repeat with_reducible (first | exact Ext.refl _ | refine Ext.alloc ?_ _ | refine Ext.drew ?_ | refine Ext.drewN ?_ _ | refine Ext.setCell ?_ (by first | exact Nat.le_refl _ | omega | (simp; done) | (simp; omega)) _)) E1; replace hE := hE.up X_; replace hs := hs.up X_; clear X_) | (go_at_call 10; refine (few07 hs).mono ?_; rintro e w2 ⟨x, rfl, E2⟩; have X_ : Ext w1 w2 := Ext.trans (by repeat with_reducible (first | exact Ext.refl _ | refine Ext.alloc ?_ _ | refine Ext.drew ?_ | refine Ext.drewN ?_ _ | refine Ext.setCell ?_ (by first | exact Nat.le_refl _ | omega | (simp; done) | (simp; omega)) _)) E2; replace hE := hE.up X_; clear X_))
    all_goals
      go_ret
      exact ⟨rfl, hE⟩
  · have hle := checkB_le (S.map MsgV.d) root bs d
    have h1 := fun W (h : SchemaAt W A n c S) (hb : BytesAt W B n' c' bs) => tOfB (root := root) (d := d) h hb (by omega)
    have h2 := fun W (h : SchemaAt W A n c S) (hb : BytesAt W B n' c' bs) => vCheckR (root := root) (d := d) h hb (by omega)
    by_cases hC : (checkB (S.map MsgV.d) root bs d).2 = 0
    · obtain ⟨hR, r1, r2, _⟩ := check_right hC
      obtain ⟨m, rfl⟩ := Int.eq_ofNat_of_zero_le r1
      have hm : m < S.length := by simpa using r2
      have h3 := fun W (h : SchemaAt W A n c S) (h2 : BytesAt W B n' c' bs) => rOf hR n' (by omega) W A n c m B n' c' bs h hm h2 (Nat.lt_succ_self _)
      have hO : OfT (S.map MsgV.d) (m : Int) bs d = ofV (S.map MsgV.d) n' m bs := by unfold OfT; rw [if_pos hC, hb.length]; rfl
      have hfit : FitT 1000000000000 (ofV (S.map MsgV.d) n' m bs) := fit_of hR _ _ _ (by have := hb.length; omega)
      rw [hO] at h1
      generalize ofV (S.map MsgV.d) n' m bs = X at *
      generalize checkB (S.map MsgV.d) (m : Int) bs d = V at *
      obtain ⟨P, C⟩ := V
      simp only at h1 h2 hC
      subst hC
      unfold treeV at h1 h3
      have z8 : (((0 : Nat) : Int)) = 0 := rfl
      rw [z8] at h1 h2
      clear z8
      have H1 := Lib.hid h1
      have H2 := Lib.hid h2
      have H3 := Lib.hid h3
      have Hfit := Lib.hid hfit
      clear h1 h2 h3 hfit hO r1 r2
      go_enter Tryz.func3, Tryz.ntmps3
      go_wp2_with (first | (go_at_call 9; refine (alive14 _).mono ?_; rintro e w1 ⟨rfl, E1⟩; have X_ : Ext w w1 := Ext.trans (by repeat with_reducible (first | exact Ext.refl _ | refine Ext.alloc ?_ _ | refine Ext.drew ?_ | refine Ext.drewN ?_ _ | refine Ext.setCell ?_ (by first | exact Nat.le_refl _ | omega | (simp; done) | (simp; omega)) _)) E1; replace hE := hE.up X_; replace hs := hs.up X_; replace hb := hb.up X_; clear X_) | (go_at_call 10; refine (few07 hs).mono ?_; rintro e w2 ⟨x, rfl, E2⟩; have X_ : Ext w1 w2 := Ext.trans (by repeat with_reducible (first | exact Ext.refl _ | refine Ext.alloc ?_ _ | refine Ext.drew ?_ | refine Ext.drewN ?_ _ | refine Ext.setCell ?_ (by first | exact Nat.le_refl _ | omega | (simp; done) | (simp; omega)) _)) E2; replace hE := hE.up X_; replace hs := hs.up X_; replace hb := hb.up X_; clear X_) | (go_at_call 11; refine (H1.out _ (hs.up (by repeat with_reducible (first | exact Ext.refl _ | refine Ext.alloc ?_ _ | refine Ext.drew ?_ | refine Ext.drewN ?_ _ | refine Ext.setCell ?_ (by first | exact Nat.le_refl _ | omega | (simp; done) | (simp; omega)) _))) (hb.up (by repeat with_reducible (first | exact Ext.refl _ | refine Ext.alloc ?_ _ | refine Ext.drew ?_ | refine Ext.drewN ?_ _ | refine Ext.setCell ?_ (by first | exact Nat.le_refl _ | omega | (simp; done) | (simp; omega)) _)))).mono ?_; rintro e w3 ⟨y, rfl, hy1, hy2, hy3, E3⟩; have X_ : Ext w2 w3 := Ext.trans (by repeat with_reducible (first | exact Ext.refl _ | refine Ext.alloc ?_ _ | refine Ext.drew ?_ | refine Ext.drewN ?_ _ | refine Ext.setCell ?_ (by first | exact Nat.le_refl _ | omega | (simp; done) | (simp; omega)) _)) E3; replace hE := hE.up X_; replace hs := hs.up X_; replace hb := hb.up X_; clear X_) | (go_at_call 12; refine (H2.out _ (hs.up (by repeat with_reducible (first | exact Ext.refl _ | refine Ext.alloc ?_ _ | refine Ext.drew ?_ | refine Ext.drewN ?_ _ | refine Ext.setCell ?_ (by first | exact Nat.le_refl _ | omega | (simp; done) | (simp; omega)) _))) (hb.up (by repeat with_reducible (first | exact Ext.refl _ | refine Ext.alloc ?_ _ | refine Ext.drew ?_ | refine Ext.drewN ?_ _ | refine Ext.setCell ?_ (by first | exact Nat.le_refl _ | omega | (simp; done) | (simp; omega)) _)))).mono ?_; rintro e w4 ⟨rfl, E4⟩; have X_ : Ext w3 w4 := Ext.trans (by repeat with_reducible (first | exact Ext.refl _ | refine Ext.alloc ?_ _ | refine Ext.drew ?_ | refine Ext.drewN ?_ _ | refine Ext.setCell ?_ (by first | exact Nat.le_refl _ | omega | (simp; done) | (simp; omega)) _)) E4; replace hE := hE.up X_; replace hs := hs.up X_; replace hb := hb.up X_; have X4 := X_; clear X_) | (go_at_call 15; refine (H3.out _ (hs.up (by repeat with_reducible (first | exact Ext.refl _ | refine Ext.alloc ?_ _ | refine Ext.drew ?_ | refine Ext.drewN ?_ _ | refine Ext.setCell ?_ (by first | exact Nat.le_refl _ | omega | (simp; done) | (simp; omega)) _))) (hb.up (by repeat with_reducible (first | exact Ext.refl _ | refine Ext.alloc ?_ _ | refine Ext.drew ?_ | refine Ext.drewN ?_ _ | refine Ext.setCell ?_ (by first | exact Nat.le_refl _ | omega | (simp; done) | (simp; omega)) _)))).mono ?_; rintro e w5 ⟨z, rfl, hz1, hz2, hz3, E5⟩; have X_ : Ext w4 w5 := Ext.trans (by repeat with_reducible (first | exact Ext.refl _ | refine Ext.alloc ?_ _ | refine Ext.drew ?_ | refine Ext.drewN ?_ _ | refine Ext.setCell ?_ (by first | exact Nat.le_refl _ | omega | (simp; done) | (simp; omega)) _)) E5; replace hE := hE.up X_; have X5 := X_; clear X_))
      · have BY := ((BlkT.new w3 30 #[.slice y.a.1 y.vals.length y.a.2, .slice y.b.1 y.unk.length y.b.2] rfl).up E4).up E5
        have BZ := BlkT.new w5 39 #[.slice z.a.1 z.vals.length z.a.2, .slice z.b.1 z.unk.length z.b.2] rfl
        have hyx := ((hy2.up X4).up X5).up ((Ext.refl w5).alloc (.cells #[.slice z.a.1 z.vals.length z.a.2, .slice z.b.1 z.unk.length z.b.2] 39))
        have hzx := hz2.up ((Ext.refl w5).alloc (.cells #[.slice z.a.1 z.vals.length z.a.2, .slice z.b.1 z.unk.length z.b.2] 39))
        have BYx := BY.alloc (.cells #[.slice z.a.1 z.vals.length z.a.2, .slice z.b.1 z.unk.length z.b.2] 39)
        have hEx := hE.alloc (.cells #[.slice z.a.1 z.vals.length z.a.2, .slice z.b.1 z.unk.length z.b.2] 39)
        clear BY hE hy2 hz2 hy3 hz3 hs hb
        generalize w5.alloc (.cells #[.slice z.a.1 z.vals.length z.a.2, .slice z.b.1 z.unk.length z.b.2] 39) = wx at *
        have c0 : wx.cell? ⟨w3.heap.size, 0, none⟩ = some (.slice y.a.1 y.vals.length y.a.2) := BYx.cell 0
        have c1 : wx.cell? ⟨w3.heap.size, 1, none⟩ = some (.slice y.b.1 y.unk.length y.b.2) := BYx.cell 1
        have cl := BYx.lt
        have d0 : wx.cell? ⟨w5.heap.size, 0, none⟩ = some (.slice z.a.1 z.vals.length z.a.2) := BZ.cell 0
        have d1 : wx.cell? ⟨w5.heap.size, 1, none⟩ = some (.slice z.b.1 z.unk.length z.b.2) := BZ.cell 1
        have dl := BZ.lt
        have hof := fun W (h : Ext wx W) => tOf y W (hyx.up h) (FitT.of_bare y (by rw [hy1]; exact Hfit.out))
        have hdp := fun W (h : Ext wx W) => tDepth y W (hyx.up h)
        have hdr := fun W (h : Ext wx W) => rDepth z W (hzx.up h)
        have hsm : ∀ (y' : MsgR) (W : World), bare y' = bare y → TreeAt W y' → Ext wx W → Calls Tryz.prog 13 #[treeV y', treeV z] W fun e w' => e = .returned (.bool true) ∧ Ext W w' := fun y' W q1 q2 q3 => by
          have := rSame y' z W q2 (hzx.up q3)
          rw [eqB_yes (q1.trans (hy1.trans hz1.symm))] at this
          exact this
        have hdd : depthI y = depthI z := depth_same (hy1.trans hz1.symm)
        rw [hdd] at hdp
        generalize depthI z = D at *
        unfold treeV at hof hdp hdr hsm
        have Hof := Lib.hid hof
        have Hdp := Lib.hid hdp
        have Hdr := Lib.hid hdr
        have Hsm := Lib.hid hsm
        clear hof hdp hdr hsm hdd BYx BZ hyx hzx E4 E5 X4 X5
        go_region_held3 (fun W => Ext wx W ∧ ∀ b o, b < wx.heap.size → W.cell? ⟨b, o, none⟩ = wx.cell? ⟨b, o, none⟩) ((refine Ext.keep ?_; repeat with_reducible (first | assumption | exact Ext.refl _ | refine Ext.alloc ?_ _ | refine Ext.drew ?_ | refine Ext.drewN ?_ _ | refine Ext.setCell ?_ (by first | exact Nat.le_refl _ | omega | (simp; done) | (simp; omega)) _))) (first
          | (go_split_ands; go_at_call 14; refine (Hof.out _ (by with_reducible assumption)).mono ?_; rintro e w6 ⟨y', rfl, q1, q2, q3, E6⟩; have q6 : Ext wx w6 := Ext.trans (by with_reducible assumption) E6)
          | (go_split_ands; go_at_call 13; refine (Hsm.out _ _ q1 q2 (by with_reducible assumption)).mono ?_; rintro e w7 ⟨rfl, E7⟩; have q7 : Ext wx w7 := Ext.trans (by with_reducible assumption) E7)
          | (go_split_ands; go_at_call 16; refine (Hdp.out _ (by with_reducible assumption)).mono ?_; rintro e w8 ⟨rfl, E8⟩; have q8 : Ext wx w8 := Ext.trans (by with_reducible assumption) E8)
          | (go_split_ands; go_at_call 17; refine (Hdr.out _ (by with_reducible assumption)).mono ?_; rintro e w9 ⟨rfl, E9⟩; have q9 : Ext wx w9 := Ext.trans (by with_reducible assumption) E9))
        go_wp2
        go_ret
        exact ⟨by simp, hEx.trans (by assumption)⟩
      · go_ret
        exact ⟨rfl, hE⟩
    · have hO : OfT (S.map MsgV.d) root bs d = .mk () () [] [] := if_neg hC
      rw [hO] at h1
      generalize checkB (S.map MsgV.d) root bs d = V at *
      obtain ⟨P, C⟩ := V
      simp only at h1 h2 hC hle
      unfold treeV at h1
      have hlei : (C : Int) < 256 := by omega
      have hC0 : ¬ ((C : Int) = 0) := by omega
      have H1 := Lib.hid h1
      have H2 := Lib.hid h2
      clear h1 h2 hO
      go_enter Tryz.func3, Tryz.ntmps3
      go_wp2_with (first
        | (go_at_call 9; refine (alive14 _).mono ?_; rintro e w1 ⟨rfl, E1⟩; have X_ : Ext w w1 := Ext.trans (by repeat with_reducible (first | exact Ext.refl _ | refine Ext.alloc ?_ _ | refine Ext.drew ?_ | refine Ext.drewN ?_ _ | refine Ext.setCell ?_ (by first | exact Nat.le_refl _ | omega | (simp; done) | (simp; omega)) _)) E1; replace hE := hE.up X_; replace hs := hs.up X_; replace hb := hb.up X_; clear X_) | (go_at_call 10; refine (few07 hs).mono ?_; rintro e w2 ⟨x, rfl, E2⟩; have X_ : Ext w1 w2 := Ext.trans (by repeat with_reducible (first | exact Ext.refl _ | refine Ext.alloc ?_ _ | refine Ext.drew ?_ | refine Ext.drewN ?_ _ | refine Ext.setCell ?_ (by first | exact Nat.le_refl _ | omega | (simp; done) | (simp; omega)) _)) E2; replace hE := hE.up X_; replace hs := hs.up X_; replace hb := hb.up X_; clear X_) | (go_at_call 11; refine (H1.out _ (hs.up (by repeat with_reducible (first | exact Ext.refl _ | refine Ext.alloc ?_ _ | refine Ext.drew ?_ | refine Ext.drewN ?_ _ | refine Ext.setCell ?_ (by first | exact Nat.le_refl _ | omega | (simp; done) | (simp; omega)) _))) (hb.up (by repeat with_reducible (first | exact Ext.refl _ | refine Ext.alloc ?_ _ | refine Ext.drew ?_ | refine Ext.drewN ?_ _ | refine Ext.setCell ?_ (by first | exact Nat.le_refl _ | omega | (simp; done) | (simp; omega)) _)))).mono ?_; rintro e w3 ⟨y, rfl, hy1, hy2, hy3, E3⟩; have X_ : Ext w2 w3 := Ext.trans (by repeat with_reducible (first | exact Ext.refl _ | refine Ext.alloc ?_ _ | refine Ext.drew ?_ | refine Ext.drewN ?_ _ | refine Ext.setCell ?_ (by first | exact Nat.le_refl _ | omega | (simp; done) | (simp; omega)) _)) E3; replace hE := hE.up X_; replace hs := hs.up X_; replace hb := hb.up X_; clear X_)
        | (go_at_call 12; refine (H2.out _ (hs.up (by repeat with_reducible (first | exact Ext.refl _ | refine Ext.alloc ?_ _ | refine Ext.drew ?_ | refine Ext.drewN ?_ _ | refine Ext.setCell ?_ (by first | exact Nat.le_refl _ | omega | (simp; done) | (simp; omega)) _))) (hb.up (by repeat with_reducible (first | exact Ext.refl _ | refine Ext.alloc ?_ _ | refine Ext.drew ?_ | refine Ext.drewN ?_ _ | refine Ext.setCell ?_ (by first | exact Nat.le_refl _ | omega | (simp; done) | (simp; omega)) _)))).mono ?_; rintro e w4 ⟨rfl, E4⟩; have X4 : Ext w3 w4 := Ext.trans (by repeat with_reducible (first | exact Ext.refl _ | refine Ext.alloc ?_ _ | refine Ext.drew ?_ | refine Ext.drewN ?_ _ | refine Ext.setCell ?_ (by first | exact Nat.le_refl _ | omega | (simp; done) | (simp; omega)) _)) E4; have BY := (BlkT.new w3 30 #[.slice y.a.1 y.vals.length y.a.2, .slice y.b.1 y.unk.length y.b.2] rfl).up E4; have c0 : w4.cell? ⟨w3.heap.size, 0, none⟩ = some (.slice y.a.1 y.vals.length y.a.2) := BY.cell 0; have c1 : w4.cell? ⟨w3.heap.size, 1, none⟩ = some (.slice y.b.1 y.unk.length y.b.2) := BY.cell 1; have cl := BY.lt; have hof := tOf y w4 (hy2.up X4) (FitT.of_bare y (by rw [hy1]; exact fit_none)); unfold treeV at hof; have Hof := Lib.hid hof; clear hof)
        | (go_at_call 14; refine Hof.out.mono ?_; rintro e w6 ⟨y', rfl, q1, q2, q3, E6⟩; have hsm := rSame y' (.mk (none, 0) (none, 0) [] []) w6 q2 (treeAt_none w6); rw [eqB_yes (q1.trans (hy1.trans bare_none.symm))] at hsm; unfold treeV at hsm; have Hsm := Lib.hid hsm; clear hsm)
        | (go_at_call 13; refine Hsm.out.mono ?_; rintro e w7 ⟨rfl, E7⟩))
      · go_ret
        exact ⟨rfl, ((hE.trans X4).trans E6).trans E7⟩
      · go_ret
        exact ⟨rfl, hE⟩

end Go.Proofs.YthnoknheodecgaaGreat
