/- The walk of the law TreeMeans, out of its callees' contracts. -/
import Derived.Test.YtcbpbpeogfbpiaaTS18
import Derived.Test.YtcbpbpeogfbpiaaTS25
import Derived.Test.YtcbpbpeogfbpiaaTW23
import Derived.Test.YtcbpbpeogfbpiaaTW14w
import Derived.Test.YtcbpbpeogfbpiaaTW14
import Derived.Test.YtcbpbpeogfbpiaaTW14s

namespace Go.Proofs.Ytcbpbpeogfbpiaa
open Go.RowKit Go.Shelf
set_option linter.unusedVariables false

/-- A meaning as a value, its lengths named. -/
def treeN (y : MsgR) (m u : Nat) : Value := .agg #[.slice y.a.1 m y.a.2, .slice y.b.1 u y.b.2]

theorem treeN_eq {y : MsgR} {M : MsgT} (h : bare y = M) {m u : Nat} (hm : M.vals.length = m) (hu : M.unk.length = u) : treeV y = treeN y m u := by
  have h1 : y.vals.length = m := by rw [← hm, ← h, bare_eq]; exact (List.length_map _).symm
  have h2 : y.unk.length = u := by rw [← hu, ← h, bare_eq]; rfl
  unfold treeV treeN
  rw [h1, h2]

theorem of_mean2 {S : List MsgD} {m : Nat} {bs : List UInt8} {d : Int} (hC : (checkB S (m : Int) bs d).2 = 0) (hb : bs.length ≤ 100000) : OfT S (m : Int) bs d = meanB S m bs := by
  unfold OfT meanB
  rw [if_pos hC, Int.toNat_natCast]
  exact ofV_fuel S _ _ m bs (Nat.le_refl _) hb

set_option maxRecDepth 100000 in
set_option maxHeartbeats 4000000 in
theorem treeMeans_long {A : Option Addr} {n c : Nat} {S : List MsgV} {root : Int} {B : Option Addr} {n1 c1 : Nat} {xs : List UInt8} {d : Int} {w : World} (hs : SchemaAt w A n c S) (hroot : -9223372036854775808 ≤ root ∧ root < 9223372036854775808) (ha : BytesAt w B n1 c1 xs) (sa : c1 * 1 ≤ 140737488351232) (hd : -9223372036854775808 ≤ d ∧ d < 9223372036854775808) (hn : (1500 : Int) < (n1 : Int)) :
    Calls Try.prog 4 #[.slice A n c, .int .i64 root, .slice B n1 c1, .int .i64 d] w fun e w' => e = .returned (.bool true) ∧ Ext w w' := by
  have hE := Ext.refl w
  have hcap := Reads.cap ha
  go_enter Try.func4, Try.ntmps4
  go_wp2_with (first | (go_at_call 9; refine (alive14 _).mono ?_; rintro e w1 ⟨rfl, E1⟩; have X_ : Ext w w1 := Ext.trans (by repeat with_reducible (first | exact Ext.refl _ | refine Ext.alloc ?_ _ | refine Ext.drew ?_ | refine Ext.drewN ?_ _ | refine Ext.setCell ?_ (by first | exact Nat.le_refl _ | omega | (simp; done) | (simp; omega)) _)) E1; replace hE := hE.up X_; replace hs := hs.up X_; clear X_) | (go_at_call 6; refine (few07 hs).mono ?_; rintro e w2 ⟨x, rfl, E2⟩; have X_ : Ext w1 w2 := Ext.trans (by repeat with_reducible (first | exact Ext.refl _ | refine Ext.alloc ?_ _ | refine Ext.drew ?_ | refine Ext.drewN ?_ _ | refine Ext.setCell ?_ (by first | exact Nat.le_refl _ | omega | (simp; done) | (simp; omega)) _)) E2; replace hE := hE.up X_; clear X_))
  all_goals
    go_ret
    exact ⟨rfl, hE⟩

set_option maxRecDepth 100000 in
set_option maxHeartbeats 4000000 in
theorem treeMeans_bad {A : Option Addr} {n c : Nat} {S : List MsgV} {root : Int} {B : Option Addr} {n1 c1 : Nat} {xs : List UInt8} {d : Int} {w : World} (hs : SchemaAt w A n c S) (hroot : -9223372036854775808 ≤ root ∧ root < 9223372036854775808) (ha : BytesAt w B n1 c1 xs) (sa : c1 * 1 ≤ 140737488351232) (hd : -9223372036854775808 ≤ d ∧ d < 9223372036854775808) (hn : ¬ (1500 : Int) < (n1 : Int)) (hC : ¬ (checkB (S.map MsgV.d) root xs d).2 = 0) :
    Calls Try.prog 4 #[.slice A n c, .int .i64 root, .slice B n1 c1, .int .i64 d] w fun e w' => e = .returned (.bool true) ∧ Ext w w' := by
  have hE := Ext.refl w
  have hcap := Reads.cap ha
  have k1 := checkB_le (S.map MsgV.d) root xs d
  have h1 := fun W (h : SchemaAt W A n c S) (q : BytesAt W B n1 c1 xs) => tOfB (root := root) (d := d) h q (by omega)
  have h3 := fun W (h : SchemaAt W A n c S) (q : BytesAt W B n1 c1 xs) => vIs (root := root) (d := d) h q (by omega)
  rw [show validB (S.map MsgV.d) root xs d = false by unfold validB; exact decide_eq_false hC] at h3
  generalize OfT (S.map MsgV.d) root xs d = M at *
  generalize checkB (S.map MsgV.d) root xs d = V at *
  obtain ⟨P, C⟩ := V
  simp only at h1 hC k1
  have hCi : (C : Int) < 256 := by omega
  have hC0 : ¬ ((C : Int) = 0) := by omega
  unfold treeV at h1
  have H1 := Lib.hid h1
  have H3 := Lib.hid h3
  clear h1 h3 hroot hd k1
  go_enter Try.func4, Try.ntmps4
  go_wp2_with (first
    | (go_at_call 9; refine (alive14 _).mono ?_; rintro e w1 ⟨rfl, E1⟩; have X_ : Ext w w1 := Ext.trans (by repeat with_reducible (first | exact Ext.refl _ | refine Ext.alloc ?_ _ | refine Ext.drew ?_ | refine Ext.drewN ?_ _ | refine Ext.setCell ?_ (by first | exact Nat.le_refl _ | omega | (simp; done) | (simp; omega)) _)) E1; replace hE := hE.up X_; replace hs := hs.up X_; replace ha := ha.up X_; clear X_)
    | (go_at_call 6; refine (few07 hs).mono ?_; rintro e w2 ⟨x, rfl, E2⟩; have X_ : Ext w1 w2 := Ext.trans (by repeat with_reducible (first | exact Ext.refl _ | refine Ext.alloc ?_ _ | refine Ext.drew ?_ | refine Ext.drewN ?_ _ | refine Ext.setCell ?_ (by first | exact Nat.le_refl _ | omega | (simp; done) | (simp; omega)) _)) E2; replace hE := hE.up X_; replace hs := hs.up X_; replace ha := ha.up X_; clear X_)
    | (go_at_call 10; refine (H1.out _ (hs.up (by repeat with_reducible (first | exact Ext.refl _ | refine Ext.alloc ?_ _ | refine Ext.drew ?_ | refine Ext.drewN ?_ _ | refine Ext.setCell ?_ (by first | exact Nat.le_refl _ | omega | (simp; done) | (simp; omega)) _))) (ha.up (by repeat with_reducible (first | exact Ext.refl _ | refine Ext.alloc ?_ _ | refine Ext.drew ?_ | refine Ext.drewN ?_ _ | refine Ext.setCell ?_ (by first | exact Nat.le_refl _ | omega | (simp; done) | (simp; omega)) _)))).mono ?_; rintro e w3 ⟨y, rfl, _, _, _, E3⟩; have X_ : Ext w2 w3 := Ext.trans (by repeat with_reducible (first | exact Ext.refl _ | refine Ext.alloc ?_ _ | refine Ext.drew ?_ | refine Ext.drewN ?_ _ | refine Ext.setCell ?_ (by first | exact Nat.le_refl _ | omega | (simp; done) | (simp; omega)) _)) E3; replace hE := hE.up X_; replace hs := hs.up X_; replace ha := ha.up X_; clear X_)
    | (go_at_call 11; refine (H3.out _ (hs.up (by repeat with_reducible (first | exact Ext.refl _ | refine Ext.alloc ?_ _ | refine Ext.drew ?_ | refine Ext.drewN ?_ _ | refine Ext.setCell ?_ (by first | exact Nat.le_refl _ | omega | (simp; done) | (simp; omega)) _))) (ha.up (by repeat with_reducible (first | exact Ext.refl _ | refine Ext.alloc ?_ _ | refine Ext.drew ?_ | refine Ext.drewN ?_ _ | refine Ext.setCell ?_ (by first | exact Nat.le_refl _ | omega | (simp; done) | (simp; omega)) _)))).mono ?_; rintro e w5 ⟨rfl, E5⟩; have X_ : Ext w3 w5 := Ext.trans (by repeat with_reducible (first | exact Ext.refl _ | refine Ext.alloc ?_ _ | refine Ext.drew ?_ | refine Ext.drewN ?_ _ | refine Ext.setCell ?_ (by first | exact Nat.le_refl _ | omega | (simp; done) | (simp; omega)) _)) E5; replace hE := hE.up X_; clear X_))
  all_goals
    go_ret
    exact ⟨by simp, hE⟩

set_option maxRecDepth 100000 in
set_option maxHeartbeats 4000000 in
theorem treeMeans_good {A : Option Addr} {n c : Nat} {S : List MsgV} {m : Nat} {B : Option Addr} {n1 c1 : Nat} {xs : List UInt8} {d : Int} {w : World} (hs : SchemaAt w A n c S) (ha : BytesAt w B n1 c1 xs) (sa : c1 * 1 ≤ 140737488351232) (hn : ¬ (1500 : Int) < (n1 : Int)) (hC : (checkB (S.map MsgV.d) (m : Int) xs d).2 = 0) :
    Calls Try.prog 4 #[.slice A n c, .int .i64 (m : Int), .slice B n1 c1, .int .i64 d] w fun e w' => e = .returned (.bool true) ∧ Ext w w' := by
  have hE := Ext.refl w
  have hcap := Reads.cap ha
  have la := ha.length
  obtain ⟨hR, r1, r2, e1, e2, v1⟩ := check_right hC
  rw [Int.toNat_natCast] at v1
  have hm : m < (S.map MsgV.d).length := by omega
  have hval : validB (S.map MsgV.d) (m : Int) xs d = true := by unfold validB; exact decide_eq_true hC
  obtain ⟨hD, _, hC64⟩ := depth_of hval
  have v64 : (firstV (S.map MsgV.d) 64 m xs).2 = 0 := (check_right hC64).2.2.2.2.2
  rw [Int.toNat_natCast] at hD
  have hCC : (checkB (S.map MsgV.d) (m : Int) (xs ++ xs) d).2 = 0 := by
    have := valid_both (b := xs) hval
    rw [hval] at this
    unfold validB at this
    exact of_decide_eq_true this
  have hfit : FitT 1000000000000 (meanB (S.map MsgV.d) m xs) := fit_of hR _ _ _ (by omega)
  have htxt : TextsT 1000000000 (meanB (S.map MsgV.d) m xs) := texts_of _ _ _ (by omega)
  have hright : RI (S.map MsgV.d) (m : Int) (meanB (S.map MsgV.d) m xs) := ⟨by omega, d.toNat, by rw [Int.toNat_natCast]; exact mean_right hR hm v1 (by omega)⟩
  obtain ⟨hd0, hdd⟩ := mean_depth hR hm v64 (by decide) (by omega)
  have hdp := (firstV_mono (S.map MsgV.d) 64 64 m xs (Nat.le_refl _) v64).2.2
  obtain ⟨t1, t2⟩ := mean_twice hR hm v1 (by omega)
  have hM64 := hfit.vals
  have hU64 := hfit.unk
  have h1 : ∀ W, SchemaAt W A n c S → BytesAt W B n1 c1 xs → Calls Try.prog 10 #[.slice A n c, .int .i64 (m : Int), .slice B n1 c1, .int .i64 d] W fun e w' => ∃ y, e = .returned (.tuple #[treeN y (meanB (S.map MsgV.d) m xs).vals.length (meanB (S.map MsgV.d) m xs).unk.length, .int .u8 0]) ∧ bare y = meanB (S.map MsgV.d) m xs ∧ TreeAt w' y ∧ Ext W w' := fun W h q => by
    refine (tOfB (root := (m : Int)) (d := d) h q (by omega)).mono ?_
    rintro e w' ⟨y, rfl, q1, q2, _, q4⟩
    rw [of_mean2 hC (by omega)] at q1
    refine ⟨y, ?_, q1, q2, q4⟩
    rw [hC, treeN_eq q1 rfl rfl]
    rfl
  have h2 : ∀ W (A9 : Option Addr) (c9 : Nat), SchemaAt W A n c S → BytesAt W A9 (n1 + n1) c9 (xs ++ xs) → Calls Try.prog 10 #[.slice A n c, .int .i64 (m : Int), .slice A9 (n1 + n1) c9, .int .i64 d] W fun e w' => ∃ y, e = .returned (.tuple #[treeN y (meanB (S.map MsgV.d) m xs).vals.length (2 * (meanB (S.map MsgV.d) m xs).unk.length), .int .u8 0]) ∧ bare y = meanB (S.map MsgV.d) m (xs ++ xs) ∧ TreeAt w' y ∧ Ext W w' := fun W A9 c9 h q => by
    refine (tOfB (root := (m : Int)) (d := d) h q (by omega)).mono ?_
    rintro e w' ⟨y, rfl, q1, q2, _, q4⟩
    rw [of_mean2 hCC (by rw [List.length_append]; omega)] at q1
    refine ⟨y, ?_, q1, q2, q4⟩
    have hl := congrArg List.length t1
    rw [List.length_map, List.length_map] at hl
    rw [hCC, treeN_eq q1 hl t2]
    rfl
  have h3 := fun W (h : SchemaAt W A n c S) (q : BytesAt W B n1 c1 xs) => vDepth (root := (m : Int)) h q (by omega)
  rw [hD] at h3
  simp only at h3
  have h4 : ∀ (y : MsgR) (W : World), bare y = meanB (S.map MsgV.d) m xs → SchemaAt W A n c S → TreeAt W y → Calls Try.prog 13 #[.slice A n c, .int .i64 (m : Int), treeN y (meanB (S.map MsgV.d) m xs).vals.length (meanB (S.map MsgV.d) m xs).unk.length] W fun e w' => e = .returned (.bool true) ∧ Ext W w' := fun y W q h t => by
    have := tRightS (root := (m : Int)) h t (FitT.of_bare y (by rw [q]; exact hfit)) (TextsT.of_bare y (by rw [q]; exact htxt))
    rw [hR, q, eqB_yes hright, treeN_eq q rfl rfl] at this
    exact this
  have h5 : ∀ (y : MsgR) (W : World), bare y = meanB (S.map MsgV.d) m xs → TreeAt W y → Calls Try.prog 14 #[treeN y (meanB (S.map MsgV.d) m xs).vals.length (meanB (S.map MsgV.d) m xs).unk.length] W fun e w' => e = .returned (.int .i64 (depthI (meanB (S.map MsgV.d) m xs))) ∧ Ext W w' := fun y W q t => by
    have := tDepth y W t
    rw [← depth_bare, q, treeN_eq q rfl rfl] at this
    exact this
  have h6 : ∀ (y : MsgR) (W : World), bare y = meanB (S.map MsgV.d) m xs → TreeAt W y → Calls Try.prog 16 #[treeN y (meanB (S.map MsgV.d) m xs).vals.length (meanB (S.map MsgV.d) m xs).unk.length] W fun e w' => ∃ z, e = .returned (treeN z (meanB (S.map MsgV.d) m xs).vals.length (meanB (S.map MsgV.d) m xs).unk.length) ∧ bare z = meanB (S.map MsgV.d) m xs ∧ TreeAt w' z ∧ Ext W w' := fun y W q t => by
    have := tCopy y W t (FitT.of_bare y (by rw [q]; exact hfit))
    rw [treeN_eq q rfl rfl] at this
    refine this.mono ?_
    rintro e w' ⟨z, rfl, q1, q2, _, q4⟩
    rw [q] at q1
    exact ⟨z, by rw [treeN_eq q1 rfl rfl], q1, q2, q4⟩
  have h7 : ∀ (y z : MsgR) (W : World), bare y = meanB (S.map MsgV.d) m xs → bare z = meanB (S.map MsgV.d) m xs → TreeAt W y → TreeAt W z → Calls Try.prog 15 #[treeN y (meanB (S.map MsgV.d) m xs).vals.length (meanB (S.map MsgV.d) m xs).unk.length, treeN z (meanB (S.map MsgV.d) m xs).vals.length (meanB (S.map MsgV.d) m xs).unk.length] W fun e w' => e = .returned (.bool true) ∧ Ext W w' := fun y z W q1 q2 k1 k2 => by
    have := tSame y z W k1 k2
    rw [q1, q2, eqB_yes rfl, treeN_eq q1 rfl rfl, treeN_eq q2 rfl rfl] at this
    exact this
  generalize depthI (meanB (S.map MsgV.d) m xs) = dI at *
  generalize deepV (S.map MsgV.d) 64 m xs = dV at *
  generalize meanB (S.map MsgV.d) m (xs ++ xs) = M2 at *
  generalize meanB (S.map MsgV.d) m xs = M at *
  obtain ⟨ml, hml⟩ : ∃ ml, ml = M.vals.length := ⟨_, rfl⟩
  obtain ⟨ul, hul⟩ : ∃ ul, ul = M.unk.length := ⟨_, rfl⟩
  rw [← hml] at h1 h2 h4 h5 h6 h7 hM64
  rw [← hul] at h1 h2 h4 h5 h6 h7 hU64
  have g64 : (ml : Int) ≤ 1000000000000 := by omega
  have u64 : (ul : Int) ≤ 1000000000000 := by omega
  have hdI : decide ((dV : Int) < dI) = false := decide_eq_false (by omega)
  have hDV : (dV : Int) ≤ 64 := by omega
  unfold treeN at h1 h2 h4 h5 h6 h7
  have z8 : (((0 : Nat) : Int)) = 0 := rfl
  rw [z8] at h3
  have H1 := Lib.hid h1
  have H2 := Lib.hid h2
  have H3 := Lib.hid h3
  have H4 := Lib.hid h4
  have H5 := Lib.hid h5
  have H6 := Lib.hid h6
  have H7 := Lib.hid h7
  have Hml := Lib.hid hml
  have HT := Lib.hid t1
  clear h1 h2 h3 h4 h5 h6 h7 hml hul t1 t2 hM64 hU64 hfit htxt hright hD hC64 hCC hval v1 v64 r1 r2 e1 e2 hm hC hR z8 hd0 hdd hdp la
  have tokA : True := trivial
  go_enter Try.func4, Try.ntmps4
  go_wp2_with (first
    | (go_at_call 9; refine (alive14 _).mono ?_; rintro e w1 ⟨rfl, E1⟩; have X_ : Ext w w1 := Ext.trans (by repeat with_reducible (first | exact Ext.refl _ | refine Ext.alloc ?_ _ | refine Ext.drew ?_ | refine Ext.drewN ?_ _ | refine Ext.setCell ?_ (by first | exact Nat.le_refl _ | omega | (simp; done) | (simp; omega)) _)) E1; replace hE := hE.up X_; replace hs := hs.up X_; replace ha := ha.up X_; clear X_)
    | (go_at_call 6; refine (few07 hs).mono ?_; rintro e w2 ⟨x, rfl, E2⟩; have X_ : Ext w1 w2 := Ext.trans (by repeat with_reducible (first | exact Ext.refl _ | refine Ext.alloc ?_ _ | refine Ext.drew ?_ | refine Ext.drewN ?_ _ | refine Ext.setCell ?_ (by first | exact Nat.le_refl _ | omega | (simp; done) | (simp; omega)) _)) E2; replace hE := hE.up X_; replace hs := hs.up X_; replace ha := ha.up X_; clear X_)
    | (go_at_call 10; (with_reducible refine (H1.out _ (hs.up (by repeat with_reducible (first | exact Ext.refl _ | refine Ext.alloc ?_ _ | refine Ext.drew ?_ | refine Ext.drewN ?_ _ | refine Ext.setCell ?_ (by first | exact Nat.le_refl _ | omega | (simp; done) | (simp; omega)) _))) (ha.up (by repeat with_reducible (first | exact Ext.refl _ | refine Ext.alloc ?_ _ | refine Ext.drew ?_ | refine Ext.drewN ?_ _ | refine Ext.setCell ?_ (by first | exact Nat.le_refl _ | omega | (simp; done) | (simp; omega)) _)))).mono ?_); rintro e w3 ⟨y, rfl, hy, hty, E3⟩; clear H1; have X_ : Ext w2 w3 := Ext.trans (by repeat with_reducible (first | exact Ext.refl _ | refine Ext.alloc ?_ _ | refine Ext.drew ?_ | refine Ext.drewN ?_ _ | refine Ext.setCell ?_ (by first | exact Nat.le_refl _ | omega | (simp; done) | (simp; omega)) _)) E3; replace hE := hE.up X_; replace hs := hs.up X_; replace ha := ha.up X_; clear X_)
    | (go_at_call 12; refine (H3.out _ (hs.up (by repeat with_reducible (first | exact Ext.refl _ | refine Ext.alloc ?_ _ | refine Ext.drew ?_ | refine Ext.drewN ?_ _ | refine Ext.setCell ?_ (by first | exact Nat.le_refl _ | omega | (simp; done) | (simp; omega)) _))) (ha.up (by repeat with_reducible (first | exact Ext.refl _ | refine Ext.alloc ?_ _ | refine Ext.drew ?_ | refine Ext.drewN ?_ _ | refine Ext.setCell ?_ (by first | exact Nat.le_refl _ | omega | (simp; done) | (simp; omega)) _)))).mono ?_; rintro e w5 ⟨rfl, E5⟩; have X_ : Ext w3 w5 := Ext.trans (by repeat with_reducible (first | exact Ext.refl _ | refine Ext.alloc ?_ _ | refine Ext.drew ?_ | refine Ext.drewN ?_ _ | refine Ext.setCell ?_ (by first | exact Nat.le_refl _ | omega | (simp; done) | (simp; omega)) _)) E5; replace hE := hE.up X_; replace hs := hs.up X_; replace ha := ha.up X_; replace hty := hty.up X_; clear X_; have BY := (BlkT.new w3 35 #[.slice y.a.1 ml y.a.2, .slice y.b.1 ul y.b.2] rfl).up E5))
  rotate_left
  · go_ret
    exact ⟨rfl, hE⟩
  have y0 : w5.cell? ⟨w3.heap.size, 0, none⟩ = some (.slice y.a.1 ml y.a.2) := BY.cell 0
  have y1 : w5.cell? ⟨w3.heap.size, 1, none⟩ = some (.slice y.b.1 ul y.b.2) := BY.cell 1
  have yl := BY.lt
  have X5 : Ext w5 w5 := Ext.refl w5
  clear E1 E2 E3 E5
  go_region_held3 (fun W => Ext w5 W ∧ ∀ b o, b < w5.heap.size → W.cell? ⟨b, o, none⟩ = w5.cell? ⟨b, o, none⟩) ((refine Ext.keep ?_; repeat with_reducible (first | assumption | exact Ext.refl _ | refine Ext.alloc ?_ _ | refine Ext.drew ?_ | refine Ext.drewN ?_ _ | refine Ext.setCell ?_ (by first | exact Nat.le_refl _ | omega | (simp; done) | (simp; omega)) _))) (first
    | (go_split_ands; go_at_call 13; refine (H4.out y _ hy (hs.up (by with_reducible assumption)) (hty.up (by with_reducible assumption))).mono ?_; rintro e w6 ⟨rfl, E6⟩; have q6 : Ext w5 w6 := Ext.trans (by with_reducible assumption) E6)
    | (go_split_ands; go_at_call 14; refine (H5.out y _ hy (hty.up (by with_reducible assumption))).mono ?_; rintro e w7 ⟨rfl, E7⟩; have q7 : Ext w5 w7 := Ext.trans (by with_reducible assumption) E7)
    | (go_split_ands; go_at_call 16; refine (H6.out y _ hy (hty.up (by with_reducible assumption))).mono ?_; rintro e w8 ⟨z, rfl, hz, htz, E8⟩; have q8 : Ext w5 w8 := Ext.trans (by with_reducible assumption) E8)
    | (go_split_ands; go_at_call 15; refine (H7.out y z _ hy hz (hty.up (by with_reducible assumption)) (htz.up (by with_reducible first | assumption | exact Ext.refl _ | exact Ext.drew (Ext.refl _)))).mono ?_; rintro e w9 ⟨rfl, E9⟩; have q9 : Ext w5 w9 := Ext.trans (by with_reducible assumption) E9))
  rename Ext w5 w9 ∧ _ => hS9
  clear hS9
  replace hE := hE.trans q9
  replace hs := hs.up q9
  replace ha := ha.up q9
  replace hty := hty.up q9
  replace BY := BY.up q9
  have y0 : w9.cell? ⟨w3.heap.size, 0, none⟩ = some (.slice y.a.1 ml y.a.2) := BY.cell 0
  have y1 : w9.cell? ⟨w3.heap.size, 1, none⟩ = some (.slice y.b.1 ul y.b.2) := BY.cell 1
  have yl := BY.lt
  clear htz q9 X5 hdI
  have tokA : True := trivial
  go_wp2_with (first
    | (at_builtin; have _t := tokA; refine wpList_more elemB rfl (.tmp 76) (.tmp 77) rfl rfl (Own.empty (Ext.refl _) 5 1) rfl (ha.ext ((Ext.refl _).alloc _)) (bv_one _) (by omega) (by unfold maxLen; omega) ?_; intro A6 c6 w10 own6 _; simp only [Nat.zero_add, List.nil_append] at own6; clear tokA)
    | (at_builtin; refine wpList_more elemB rfl (.tmp 78) (.tmp 79) rfl rfl own6 rfl (ha.ext own6.ext) (bv_one _) (by omega) (by unfold maxLen; omega) ?_; intro A7 c7 w11 own7 _; rw [← List.map_append] at own7; replace hE := hE.trans own7.ext; replace hs := hs.up own7.ext; replace hty := hty.up own7.ext; replace BY := BY.up own7.ext; clear own6)
    | (go_at_call 10; (with_reducible refine (H2.out _ _ _ (hs.up (by repeat with_reducible (first | exact Ext.refl _ | refine Ext.alloc ?_ _ | refine Ext.drew ?_ | refine Ext.drewN ?_ _ | refine Ext.setCell ?_ (by first | exact Nat.le_refl _ | omega | (simp; done) | (simp; omega)) _))) (own7.bytes.up (by repeat with_reducible (first | exact Ext.refl _ | refine Ext.alloc ?_ _ | refine Ext.drew ?_ | refine Ext.drewN ?_ _ | refine Ext.setCell ?_ (by first | exact Nat.le_refl _ | omega | (simp; done) | (simp; omega)) _)))).mono ?_); rintro e w12 ⟨z, rfl, hz, htz, E12⟩; clear H2; have X_ : Ext w11 w12 := Ext.trans (by repeat with_reducible (first | exact Ext.refl _ | refine Ext.alloc ?_ _ | refine Ext.drew ?_ | refine Ext.drewN ?_ _ | refine Ext.setCell ?_ (by first | exact Nat.le_refl _ | omega | (simp; done) | (simp; omega)) _)) E12; replace hE := hE.up X_; replace hty := hty.up X_; replace BY := BY.up X_; clear X_; have y0 : w12.cell? ⟨w3.heap.size, 0, none⟩ = some (.slice y.a.1 ml y.a.2) := BY.cell 0;  have y1 : w12.cell? ⟨w3.heap.size, 1, none⟩ = some (.slice y.b.1 ul y.b.2) := BY.cell 1;  have yl := BY.lt))
  have hyl : y.vals.length = ml := by
    rw [Hml.out, ← hy, bare_eq]
    exact (List.length_map _).symm
  have hnum : z.vals.map (·.number) = y.vals.map (·.number) := by
    have h := HT.out
    rw [← hz, ← hy, bare_eq, bare_eq] at h
    have h' : (z.vals.map bareV).map (·.number) = (y.vals.map bareV).map (·.number) := h
    rw [List.map_map, List.map_map] at h'
    exact h'
  have hzl : z.vals.length = ml := by
    have := congrArg List.length hnum
    rw [List.length_map, List.length_map] at this
    omega
  have hvy := (hty.up ((Ext.refl w12).alloc (.cells #[.slice z.a.1 ml z.a.2, .slice z.b.1 (2 * ul) z.b.2] 35))).vals
  have hvz := (htz.up ((Ext.refl w12).alloc (.cells #[.slice z.a.1 ml z.a.2, .slice z.b.1 (2 * ul) z.b.2] 35))).vals
  rw [hyl] at hvy
  rw [hzl] at hvz
  have BZ := BlkT.new w12 35 #[.slice z.a.1 ml z.a.2, .slice z.b.1 (2 * ul) z.b.2] rfl
  have BY2 := BY.alloc (.cells #[.slice z.a.1 ml z.a.2, .slice z.b.1 (2 * ul) z.b.2] 35)
  have hE2 := hE.alloc (.cells #[.slice z.a.1 ml z.a.2, .slice z.b.1 (2 * ul) z.b.2] 35)
  have Hvy := Lib.hid hvy
  have Hvz := Lib.hid hvz
  have Hnum := Lib.hid hnum
  have mcap := hvy.cap
  have ycap := hvy.max
  have zcap := hvz.max
  have mcapz := hvz.cap
  unfold maxLen at ycap zcap
  clear hE BY y0 y1 yl hvy hvz hnum hyl hzl hty htz hs ha own7
  generalize w12.alloc (.cells #[.slice z.a.1 ml z.a.2, .slice z.b.1 (2 * ul) z.b.2] 35) = wn at *
  generalize w12.heap.size = bz at *
  generalize w3.heap.size = by_ at *
  go_loopw [8, 15] (fun _ i wr => ∃ k : Nat, k ≤ ml ∧ i = .int .i64 (k : Int) ∧ Ext wn wr) (fun _ i _ => ml - (intOf i).toNat)
  case atStart => exact ⟨0, Nat.zero_le _, rfl, Ext.refl _⟩
  case round =>
    rename World => wr
    obtain ⟨k, hk, rfl, XR⟩ := hrel
    have y0 : wr.cell? ⟨by_, 0, none⟩ = some (.slice y.a.1 ml y.a.2) := (BY2.up XR).cell 0
    have yl := (BY2.up XR).lt
    by_cases hlt : k < ml
    · have hltI : (k : Int) < ml := by omega
      have z0 : wr.cell? ⟨bz, 0, none⟩ = some (.slice z.a.1 ml z.a.2) := (BZ.up XR).cell 0
      have zl := (BZ.up XR).lt
      obtain ⟨b5, off5, v, hA, hv, hb5, e0, _⟩ := valCells (Hvy.out.ext XR) hlt
      obtain ⟨b6, off6, u, hA6, hu, hb6, g0, _⟩ := valCells (Hvz.out.ext XR) hlt
      have hn2 : u.number = v.number := by
        have h := congrArg (·[k]?) Hnum.out
        simp only [List.getElem?_map, hv, hu, Option.map_some] at h
        injection h
      rw [hA] at y0
      rw [hA6] at z0
      rw [hn2] at g0
      clear hA hA6 hv hu hn2
      go_wp2
      go_quiet (fail)
      go_wp2
      go_roundw
      case rel => exact ⟨k + 1, by omega, by go_num, XR.trans (by repeat with_reducible (first | exact Ext.refl _ | refine Ext.alloc ?_ _ | refine Ext.drew ?_ | refine Ext.drewN ?_ _ | refine Ext.setCell ?_ (by first | exact Nat.le_refl _ | omega | (simp; done) | (simp; omega)) _))⟩
      case measure => simp [intOf]; omega
    · have hge : ¬ ((k : Int) < (ml : Int)) := by omega
      go_wp2
      go_ret
      exact ⟨rfl, hE2.trans XR⟩

theorem treeMeans_walk {A : Option Addr} {n c : Nat} {S : List MsgV} {root : Int} {B : Option Addr} {n1 c1 : Nat} {xs : List UInt8} {d : Int} {w : World} (hs : SchemaAt w A n c S) (hroot : -9223372036854775808 ≤ root ∧ root < 9223372036854775808) (ha : BytesAt w B n1 c1 xs) (sa : c1 * 1 ≤ 140737488351232) (hd : -9223372036854775808 ≤ d ∧ d < 9223372036854775808) :
    Calls Try.prog 4 #[.slice A n c, .int .i64 root, .slice B n1 c1, .int .i64 d] w fun e w' => e = .returned (.bool true) ∧ Ext w w' := by
  by_cases hn : (1500 : Int) < (n1 : Int)
  · exact treeMeans_long hs hroot ha sa hd hn
  · by_cases hC : (checkB (S.map MsgV.d) root xs d).2 = 0
    · obtain ⟨_, r1, _⟩ := check_right hC
      obtain ⟨m, rfl⟩ := Int.eq_ofNat_of_zero_le r1
      exact treeMeans_good hs ha sa hn hC
    · exact treeMeans_bad hs hroot ha sa hd hn hC

end Go.Proofs.Ytcbpbpeogfbpiaa
