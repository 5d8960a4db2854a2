/- Contracts of layer 5: putting records. -/
import Derived.Test.YtcipokmklkognaaW3c
import Derived.Test.YtcipokmklkognaaW5c
namespace Go.Proofs.Ytcipokmklkognaa
open Go.RowKit
set_option linter.unusedVariables false

/-- May bytes be a value of a wire type? -/
def fitsV (wire : Int) (v : List UInt8) : Bool := decide ((wire = 0 ∧ (readV v).2.2 = 0 ∧ (readV v).2.1 = v.length) ∨ (wire = 1 ∧ v.length = 8) ∨ (wire = 5 ∧ v.length = 4) ∨ wire = 2)

theorem rFits {A : Option Addr} {n c : Nat} {bs : List UInt8} {w : World} {wire : Int} (hb : BytesAt w A n c bs) :
    Calls Try.prog 75 #[.int .i64 wire, .slice A n c] w fun e w' => e = .returned (.bool (fitsV wire bs)) ∧ w = w' := by
  have hl := hb.length
  rcases hv : readV bs with ⟨W, N, K⟩
  have hbd := readV_bd bs
  rw [hv] at hbd
  simp only at hbd
  have h2 := hbd.2.2.1
  have h4 := hbd.2.2.2.1
  clear hbd
  have hf : fitsV wire bs = decide ((wire = 0 ∧ K = 0 ∧ N = n) ∨ (wire = 1 ∧ n = 8) ∨ (wire = 5 ∧ n = 4) ∨ wire = 2) := by unfold fitsV; rw [hv, hl]
  rw [hf]
  clear hf hl
  have Hv := Lib.hid hv
  clear hv
  by_cases e0 : wire = 0
  · subst e0
    by_cases hK : K = 0
    · subst hK
      go_enter Try.func75, Try.ntmps75
      go_wp2_with (go_at_call 78; refine (vSkip hb Hv.out).mono ?_; rintro e w' ⟨rfl, rfl⟩)
      go_ret
      exact ⟨ret_bool (by rw [Bool.eq_iff_iff]; simp; omega), rfl⟩
    · have q : ((K : Int) == 0) = false := by simp; omega
      go_enter Try.func75, Try.ntmps75
      go_wp2_with (go_at_call 78; refine (vSkip hb Hv.out).mono ?_; rintro e w' ⟨rfl, rfl⟩)
      go_ret
      exact ⟨ret_bool (by rw [Bool.eq_iff_iff]; simp [hK]), rfl⟩
  · by_cases e1 : wire = 1
    · subst e1
      go_enter Try.func75, Try.ntmps75
      go_wp2
      go_ret
      exact ⟨ret_bool (by rw [Bool.eq_iff_iff]; simp; try omega), rfl⟩
    · by_cases e5 : wire = 5
      · subst e5
        go_enter Try.func75, Try.ntmps75
        go_wp2
        go_ret
        exact ⟨ret_bool (by rw [Bool.eq_iff_iff]; simp; try omega), rfl⟩
      · have q0 : (wire == 0) = false := by simp; omega
        have q1 : (wire == 1) = false := by simp; omega
        have q5 : (wire == 5) = false := by simp; omega
        have hd : decide ((wire = 0 ∧ K = 0 ∧ N = n) ∨ (wire = 1 ∧ n = 8) ∨ (wire = 5 ∧ n = 4) ∨ wire = 2) = decide (wire = 2) := by simp [e0, e1, e5]
        rw [hd]
        clear e0 e1 e5 hd
        go_enter Try.func75, Try.ntmps75
        go_wp2
        go_ret
        exact ⟨ret_bool (by rw [Bool.eq_iff_iff]; simp), rfl⟩

theorem rFitsR {A : Option Addr} {n c : Nat} {bs : List UInt8} {w : World} {wire : Int} (hb : BytesAt w A n c bs) (hn : n ≤ 9000000000000000000) :
    Calls Try.prog 54 #[.int .i64 wire, .slice A n c] w fun e w' => e = .returned (.bool (fitsV wire bs)) ∧ w = w' := by
  have hl := hb.length
  rcases hv : readV bs with ⟨W, N, K⟩
  have hbd := readV_bd bs
  rw [hv] at hbd
  simp only at hbd
  have h2 := hbd.2.2.1
  have h4 := hbd.2.2.2.1
  clear hbd
  have hf : fitsV wire bs = decide ((wire = 0 ∧ K = 0 ∧ N = n) ∨ (wire = 1 ∧ n = 8) ∨ (wire = 5 ∧ n = 4) ∨ wire = 2) := by unfold fitsV; rw [hv, hl]
  rw [hf]
  clear hf hl
  have Hv := Lib.hid hv
  clear hv
  by_cases e0 : wire = 0
  · subst e0
    by_cases hK : K = 0
    · subst hK
      go_enter Try.func54, Try.ntmps54
      go_wp2_with (go_at_call 74; refine (vReadR (p := 0) hb rfl (Nat.zero_le _) hn Hv.out).mono ?_; rintro e w' ⟨rfl, rfl⟩)
      go_ret
      exact ⟨ret_bool (by rw [Bool.eq_iff_iff]; simp; omega), rfl⟩
    · have q : ((K : Int) == 0) = false := by simp; omega
      go_enter Try.func54, Try.ntmps54
      go_wp2_with (go_at_call 74; refine (vReadR (p := 0) hb rfl (Nat.zero_le _) hn Hv.out).mono ?_; rintro e w' ⟨rfl, rfl⟩)
      go_ret
      exact ⟨ret_bool (by rw [Bool.eq_iff_iff]; simp [hK]), rfl⟩
  · have q0 : (wire == 0) = false := by simp; omega
    by_cases e2 : wire = 2
    · subst e2
      clear e0
      go_enter Try.func54, Try.ntmps54
      go_wp2
      go_ret
      exact ⟨ret_bool (by rw [Bool.eq_iff_iff]; simp), rfl⟩
    · have q2 : (wire == 2) = false := by simp; omega
      by_cases e1 : wire = 1
      · subst e1
        clear e0 e2
        by_cases h8 : n = 8
        · subst h8
          go_enter Try.func54, Try.ntmps54
          go_wp2
          go_ret
          exact ⟨ret_bool (by rw [Bool.eq_iff_iff]; simp), rfl⟩
        · have q8 : ((n : Int) == 8) = false := by simp; omega
          go_enter Try.func54, Try.ntmps54
          go_wp2
          go_ret
          exact ⟨ret_bool (by rw [Bool.eq_iff_iff]; simp [h8]), rfl⟩
      · have q1 : (wire == 1) = false := by simp; omega
        by_cases e5 : wire = 5
        · subst e5
          clear e0 e1 e2
          go_enter Try.func54, Try.ntmps54
          go_wp2
          go_ret
          exact ⟨ret_bool (by rw [Bool.eq_iff_iff]; simp; try omega), rfl⟩
        · have q5 : (wire == 5) = false := by simp; omega
          have hd : decide ((wire = 0 ∧ K = 0 ∧ N = n) ∨ (wire = 1 ∧ n = 8) ∨ (wire = 5 ∧ n = 4) ∨ wire = 2) = false := by simp [e0, e1, e2, e5]
          rw [hd]
          clear e0 e1 e2 e5 hd
          go_enter Try.func54, Try.ntmps54
          go_wp2
          go_ret
          exact ⟨rfl, rfl⟩

/-- A record's bytes. -/
def putB (number wire : Int) (v : List UInt8) : List UInt8 := tagB number wire ++ ((if wire = 2 then Lib.uvarint v.length else []) ++ v)

theorem putB_length {number wire : Int} (h : rightB number wire = true) {v : List UInt8} (hv : v.length ≤ 100000000000) : (putB number wire v).length ≤ v.length + 15 := by
  have h1 := tagB_length h
  have h2 := Lib.uvarint_length64 (x := v.length) (by omega)
  unfold putB
  rw [List.length_append, List.length_append]
  split
  · omega
  · simp; omega

theorem rPut_no {A B : Option Addr} {n c m d : Nat} {bs vs : List UInt8} {number wire : Int} {w : World} (hb : BytesAt w A n c bs) (hn : n ≤ 1000000000) (hv : BytesAt w B m d vs) (h : (rightB number wire && fitsV wire vs) = false) :
    Calls Try.prog 51 #[.slice A n c, .int .i64 number, .int .i64 wire, .slice B m d] w fun e w' => e = .returned (.tuple #[.slice none 0 0, .int .u8 2]) ∧ Ext w w' := by
  rcases hr : rightB number wire with _ | _
  · go_enter Try.func51, Try.ntmps51
    go_wp2_with (go_at_call 23; refine (tPut_no hr).mono ?_; rintro e w1 ⟨rfl, E1⟩; have X_ : Ext w w1 := Ext.trans (by repeat with_reducible (first | exact Ext.refl _ | refine Ext.alloc ?_ _ | refine Ext.drew ?_ | refine Ext.drewN ?_ _ | refine Ext.setCell ?_ (by first | exact Nat.le_refl _ | omega | (simp; done) | (simp; omega)) _)) E1; have hE := X_; clear X_)
    go_ret2
    exact ⟨rfl, hE⟩
  · rw [hr, Bool.true_and] at h
    go_enter Try.func51, Try.ntmps51
    go_wp2_with (first | (go_at_call 23; refine (tPut hb hn hr).mono ?_; rintro e w1 ⟨A1, c1, rfl, own1⟩; have X_ : Ext w w1 := Ext.trans (by repeat with_reducible (first | exact Ext.refl _ | refine Ext.alloc ?_ _ | refine Ext.drew ?_ | refine Ext.drewN ?_ _ | refine Ext.setCell ?_ (by first | exact Nat.le_refl _ | omega | (simp; done) | (simp; omega)) _)) own1.ext; replace hv := hv.up X_; have hE := X_; clear X_) | (go_at_call 75; refine (rFits hv).mono ?_; rintro e w' ⟨rfl, rfl⟩))
    go_ret2
    exact ⟨rfl, hE⟩

theorem rPut {A B : Option Addr} {n c m d : Nat} {bs vs : List UInt8} {number wire : Int} {w : World} (hb : BytesAt w A n c bs) (hn : n ≤ 1000000000) (hv : BytesAt w B m d vs) (hm : m ≤ 1000000000) (h : (rightB number wire && fitsV wire vs) = true) :
    Calls Try.prog 51 #[.slice A n c, .int .i64 number, .int .i64 wire, .slice B m d] w fun e w' => ∃ A' c', e = .returned (.tuple #[.slice A' (n + (putB number wire vs).length) c', .int .u8 0]) ∧ Own w w' 5 1 A' (n + (putB number wire vs).length) c' ((bs ++ putB number wire vs).map bv) := by
  rw [Bool.and_eq_true] at h
  obtain ⟨hr, hf⟩ := h
  have hl := hv.length
  have htl := tagB_length hr
  have hul := Lib.uvarint_length64 (x := m) (by omega)
  by_cases e2 : wire = 2
  · subst e2
    have hp : putB number 2 vs = tagB number 2 ++ (Lib.uvarint m ++ vs) := by unfold putB; rw [if_pos rfl, hl]
    have hpl : (putB number 2 vs).length = (tagB number 2).length + (Lib.uvarint m).length + m := by rw [hp]; simp [hl]; omega
    have Hp := Lib.hid hp
    have Hpl := Lib.hid hpl
    clear hp hpl hl
    go_enter Try.func51, Try.ntmps51
    go_wp2_with (first | (go_at_call 23; refine (tPut hb hn hr).mono ?_; rintro e w1 ⟨A1, c1, rfl, own1⟩; have X_ : Ext w w1 := Ext.trans (by repeat with_reducible (first | exact Ext.refl _ | refine Ext.alloc ?_ _ | refine Ext.drew ?_ | refine Ext.drewN ?_ _ | refine Ext.setCell ?_ (by first | exact Nat.le_refl _ | omega | (simp; done) | (simp; omega)) _)) own1.ext; replace hv := hv.up X_; have hE := X_; clear X_) | (go_at_call 75; refine (rFits hv).mono ?_; rintro e w' ⟨rfl, rfl⟩) | (go_at_call 59; refine (vPut own1.bytes (by omega) (by omega) (by omega)).mono ?_; rintro e w2 ⟨A2, c2, rfl, own2⟩; have X_ : Ext w1 w2 := Ext.trans (by repeat with_reducible (first | exact Ext.refl _ | refine Ext.alloc ?_ _ | refine Ext.drew ?_ | refine Ext.drewN ?_ _ | refine Ext.setCell ?_ (by first | exact Nat.le_refl _ | omega | (simp; done) | (simp; omega)) _)) own2.ext; replace hv := hv.up X_; clear X_; rw [Int.toNat_natCast] at own2) | (at_builtin; refine wpList_more elemB rfl (.tmp 35) (.tmp 36) rfl rfl (own2.since own1.ext) rfl hv (bv_one _) (by omega) (by unfold maxLen; omega) ?_; intro A3 c3 w3 own3 _))
    go_ret2
    rw [Hpl.out, Hp.out]
    exact ⟨A3, c3, by simp [Nat.add_assoc], by simpa [Nat.add_assoc] using own3⟩
  · have q : (wire == 2) = false := by simp; omega
    have hp : putB number wire vs = tagB number wire ++ vs := by unfold putB; rw [if_neg e2]; rfl
    have hpl : (putB number wire vs).length = (tagB number wire).length + m := by rw [hp]; simp [hl]
    have Hp := Lib.hid hp
    have Hpl := Lib.hid hpl
    clear hp hpl hl e2
    go_enter Try.func51, Try.ntmps51
    go_wp2_with (first | (go_at_call 23; refine (tPut hb hn hr).mono ?_; rintro e w1 ⟨A1, c1, rfl, own1⟩; have X_ : Ext w w1 := Ext.trans (by repeat with_reducible (first | exact Ext.refl _ | refine Ext.alloc ?_ _ | refine Ext.drew ?_ | refine Ext.drewN ?_ _ | refine Ext.setCell ?_ (by first | exact Nat.le_refl _ | omega | (simp; done) | (simp; omega)) _)) own1.ext; replace hv := hv.up X_; have hE := X_; clear X_) | (go_at_call 75; refine (rFits hv).mono ?_; rintro e w' ⟨rfl, rfl⟩) | (at_builtin; refine wpList_more elemB rfl (.tmp 35) (.tmp 36) rfl rfl own1 rfl hv (bv_one _) (by omega) (by unfold maxLen; omega) ?_; intro A3 c3 w3 own3 _))
    go_ret2
    rw [Hpl.out, Hp.out]
    exact ⟨A3, c3, by simp [Nat.add_assoc], by simpa [Nat.add_assoc] using own3⟩

/-- What 'Len' puts behind bytes. -/
def lenB (number : Int) (v : List UInt8) : List UInt8 := if rightB number 2 = true then putB number 2 v else []

theorem fits_2 (v : List UInt8) : fitsV 2 v = true := by unfold fitsV; simp

theorem rLen {A B : Option Addr} {n c m d : Nat} {bs vs : List UInt8} {number : Int} {w : World} (hb : BytesAt w A n c bs) (hn : n ≤ 1000000000) (hv : BytesAt w B m d vs) (hm : m ≤ 1000000000) :
    Calls Try.prog 52 #[.slice A n c, .int .i64 number, .slice B m d] w fun e w' => ∃ A' c', e = .returned (.slice A' (n + (lenB number vs).length) c') ∧ Own w w' 5 1 A' (n + (lenB number vs).length) c' ((bs ++ lenB number vs).map bv) := by
  rcases hr : rightB number 2 with _ | _
  · have hlb : lenB number vs = [] := by unfold lenB; rw [hr]; rfl
    rw [hlb]
    clear hlb
    go_enter Try.func52, Try.ntmps52
    go_wp2_with (first | (go_at_call 51; refine (rPut_no hb hn hv (by rw [hr]; rfl)).mono ?_; rintro e w1 ⟨rfl, E1⟩; have X_ : Ext w w1 := Ext.trans (by repeat with_reducible (first | exact Ext.refl _ | refine Ext.alloc ?_ _ | refine Ext.drew ?_ | refine Ext.drewN ?_ _ | refine Ext.setCell ?_ (by first | exact Nat.le_refl _ | omega | (simp; done) | (simp; omega)) _)) E1; replace hb := hb.up X_; have hE := X_; clear X_) | (go_at_call 71; refine (clone hb (by omega)).mono ?_; rintro e w2 ⟨A2, c2, rfl, own2⟩; have X_ : Ext w1 w2 := Ext.trans (by repeat with_reducible (first | exact Ext.refl _ | refine Ext.alloc ?_ _ | refine Ext.drew ?_ | refine Ext.drewN ?_ _ | refine Ext.setCell ?_ (by first | exact Nat.le_refl _ | omega | (simp; done) | (simp; omega)) _)) own2.ext; clear X_))
    go_ret
    exact ⟨A2, c2, rfl, by simpa using own2.since hE⟩
  · have hlb : lenB number vs = putB number 2 vs := by unfold lenB; rw [hr]; rfl
    rw [hlb]
    clear hlb
    go_enter Try.func52, Try.ntmps52
    go_wp2_with (go_at_call 51; refine (rPut hb hn hv hm (by rw [hr, fits_2]; rfl)).mono ?_; rintro e w' ⟨A1, c1, rfl, own1⟩)
    go_ret
    exact ⟨A1, c1, rfl, own1⟩

theorem rPutR {B : Option Addr} {m d : Nat} {vs : List UInt8} {number wire : Int} {w : World} (hv : BytesAt w B m d vs) (hm : m ≤ 1000000000) (hr : rightB number wire = true) :
    Calls Try.prog 53 #[.int .i64 number, .int .i64 wire, .slice B m d] w fun e w' => ∃ A' c', e = .returned (.slice A' (putB number wire vs).length c') ∧ Own w w' 5 1 A' (putB number wire vs).length c' ((putB number wire vs).map bv) := by
  have hl := hv.length
  have htl := tagB_length hr
  have hul := Lib.uvarint_length64 (x := m) (by omega)
  by_cases e2 : wire = 2
  · subst e2
    have hp : putB number 2 vs = tagB number 2 ++ (Lib.uvarint m ++ vs) := by unfold putB; rw [if_pos rfl, hl]
    have hpl : (putB number 2 vs).length = (tagB number 2).length + (Lib.uvarint m).length + m := by rw [hp]; simp [hl]; omega
    have Hp := Lib.hid hp
    have Hpl := Lib.hid hpl
    clear hp hpl hl
    go_enter Try.func53, Try.ntmps53
    go_wp2_with (first | (go_at_call 42; refine (tPutR hr).mono ?_; rintro e w1 ⟨A1, c1, rfl, own1⟩; have X_ : Ext w w1 := Ext.trans (by repeat with_reducible (first | exact Ext.refl _ | refine Ext.alloc ?_ _ | refine Ext.drew ?_ | refine Ext.drewN ?_ _ | refine Ext.setCell ?_ (by first | exact Nat.le_refl _ | omega | (simp; done) | (simp; omega)) _)) own1.ext; have hE := X_; clear X_) | (go_at_call 70; refine (vPutRI _ _ (by omega) (by omega)).mono ?_; rintro e w2 ⟨A2, c2, rfl, own2⟩; have X_ : Ext w1 w2 := Ext.trans (by repeat with_reducible (first | exact Ext.refl _ | refine Ext.alloc ?_ _ | refine Ext.drew ?_ | refine Ext.drewN ?_ _ | refine Ext.setCell ?_ (by first | exact Nat.le_refl _ | omega | (simp; done) | (simp; omega)) _)) own2.ext; replace own1 := own1.up X_; clear X_; rw [Int.toNat_natCast] at own2) | (at_builtin; refine wpList_more elemB rfl (.tmp 13) (.tmp 17) rfl rfl own1 rfl own2.reads (bv_one _) (by omega) (by unfold maxLen; omega) ?_; intro A3 c3 w3 own3 g3) | (at_builtin; refine wpList_more elemB rfl (.tmp 19) (.tmp 20) rfl rfl own3 rfl (hv.up own3.ext) (bv_one _) (by omega) (by unfold maxLen; omega) ?_; intro A4 c4 w4 own4 _))
    go_ret
    rw [Hpl.out, Hp.out]
    exact ⟨A4, c4, by simp [Nat.add_assoc], by simpa [Nat.add_assoc] using own4⟩
  · have q : (wire == 2) = false := by simp; omega
    have hp : putB number wire vs = tagB number wire ++ vs := by unfold putB; rw [if_neg e2]; rfl
    have hpl : (putB number wire vs).length = (tagB number wire).length + m := by rw [hp]; simp [hl]
    have Hp := Lib.hid hp
    have Hpl := Lib.hid hpl
    clear hp hpl hl e2
    go_enter Try.func53, Try.ntmps53
    go_wp2_with (first | (go_at_call 42; refine (tPutR hr).mono ?_; rintro e w1 ⟨A1, c1, rfl, own1⟩; have X_ : Ext w w1 := Ext.trans (by repeat with_reducible (first | exact Ext.refl _ | refine Ext.alloc ?_ _ | refine Ext.drew ?_ | refine Ext.drewN ?_ _ | refine Ext.setCell ?_ (by first | exact Nat.le_refl _ | omega | (simp; done) | (simp; omega)) _)) own1.ext; replace hv := hv.up X_; have hE := X_; clear X_) | (at_builtin; refine wpList_more elemB rfl (.tmp 19) (.tmp 20) rfl rfl own1 rfl hv (bv_one _) (by omega) (by unfold maxLen; omega) ?_; intro A4 c4 w4 own4 _))
    go_ret
    rw [Hpl.out, Hp.out]
    exact ⟨A4, c4, by simp, by simpa using own4⟩

end Go.Proofs.Ytcipokmklkognaa
