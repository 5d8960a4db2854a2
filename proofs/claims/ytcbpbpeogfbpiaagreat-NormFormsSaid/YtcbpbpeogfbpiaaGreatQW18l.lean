/- Contracts of layer 18: is it normal, and the first place that isn't. -/
import Derived.Test.YtcbpbpeogfbpiaaGreatQW18h

namespace Go.Proofs.YtcbpbpeogfbpiaaGreat
open Go.RowKit Go.Shelf
set_option linter.unusedVariables false

/-- How many bytes two lists begin with alike. -/
def firstD : List UInt8 → List UInt8 → Nat
  | a :: l, b :: k => if a = b then firstD l k + 1 else 0
  | [], _ => 0
  | _ :: _, [] => 0

theorem firstD_le : ∀ xs ys : List UInt8, firstD xs ys ≤ xs.length ∧ firstD xs ys ≤ ys.length
  | a :: l, b :: k => by
    have ih := firstD_le l k
    unfold firstD
    split
    · simp only [List.length_cons]
      omega
    · exact ⟨Nat.zero_le _, Nat.zero_le _⟩
  | [], ys => by
    rw [firstD]
    exact ⟨Nat.le_refl _, Nat.zero_le _⟩
  | a :: l, [] => by
    rw [firstD]
    exact ⟨Nat.zero_le _, Nat.le_refl _⟩

theorem firstD_alike : ∀ (xs ys : List UInt8) (i : Nat), i < firstD xs ys → xs[i]? = ys[i]?
  | a :: l, b :: k, i, h => by
    unfold firstD at h
    split at h
    · rename_i e
      subst e
      rcases i with _ | i
      · rfl
      · simpa using firstD_alike l k i (by omega)
    · exact absurd h (Nat.not_lt_zero _)
  | [], ys, i, h => by
    rw [firstD] at h
    exact absurd h (Nat.not_lt_zero _)
  | a :: l, [], i, h => by
    rw [firstD] at h
    exact absurd h (Nat.not_lt_zero _)

theorem firstD_stop : ∀ (xs ys : List UInt8) (a b : UInt8), xs[firstD xs ys]? = some a → ys[firstD xs ys]? = some b → a ≠ b
  | x :: l, y :: k, a, b, h1, h2 => by
    unfold firstD at h1 h2
    by_cases e : x = y
    · rw [if_pos e] at h1 h2
      exact firstD_stop l k a b (by simpa using h1) (by simpa using h2)
    · rw [if_neg e] at h1 h2
      simp at h1 h2
      rw [← h1, ← h2]
      exact e
  | [], ys, a, b, h1, h2 => by
    rw [firstD] at h1
    cases h1
  | x :: l, [], a, b, h1, h2 => by
    rw [firstD] at h2
    cases h2

/-- The first place that two lists differ at; -1: none. -/
def firstI (xs ys : List UInt8) : Int := if xs = ys then -1 else (firstD xs ys : Int)

theorem nIs {A : Option Addr} {n c : Nat} {S : List MsgV} {root d : Int} {B : Option Addr} {n' c' : Nat} {bs : List UInt8} {w : World} (hs : SchemaAt w A n c S) (hb : BytesAt w B n' c' bs) (hn : n' ≤ 100000) :
    Calls Tryz.prog 14 #[.slice A n c, .int .i64 root, .slice B n' c', .int .i64 d] w fun e w' => e = .returned (.bool (decide ((checkB (S.map MsgV.d) root bs d).2 = 0) && decide (bs = formB (S.map MsgV.d) root bs d))) ∧ Ext w w' := by
  have hE := Ext.refl w
  have h1 := fun W (h : SchemaAt W A n c S) (h2 : BytesAt W B n' c' bs) => nFormB (root := root) (d := d) h h2 hn
  generalize formB (S.map MsgV.d) root bs d = F at *
  generalize checkB (S.map MsgV.d) root bs d = V at *
  obtain ⟨p, C⟩ := V
  simp only at h1 ⊢
  generalize hfl : F.length = fl at *
  have H1 := Lib.hid h1
  clear h1 hfl
  by_cases hC : C = 0
  · subst hC
    go_enter Tryz.func14, Tryz.ntmps14
    go_wp2_with (first
      | (go_at_call 10; (with_reducible refine (H1.out _ (hs.up (by repeat with_reducible (first | exact Ext.refl _ | refine Ext.alloc ?_ _ | refine Ext.drew ?_ | refine Ext.drewN ?_ _ | refine Ext.setCell ?_ (by first | exact Nat.le_refl _ | omega | (simp; done) | (simp; omega)) _))) (hb.up (by repeat with_reducible (first | exact Ext.refl _ | refine Ext.alloc ?_ _ | refine Ext.drew ?_ | refine Ext.drewN ?_ _ | refine Ext.setCell ?_ (by first | exact Nat.le_refl _ | omega | (simp; done) | (simp; omega)) _)))).mono ?_); rintro e w1 ⟨A3, c3, rfl, own3⟩; have X_ : Ext w w1 := Ext.trans (by repeat with_reducible (first | exact Ext.refl _ | refine Ext.alloc ?_ _ | refine Ext.drew ?_ | refine Ext.drewN ?_ _ | refine Ext.setCell ?_ (by first | exact Nat.le_refl _ | omega | (simp; done) | (simp; omega)) _)) own3.ext; replace hE := hE.up X_; replace hb := hb.up X_; clear X_)
      | (go_at_call 49; refine (bEqual hb own3.bytes).mono ?_; rintro e w' ⟨rfl, rfl⟩))
    go_ret
    exact ⟨by simp, hE⟩
  · have hC' : ¬ ((C : Int) = 0) := by omega
    go_enter Tryz.func14, Tryz.ntmps14
    go_wp2_with (first
      | (go_at_call 10; (with_reducible refine (H1.out _ (hs.up (by repeat with_reducible (first | exact Ext.refl _ | refine Ext.alloc ?_ _ | refine Ext.drew ?_ | refine Ext.drewN ?_ _ | refine Ext.setCell ?_ (by first | exact Nat.le_refl _ | omega | (simp; done) | (simp; omega)) _))) (hb.up (by repeat with_reducible (first | exact Ext.refl _ | refine Ext.alloc ?_ _ | refine Ext.drew ?_ | refine Ext.drewN ?_ _ | refine Ext.setCell ?_ (by first | exact Nat.le_refl _ | omega | (simp; done) | (simp; omega)) _)))).mono ?_); rintro e w1 ⟨A3, c3, rfl, own3⟩; have X_ : Ext w w1 := Ext.trans (by repeat with_reducible (first | exact Ext.refl _ | refine Ext.alloc ?_ _ | refine Ext.drew ?_ | refine Ext.drewN ?_ _ | refine Ext.setCell ?_ (by first | exact Nat.le_refl _ | omega | (simp; done) | (simp; omega)) _)) own3.ext; replace hE := hE.up X_; replace hb := hb.up X_; clear X_))
    go_ret
    exact ⟨by simp [hC], hE⟩

set_option maxRecDepth 100000 in
set_option maxHeartbeats 4000000 in
theorem nFirst {A : Option Addr} {n c : Nat} {S : List MsgV} {root d : Int} {B : Option Addr} {n' c' : Nat} {bs : List UInt8} {w : World} (hs : SchemaAt w A n c S) (hb : BytesAt w B n' c' bs) (hn : n' ≤ 100000) :
    Calls Tryz.prog 11 #[.slice A n c, .int .i64 root, .slice B n' c', .int .i64 d] w fun e w' => e = .returned (.tuple #[.int .i64 (if (checkB (S.map MsgV.d) root bs d).2 = 0 then firstI bs (formB (S.map MsgV.d) root bs d) else 0), .int .u8 ((checkB (S.map MsgV.d) root bs d).2 : Nat)]) ∧ Ext w w' := by
  have hE := Ext.refl w
  have h1 := fun W (h : SchemaAt W A n c S) (h2 : BytesAt W B n' c' bs) => nFormB (root := root) (d := d) h h2 hn
  have hbl := hb.length
  generalize formB (S.map MsgV.d) root bs d = F at *
  generalize checkB (S.map MsgV.d) root bs d = V at *
  obtain ⟨p, C⟩ := V
  simp only at h1 ⊢
  have hfd := firstD_le bs F
  generalize hfl : F.length = fl at *
  have H1 := Lib.hid h1
  have Hfl := Lib.hid hfl
  clear h1 hfl
  by_cases hC : C = 0
  · subst hC
    rw [if_pos rfl]
    unfold firstI
    by_cases hq : bs = F
    · rw [if_pos hq]
      go_enter Tryz.func11, Tryz.ntmps11
      have hqd : decide (bs = F) = true := decide_eq_true hq
      have Hq := Lib.hid hq
      clear hq
      go_wp2_with (first
        | (go_at_call 10; (with_reducible refine (H1.out _ (hs.up (by repeat with_reducible (first | exact Ext.refl _ | refine Ext.alloc ?_ _ | refine Ext.drew ?_ | refine Ext.drewN ?_ _ | refine Ext.setCell ?_ (by first | exact Nat.le_refl _ | omega | (simp; done) | (simp; omega)) _))) (hb.up (by repeat with_reducible (first | exact Ext.refl _ | refine Ext.alloc ?_ _ | refine Ext.drew ?_ | refine Ext.drewN ?_ _ | refine Ext.setCell ?_ (by first | exact Nat.le_refl _ | omega | (simp; done) | (simp; omega)) _)))).mono ?_); rintro e w1 ⟨A3, c3, rfl, own3⟩; have X_ : Ext w w1 := Ext.trans (by repeat with_reducible (first | exact Ext.refl _ | refine Ext.alloc ?_ _ | refine Ext.drew ?_ | refine Ext.drewN ?_ _ | refine Ext.setCell ?_ (by first | exact Nat.le_refl _ | omega | (simp; done) | (simp; omega)) _)) own3.ext; replace hE := hE.up X_; replace hb := hb.up X_; clear X_)
        | (go_at_call 49; refine (bEqual hb own3.bytes).mono ?_; rintro e w' ⟨rfl, rfl⟩))
      go_ret2
      exact ⟨rfl, hE⟩
    · rw [if_neg hq]
      have hqd : decide (bs = F) = false := decide_eq_false hq
      obtain ⟨D, hD⟩ : ∃ D, D = firstD bs F := ⟨_, rfl⟩
      rw [← hD] at hfd ⊢
      have HD := Lib.hid hD
      clear hD hq
      go_enter Tryz.func11, Tryz.ntmps11
      go_wp2_with (first
        | (go_at_call 10; (with_reducible refine (H1.out _ (hs.up (by repeat with_reducible (first | exact Ext.refl _ | refine Ext.alloc ?_ _ | refine Ext.drew ?_ | refine Ext.drewN ?_ _ | refine Ext.setCell ?_ (by first | exact Nat.le_refl _ | omega | (simp; done) | (simp; omega)) _))) (hb.up (by repeat with_reducible (first | exact Ext.refl _ | refine Ext.alloc ?_ _ | refine Ext.drew ?_ | refine Ext.drewN ?_ _ | refine Ext.setCell ?_ (by first | exact Nat.le_refl _ | omega | (simp; done) | (simp; omega)) _)))).mono ?_); rintro e w1 ⟨A3, c3, rfl, own3⟩; have X_ : Ext w w1 := Ext.trans (by repeat with_reducible (first | exact Ext.refl _ | refine Ext.alloc ?_ _ | refine Ext.drew ?_ | refine Ext.drewN ?_ _ | refine Ext.setCell ?_ (by first | exact Nat.le_refl _ | omega | (simp; done) | (simp; omega)) _)) own3.ext; replace hE := hE.up X_; replace hb := hb.up X_; clear X_)
        | (go_at_call 49; refine (bEqual hb own3.bytes).mono ?_; rintro e w' ⟨rfl, rfl⟩))
      go_loopw [12] (fun i wr => ∃ k : Nat, k ≤ D ∧ i = .int .i64 (k : Int) ∧ Ext w1 wr) (fun i _ => D - (intOf i).toNat)
      case atStart => exact ⟨0, Nat.zero_le _, rfl, Ext.refl _⟩
      case round =>
        obtain ⟨k, hk, rfl, X⟩ := hrel
        have hbr := hb.up X
        have hFr := own3.bytes.up X
        have hFl := Hfl.out
        have k0 : k ≤ n' ∧ k ≤ fl := by omega
        by_cases hlt : k < D
        · obtain ⟨a, ha⟩ : ∃ a, bs[k]? = some a := ⟨_, List.getElem?_eq_getElem (by omega)⟩
          have ha2 := firstD_alike bs F k (by rw [← HD.out]; exact hlt)
          rw [ha] at ha2
          obtain ⟨b1, o1, hB, hb1, hc1⟩ := hbr.at_ (by omega)
          obtain ⟨b2, o2, hF, hb2, hc2⟩ := hFr.at_ (by omega)
          have e1 : wr.cell? ⟨b1, o1 + k, none⟩ = some (.int .u8 (a.toNat : Int)) := hc1 k _ (by rw [List.getElem?_map, ha]; rfl)
          have e2 : wr.cell? ⟨b2, o2 + k, none⟩ = some (.int .u8 (a.toNat : Int)) := hc2 k _ (by rw [List.getElem?_map, ← ha2]; rfl)
          have k1 : (k : Int) < n' := by omega
          have k2 : (k : Int) < fl := by omega
          subst hB
          subst hF
          clear hc1 hc2 hbr hFr ha ha2 hFl
          go_wp2
          go_quiet (fail)
          go_wp2
          go_roundw
          case rel => exact ⟨k + 1, by omega, by go_num, X.trans (by repeat with_reducible (first | exact Ext.refl _ | refine Ext.alloc ?_ _ | refine Ext.drew ?_ | refine Ext.drewN ?_ _ | refine Ext.setCell ?_ (by first | exact Nat.le_refl _ | omega | (simp; done) | (simp; omega)) _))⟩
          case measure => simp [intOf]; omega
        · obtain rfl : k = D := by omega
          by_cases hk1 : k = n'
          · have k1 : decide (k < n') = false := decide_eq_false (by omega)
            clear hbr hFr hFl hk1
            go_wp2
            go_quiet (fail)
            go_wp2
            go_ret2
            exact ⟨rfl, hE.trans (X.trans (by repeat with_reducible (first | exact Ext.refl _ | refine Ext.alloc ?_ _ | refine Ext.drew ?_ | refine Ext.drewN ?_ _ | refine Ext.setCell ?_ (by first | exact Nat.le_refl _ | omega | (simp; done) | (simp; omega)) _)))⟩
          · have k1 : (k : Int) < n' := by omega
            by_cases hk2 : k = fl
            · have k2 : decide (k < fl) = false := decide_eq_false (by omega)
              clear hbr hFr hFl hk1 hk2
              go_wp2
              go_quiet (fail)
              go_wp2
              go_ret2
              exact ⟨rfl, hE.trans (X.trans (by repeat with_reducible (first | exact Ext.refl _ | refine Ext.alloc ?_ _ | refine Ext.drew ?_ | refine Ext.drewN ?_ _ | refine Ext.setCell ?_ (by first | exact Nat.le_refl _ | omega | (simp; done) | (simp; omega)) _)))⟩
            · have k2 : (k : Int) < fl := by omega
              obtain ⟨a, ha⟩ : ∃ a, bs[k]? = some a := ⟨_, List.getElem?_eq_getElem (by omega)⟩
              obtain ⟨b, hb'⟩ : ∃ b, F[k]? = some b := ⟨_, List.getElem?_eq_getElem (by omega)⟩
              have hne : a ≠ b := firstD_stop bs F a b (by rw [← HD.out]; exact ha) (by rw [← HD.out]; exact hb')
              have hab : ((a.toNat : Int) == (b.toNat : Int)) = false := by
                rw [beq_eq_false_iff_ne]
                intro e
                exact hne (UInt8.toNat_inj.1 (by omega))
              obtain ⟨b1, o1, hB, hb1, hc1⟩ := hbr.at_ (by omega)
              obtain ⟨b2, o2, hF, hb2, hc2⟩ := hFr.at_ (by omega)
              have e1 : wr.cell? ⟨b1, o1 + k, none⟩ = some (.int .u8 (a.toNat : Int)) := hc1 k _ (by rw [List.getElem?_map, ha]; rfl)
              have e2 : wr.cell? ⟨b2, o2 + k, none⟩ = some (.int .u8 (b.toNat : Int)) := hc2 k _ (by rw [List.getElem?_map, hb']; rfl)
              subst hB
              subst hF
              clear hc1 hc2 hbr hFr ha hb' hFl hk1 hk2 hne
              go_wp2
              go_quiet (fail)
              go_wp2
              go_ret2
              exact ⟨rfl, hE.trans (X.trans (by repeat with_reducible (first | exact Ext.refl _ | refine Ext.alloc ?_ _ | refine Ext.drew ?_ | refine Ext.drewN ?_ _ | refine Ext.setCell ?_ (by first | exact Nat.le_refl _ | omega | (simp; done) | (simp; omega)) _)))⟩
  · have hC' : ¬ ((C : Int) = 0) := by omega
    rw [if_neg hC]
    go_enter Tryz.func11, Tryz.ntmps11
    go_wp2_with (first
      | (go_at_call 10; (with_reducible refine (H1.out _ (hs.up (by repeat with_reducible (first | exact Ext.refl _ | refine Ext.alloc ?_ _ | refine Ext.drew ?_ | refine Ext.drewN ?_ _ | refine Ext.setCell ?_ (by first | exact Nat.le_refl _ | omega | (simp; done) | (simp; omega)) _))) (hb.up (by repeat with_reducible (first | exact Ext.refl _ | refine Ext.alloc ?_ _ | refine Ext.drew ?_ | refine Ext.drewN ?_ _ | refine Ext.setCell ?_ (by first | exact Nat.le_refl _ | omega | (simp; done) | (simp; omega)) _)))).mono ?_); rintro e w1 ⟨A3, c3, rfl, own3⟩; have X_ : Ext w w1 := Ext.trans (by repeat with_reducible (first | exact Ext.refl _ | refine Ext.alloc ?_ _ | refine Ext.drew ?_ | refine Ext.drewN ?_ _ | refine Ext.setCell ?_ (by first | exact Nat.le_refl _ | omega | (simp; done) | (simp; omega)) _)) own3.ext; replace hE := hE.up X_; replace hb := hb.up X_; clear X_))
    go_ret2
    exact ⟨rfl, hE⟩

set_option maxRecDepth 100000 in
set_option maxHeartbeats 4000000 in
theorem rFirst {A B : Option Addr} {n c m d : Nat} {xs ys : List UInt8} {w : World} (ha : BytesAt w A n c xs) (hb : BytesAt w B m d ys) (hn : n ≤ 1000000000) (hm : m ≤ 1000000000) :
    Calls Tryz.prog 17 #[.slice A n c, .slice B m d] w fun e w' => e = .returned (.int .i64 (firstI xs ys)) ∧ Ext w w' := by
  have hal := ha.length
  have hbl := hb.length
  have hfd := firstD_le xs ys
  unfold firstI
  by_cases hq : xs = ys
  · rw [if_pos hq]
    have hqd : decide (xs = ys) = true := decide_eq_true hq
    have Hq := Lib.hid hq
    clear hq
    go_enter Tryz.func17, Tryz.ntmps17
    go_wp2_with (go_at_call 16; refine (same ha hb).mono ?_; rintro e w' ⟨rfl, rfl⟩)
    go_ret
    exact ⟨rfl, Ext.refl _⟩
  · rw [if_neg hq]
    have hqd : decide (xs = ys) = false := decide_eq_false hq
    obtain ⟨D, hD⟩ : ∃ D, D = firstD xs ys := ⟨_, rfl⟩
    rw [← hD] at hfd ⊢
    have HD := Lib.hid hD
    have Hal := Lib.hid (And.intro hal hbl)
    clear hD hq hal hbl
    have hfd2 : D ≤ n ∧ D ≤ m := by have := Hal.out; omega
    go_enter Tryz.func17, Tryz.ntmps17
    go_wp2_with (go_at_call 16; refine (same ha hb).mono ?_; rintro e w' ⟨rfl, rfl⟩)
    go_loopw [5] (fun i wr => ∃ k : Nat, k ≤ D ∧ i = .int .i64 (k : Int) ∧ Ext w wr) (fun i _ => D - (intOf i).toNat)
    case atStart => exact ⟨0, Nat.zero_le _, rfl, Ext.refl _⟩
    case round =>
      obtain ⟨k, hk, rfl, X⟩ := hrel
      have har := ha.up X
      have hbr := hb.up X
      by_cases hlt : k < D
      · obtain ⟨a, h1⟩ : ∃ a, xs[k]? = some a := ⟨_, List.getElem?_eq_getElem (by have := Hal.out; omega)⟩
        have h2 := firstD_alike xs ys k (by rw [← HD.out]; exact hlt)
        rw [h1] at h2
        obtain ⟨b1, o1, hA, hb1, hc1⟩ := har.at_ (by omega)
        obtain ⟨b2, o2, hB, hb2, hc2⟩ := hbr.at_ (by omega)
        have e1 : wr.cell? ⟨b1, o1 + k, none⟩ = some (.int .u8 (a.toNat : Int)) := hc1 k _ (by rw [List.getElem?_map, h1]; rfl)
        have e2 : wr.cell? ⟨b2, o2 + k, none⟩ = some (.int .u8 (a.toNat : Int)) := hc2 k _ (by rw [List.getElem?_map, ← h2]; rfl)
        have k1 : ((k : Int) == (n : Int)) = false := by rw [beq_eq_false_iff_ne]; omega
        have k2 : ((k : Int) == (m : Int)) = false := by rw [beq_eq_false_iff_ne]; omega
        have k3 : (k : Int) < n := by omega
        have k4 : (k : Int) < m := by omega
        subst hA
        subst hB
        clear hc1 hc2 har hbr h1 h2
        go_wp2
        go_quiet (fail)
        go_wp2
        go_roundw
        case rel => exact ⟨k + 1, by omega, by go_num, X.trans (by repeat with_reducible (first | exact Ext.refl _ | refine Ext.alloc ?_ _ | refine Ext.drew ?_ | refine Ext.drewN ?_ _ | refine Ext.setCell ?_ (by first | exact Nat.le_refl _ | omega | (simp; done) | (simp; omega)) _))⟩
        case measure => simp [intOf]; omega
      · obtain rfl : k = D := by omega
        by_cases hk1 : k = n
        · have k1 : ((k : Int) == (n : Int)) = true := by rw [beq_iff_eq]; omega
          clear har hbr hk1
          go_wp2
          go_quiet (fail)
          go_wp2
          go_ret
          exact ⟨rfl, X.trans (by repeat with_reducible (first | exact Ext.refl _ | refine Ext.alloc ?_ _ | refine Ext.drew ?_ | refine Ext.drewN ?_ _ | refine Ext.setCell ?_ (by first | exact Nat.le_refl _ | omega | (simp; done) | (simp; omega)) _))⟩
        · have k1 : ((k : Int) == (n : Int)) = false := by rw [beq_eq_false_iff_ne]; omega
          by_cases hk2 : k = m
          · have k2 : ((k : Int) == (m : Int)) = true := by rw [beq_iff_eq]; omega
            clear har hbr hk1 hk2
            go_wp2
            go_quiet (fail)
            go_wp2
            go_ret
            exact ⟨rfl, X.trans (by repeat with_reducible (first | exact Ext.refl _ | refine Ext.alloc ?_ _ | refine Ext.drew ?_ | refine Ext.drewN ?_ _ | refine Ext.setCell ?_ (by first | exact Nat.le_refl _ | omega | (simp; done) | (simp; omega)) _))⟩
          · have k2 : ((k : Int) == (m : Int)) = false := by rw [beq_eq_false_iff_ne]; omega
            have k3 : (k : Int) < n := by omega
            have k4 : (k : Int) < m := by omega
            obtain ⟨a, h1⟩ : ∃ a, xs[k]? = some a := ⟨_, List.getElem?_eq_getElem (by have := Hal.out; omega)⟩
            obtain ⟨b, h2⟩ : ∃ b, ys[k]? = some b := ⟨_, List.getElem?_eq_getElem (by have := Hal.out; omega)⟩
            have hne : a ≠ b := firstD_stop xs ys a b (by rw [← HD.out]; exact h1) (by rw [← HD.out]; exact h2)
            have hab : ((a.toNat : Int) != (b.toNat : Int)) = true := by
              rw [bne_iff_ne]
              intro e
              exact hne (UInt8.toNat_inj.1 (by omega))
            obtain ⟨b1, o1, hA, hb1, hc1⟩ := har.at_ (by omega)
            obtain ⟨b2, o2, hB, hb2, hc2⟩ := hbr.at_ (by omega)
            have e1 : wr.cell? ⟨b1, o1 + k, none⟩ = some (.int .u8 (a.toNat : Int)) := hc1 k _ (by rw [List.getElem?_map, h1]; rfl)
            have e2 : wr.cell? ⟨b2, o2 + k, none⟩ = some (.int .u8 (b.toNat : Int)) := hc2 k _ (by rw [List.getElem?_map, h2]; rfl)
            subst hA
            subst hB
            clear hc1 hc2 har hbr h1 h2 hk1 hk2 hne
            go_wp2
            go_quiet (fail)
            go_wp2
            go_ret
            exact ⟨rfl, X.trans (by repeat with_reducible (first | exact Ext.refl _ | refine Ext.alloc ?_ _ | refine Ext.drew ?_ | refine Ext.drewN ?_ _ | refine Ext.setCell ?_ (by first | exact Nat.le_refl _ | omega | (simp; done) | (simp; omega)) _))⟩

end Go.Proofs.YtcbpbpeogfbpiaaGreat

/- Contracts of layer 18: records are struck out of a slice of the call's own, in place. -/

namespace Go.Proofs.YtcbpbpeogfbpiaaGreat
open Go.RowKit Go.Shelf
set_option linter.unusedVariables false

theorem Reads.rec' {w : World} {A : Option Addr} {n c : Nat} {l : List Rec} (h : Reads w A n c 5 (l.flatMap recC)) {k : Nat} (hk : k < n) :
    ∃ b off v, A = some ⟨b, off, none⟩ ∧ l[k]? = some v ∧ b < w.heap.size ∧ w.cell? ⟨b, off + k * 5, none⟩ = some (.int .i64 (v.n : Int)) ∧ w.cell? ⟨b, off + k * 5 + 1, none⟩ = some (.int .i64 (v.w : Int)) ∧
      w.cell? ⟨b, off + k * 5 + 2, none⟩ = some (.int .i64 (v.f : Int)) ∧ w.cell? ⟨b, off + k * 5 + 3, none⟩ = some (.int .i64 (v.a : Int)) ∧ w.cell? ⟨b, off + k * 5 + 4, none⟩ = some (.int .i64 (v.t : Int)) := by
  obtain ⟨b, off, r, e, hx, hb, hj⟩ := h.elem (size := 5) (fun _ => rfl) (by omega) hk
  exact ⟨b, off, r, e, hx, hb, hj 0 _ rfl, hj 1 _ rfl, hj 2 _ rfl, hj 3 _ rfl, hj 4 _ rfl⟩

set_option maxRecDepth 100000 in
theorem idxRec {A : Option Addr} {n c : Nat} {l : List Rec} {w : World} {g : FuncId} {lb : Array Value} {p : Rec → Bool} (eg : ∀ args w, (callFunc g args).run Tryz.prog w = .ok (.enter g args) w) (hb : Reads w A n c 5 (l.flatMap recC)) (hn : n ≤ 1000000000000)
    (hp : ∀ (W : World) (f : Rec), Ext w W → Calls Tryz.prog g (#[recV f] ++ lb) W fun e W' => e = .returned (.bool (p f)) ∧ Ext W W') :
    Calls Tryz.prog 98 #[.slice A n c, .func (.func g) #[] lb] w fun e w' => e = .returned (.int .i64 (idxB p l)) ∧ Ext w w' := by
  have hl : l.length = n := by have := hb.len; rw [flat_length (size := 5) (fun _ => rfl)] at this; omega
  have Hl := Lib.hid hl
  have Hp := Lib.hid hp
  clear hl hp
  go_enter Tryz.func98, Tryz.ntmps98
  go_wp2
  go_loopw [5, 8] (fun _ i wr => ∃ k : Nat, k ≤ n ∧ i = .int .i64 k ∧ Ext w wr ∧ Hid (∀ (j : Nat) y, j < k → l[j]? = some y → p y = false)) (fun _ i _ => n - (intOf i).toNat)
  case atStart => exact ⟨0, Nat.zero_le _, rfl, Ext.refl _, fun j y h => absurd h (Nat.not_lt_zero j)⟩
  case round =>
    obtain ⟨k, hk, rfl, hW, hN⟩ := hrel
    by_cases hlt : k < n
    · have hlt2 : (k : Int) < n := by omega
      obtain ⟨b, off, f, rfl, hf, hb1, c0, c1, c2, c3, c4⟩ := (hb.up hW).rec' hlt
      have Hf := Lib.hid hf
      clear hf
      rcases hq : p f with _ | _
      · have hcall := Hp.out wr f hW
        rw [hq] at hcall
        unfold recV at hcall
        have Hc := Lib.hid hcall
        have Hq := Lib.hid hq
        clear hcall hq
        go_wp2_with (go_at_fn g; refine Hc.out.mono ?_; rintro e w1 ⟨rfl, E1⟩)
        go_roundw
        case rel =>
          refine ⟨k + 1, by omega, by go_num, hW.trans E1, fun j y hj hy => ?_⟩
          by_cases e : j = k
          · subst e
            have := Hf.out.symm.trans hy
            cases this
            exact Hq.out
          · exact hN.out j y (by omega) hy
        case measure => simp [intOf]; omega
      · have hcall := Hp.out wr f hW
        rw [hq] at hcall
        unfold recV at hcall
        have Hc := Lib.hid hcall
        have hi := idxB_found Hf.out hq hN.out
        have Hi := Lib.hid hi
        clear hcall hq hi
        go_wp2_with (go_at_fn g; refine Hc.out.mono ?_; rintro e w1 ⟨rfl, E1⟩)
        go_ret
        exact ⟨ret_int Hi.out.symm, hW.trans E1⟩
    · have hk2 : k = n := by omega
      subst hk2
      have hi : idxB p l = -1 := idxB_none (fun j y hy => hN.out j y (by have := (List.getElem?_eq_some_iff.1 hy).1; have := Hl.out; omega) hy)
      have Hi := Lib.hid hi
      clear hi
      go_wp2
      go_ret
      exact ⟨ret_int Hi.out.symm, hW⟩

theorem set_rec (X : List Rec) {i : Nat} (hi : i < X.length) (v : Rec) :
    (((((X.flatMap recC).set (i * 5) (.int .i64 (v.n : Int))).set (i * 5 + 1) (.int .i64 (v.w : Int))).set (i * 5 + 2) (.int .i64 (v.f : Int))).set (i * 5 + 3) (.int .i64 (v.a : Int))).set (i * 5 + 4) (.int .i64 (v.t : Int)) = (X.set i v).flatMap recC := by
  have hsp : X = X.take i ++ X[i] :: X.drop (i + 1) := by rw [← List.drop_eq_getElem_cons hi, List.take_append_drop]
  have hlt : (X.take i).length = i := by rw [List.length_take]; omega
  have hfl : ((X.take i).flatMap recC).length = i * 5 := by rw [flat_length (size := 5) (fun _ => rfl), hlt]
  generalize hA : X.take i = A at *
  generalize X[i] = x at *
  generalize X.drop (i + 1) = B at *
  subst hsp
  have hset : (A ++ x :: B).set i v = A ++ v :: B := by rw [List.set_append_right _ _ (by omega), hlt]; simp
  rw [hset]
  simp only [List.flatMap_append, List.flatMap_cons]
  generalize A.flatMap recC = A' at *
  rw [List.set_append_right _ _ (by omega), List.set_append_right _ _ (by omega), List.set_append_right _ _ (by omega), List.set_append_right _ _ (by omega), List.set_append_right _ _ (by omega), hfl]
  congr 1
  simp [recC]

theorem zeroRec (w : World) : (zeroValue 94).run Tryz.prog w = .ok (.agg #[.int .i64 0, .int .i64 0, .int .i64 0, .int .i64 0, .int .i64 0]) w := by kernel_rfl

theorem clearRec (w : World) (b o n c : Nat) (hc : ∀ j, j < n * 5 → (w.cell? ⟨b, o + j, none⟩).isSome = true) (hf : ∀ j, j < n * 5 → w.frozen? ⟨b, o + j, none⟩ = false) :
    ∃ vs, ∀ ty, (Builtin.clear_ #[89] ty #[.slice (some ⟨b, o, none⟩) n c]).run Tryz.prog w = .ok (.tuple #[]) (w.setCells b o vs) := by
  refine run_clear_any w _ _ _ Tryz.underlying89 zeroRec (fun n v hv => ?_) b o n c hc hf
  simp only [Builtin.zeroCells, Array.toList_map, List.mem_map] at hv
  obtain ⟨i, _, rfl⟩ := hv
  have : ∀ k, k < 5 → ((Value.agg #[.int .i64 0, .int .i64 0, .int .i64 0, .int .i64 0, .int .i64 0]).cells[k]!).oneCell' = true := by decide
  exact this _ (Nat.mod_lt _ (by decide))

set_option maxHeartbeats 1000000 in
set_option maxRecDepth 100000 in
theorem delRec {A : Option Addr} {n c : Nat} {X : List Rec} {w0 w : World} {f : FuncId} {lb : Array Value} {p : Rec → Bool} (eg : ∀ args w, (callFunc f args).run Tryz.prog w = .ok (.enter f args) w)
    (own : Own w0 w 94 5 A n c (X.flatMap recC)) (hn : n ≤ 1000000000)
    (hp : ∀ (g : Nat) (W : World) (v : Rec), A = some ⟨g, 0, none⟩ → Only g w W → Calls Tryz.prog f (#[recV v] ++ lb) W fun e W' => e = .returned (.bool (p v)) ∧ Ext W W')
    (hp0 : ∀ (W : World) (v : Rec), Ext w W → Calls Tryz.prog f (#[recV v] ++ lb) W fun e W' => e = .returned (.bool (p v)) ∧ Ext W W') :
    Calls Tryz.prog 51 #[.slice A n c, .func (.func f) #[] lb] w fun e w' => ∃ A', e = .returned (.slice A' (X.filter fun v => !p v).length c) ∧ Own w0 w' 94 5 A' (X.filter fun v => !p v).length c ((X.filter fun v => !p v).flatMap recC) := by
  have hl : X.length = n := by have := own.reads.len; rw [flat_length (size := 5) (fun _ => rfl)] at this; omega
  have Hl := Lib.hid hl
  have Hp := Lib.hid hp
  have hix := idxRec (p := p) eg own.reads (by omega) hp0
  obtain ⟨I, hI⟩ : ∃ I, I = idxB p X := ⟨_, rfl⟩
  rw [← hI] at hix
  have Hix := Lib.hid hix
  rcases idxB_cases p X with ⟨i1, i2⟩ | ⟨k, x, i1, i2, i3, i4⟩
  · have hall : X.filter (fun v => !p v) = X := by
      rw [List.filter_eq_self]
      intro v hv
      rw [i2 v hv]
      rfl
    rw [hall, hl]
    have hI1 : I = -1 := by rw [hI, i1]
    subst hI1
    clear hix hI i1 i2 hall hp hp0 hl Hp
    go_enter Tryz.func51, Tryz.ntmps51
    go_wp2_with (go_at_call 98; refine Hix.out.mono ?_; rintro e w1 ⟨rfl, E1⟩)
    go_ret
    exact ⟨A, rfl, own.up E1⟩
  · have hkn : k < n := by have := (List.getElem?_eq_some_iff.1 i2).1; omega
    obtain ⟨g, rfl⟩ : ∃ g, A = some ⟨g, 0, none⟩ := by
      rcases own.row.2 with ⟨hv, h0⟩ | ⟨g, cap, cur, hv, _⟩
      · omega
      · cases hv; exact ⟨g, rfl⟩
    have hbase := own.base
    have hI1 : I = (k : Int) := by rw [hI, i1]
    subst hI1
    have hq : ((k : Int) == -1) = false := by rw [beq_eq_false_iff_ne]; omega
    have hfb := filter_before i4
    have h2 := i2
    have hf2 : (X.take (k + 1)).filter (fun v => !p v) = X.take k := by
      rw [take_filter h2, hfb, if_neg (by rw [i3]; simp), List.append_nil]
    have Hf2 := Lib.hid hf2
    clear hix hI i1 i2 i3 i4 hfb h2 hf2 hp hp0 hl
    go_enter Tryz.func51, Tryz.ntmps51
    go_wp2_with (go_at_call 98; refine Hix.out.mono ?_; rintro e w1 ⟨rfl, E1⟩)
    go_loopw [5, 6, 7] (fun i j _ wr => ∃ (iN jN : Nat) (Y : List Rec), i = .int .i64 iN ∧ j = .int .i64 jN ∧ iN < jN ∧ jN ≤ n ∧ Own w0 wr 94 5 (some ⟨g, 0, none⟩) n c (Y.flatMap recC) ∧ Y.length = n ∧
      Hid (Y.take iN = (X.take jN).filter (fun v => !p v)) ∧ Hid (Y.drop jN = X.drop jN) ∧ Only g w wr) (fun _ j _ _ => n - (intOf j).toNat)
    case atStart => exact ⟨k, k + 1, X, rfl, by go_num, by omega, by omega, own.up E1, Hl.out, Hf2.out.symm, rfl, (Only.refl g w).ext E1⟩
    case round =>
      obtain ⟨iN, jN, Y, rfl, rfl, hij, hj, ownY, hYl, hT, hD, hO⟩ := hrel
      by_cases hlt : jN < n
      · obtain ⟨b, off, v, hA, hv, hb1, c0, c1, c2, c3, c4⟩ := ownY.reads.rec' hlt
        cases hA
        have hlt2 : (jN : Int) < n := by omega
        have hXv : X[jN]? = some v := by
          have h := congrArg (fun l => l[0]?) hD.out
          simp only [List.getElem?_drop, Nat.add_zero] at h
          rw [← h]; exact hv
        have htf := take_filter (p := fun v => !p v) hXv
        have hD2 : Y.drop (jN + 1) = X.drop (jN + 1) := by
          have h := congrArg (List.drop 1) hD.out
          simpa [List.drop_drop] using h
        have hgw := ownY.base
        have hcall := Hp.out g wr v rfl hO
        have HD2 := Lib.hid hD2
        have HYl := Lib.hid hYl
        have Hv := Lib.hid hv
        simp only [Nat.zero_add] at c0 c1 c2 c3 c4
        obtain ⟨vn, vw, vf, va, vt⟩ := v
        simp only at c0 c1 c2 c3 c4
        have hcall2 := fun W (h : Only g w W) => Hp.out g W ⟨vn, vw, vf, va, vt⟩ rfl h
        unfold recV at hcall2
        rcases hq2 : p ⟨vn, vw, vf, va, vt⟩ with _ | _
        · rw [hq2] at htf hcall2
          have Hc := Lib.hid hcall2
          have Htf := Lib.hid htf
          clear hcall hcall2 hq2 htf hD2 hv hXv hYl
          go_wp2_with (go_at_fn f; refine (Hc.out _ (hO.ext (by repeat with_reducible (first | exact Ext.refl _ | refine Ext.alloc ?_ _ | refine Ext.drew ?_ | refine Ext.drewN ?_ _ | refine Ext.setCell ?_ (by first | exact Nat.le_refl _ | omega | (simp; done) | (simp; omega)) _)))).mono ?_; rintro e w2 ⟨rfl, E2⟩; have D2 := E2.new_blk; have y0 : w2.cell? ⟨wr.heap.size, 0, none⟩ = some (.int .i64 (vn : Int)) := D2.cell 0; have y1 : w2.cell? ⟨wr.heap.size, 1, none⟩ = some (.int .i64 (vw : Int)) := D2.cell 1; have y2 : w2.cell? ⟨wr.heap.size, 2, none⟩ = some (.int .i64 (vf : Int)) := D2.cell 2; have y3 : w2.cell? ⟨wr.heap.size, 3, none⟩ = some (.int .i64 (va : Int)) := D2.cell 3; have y4 : w2.cell? ⟨wr.heap.size, 4, none⟩ = some (.int .i64 (vt : Int)) := D2.cell 4; clear D2; have own2 := ownY.up (Ext.trans (by repeat with_reducible (first | exact Ext.refl _ | refine Ext.alloc ?_ _ | refine Ext.drew ?_ | refine Ext.drewN ?_ _ | refine Ext.setCell ?_ (by first | exact Nat.le_refl _ | omega | (simp; done) | (simp; omega)) _)) E2); have hO2 := (hO.ext (by repeat with_reducible (first | exact Ext.refl _ | refine Ext.alloc ?_ _ | refine Ext.drew ?_ | refine Ext.drewN ?_ _ | refine Ext.setCell ?_ (by first | exact Nat.le_refl _ | omega | (simp; done) | (simp; omega)) _))).ext E2; have fr := own2.there.2; obtain ⟨b', off', u, hA', hu, hb2, z0, z1, z2, z3, z4⟩ := own2.reads.rec' (k := iN) (by omega); cases hA'; simp only [Nat.zero_add] at z0 z1 z2 z3 z4; have Hu := Lib.hid hu; clear hu)
          go_roundw
          case rel =>
            refine ⟨iN + 1, jN + 1, Y.set iN ⟨vn, vw, vf, va, vt⟩, by go_num, by go_num, by omega, by omega, ?_, by rw [List.length_set]; exact HYl.out, ?_, ?_, ?_⟩
            · rw [← set_rec Y (by have := HYl.out; omega)]
              exact ((((own2.put _ _).put _ _).put _ _).put _ _).put _ _
            · show _ = _
              have hYi : iN < Y.length := by have := HYl.out; omega
              rw [Htf.out, ← hT.out, List.take_add_one, List.getElem?_set_self hYi, List.take_set_of_le (Nat.le_refl _)]
              simp
            · show _ = _
              rw [List.drop_set_of_lt (by omega)]
              exact HD2.out
            · exact ((((hO2.set _ _).set _ _).set _ _).set _ _).set _ _
          case measure => simp [intOf]; omega
        · rw [hq2] at htf hcall2
          have Hc := Lib.hid hcall2
          have Htf := Lib.hid htf
          clear hcall hcall2 hq2 htf hD2 hv hXv hYl
          go_wp2_with (go_at_fn f; refine (Hc.out _ (hO.ext (by repeat with_reducible (first | exact Ext.refl _ | refine Ext.alloc ?_ _ | refine Ext.drew ?_ | refine Ext.drewN ?_ _ | refine Ext.setCell ?_ (by first | exact Nat.le_refl _ | omega | (simp; done) | (simp; omega)) _)))).mono ?_; rintro e w2 ⟨rfl, E2⟩)
          go_roundw
          case rel =>
            refine ⟨iN, jN + 1, Y, rfl, by go_num, by omega, by omega, ownY.up (Ext.trans (by repeat with_reducible (first | exact Ext.refl _ | refine Ext.alloc ?_ _ | refine Ext.drew ?_ | refine Ext.drewN ?_ _ | refine Ext.setCell ?_ (by first | exact Nat.le_refl _ | omega | (simp; done) | (simp; omega)) _)) E2), HYl.out, ?_, HD2.out, (hO.ext (by repeat with_reducible (first | exact Ext.refl _ | refine Ext.alloc ?_ _ | refine Ext.drew ?_ | refine Ext.drewN ?_ _ | refine Ext.setCell ?_ (by first | exact Nat.le_refl _ | omega | (simp; done) | (simp; omega)) _))).ext E2⟩
            show _ = _
            rw [Htf.out, hT.out]
            simp
          case measure => simp [intOf]; omega
      · have hjn : jN = n := by omega
        subst hjn
        have hTn := hT.out
        rw [show X.take jN = X from List.take_of_length_le (by rw [Hl.out]; exact Nat.le_refl _)] at hTn
        have hlen : (X.filter fun v => !p v).length = iN := by rw [← hTn, List.length_take, hYl]; omega
        have hth := ownY.there
        have Hlen := Lib.hid hlen
        have HTn := Lib.hid hTn
        have hci : ¬ c = iN := by have := ownY.reads.cap; omega
        obtain ⟨vs, hcl⟩ := clearRec wr g (iN * 5) (jN - iN) (c - iN) (fun i hi => hth.1 _ (by omega)) (fun i _ => hth.2 _)
        have hijI : (iN : Int) ≤ jN := by omega
        have hcapI : (iN : Int) ≤ c := by have := ownY.reads.cap; omega
        clear hlen hTn hT hD
        go_wp2
        go_ret
        rw [Hlen.out, ← HTn.out]
        have hd := ownY.head (k := iN) (o := iN * 5) (by omega) (Nat.le_refl _) vs
        refine ⟨_, rfl, ?_⟩
        rw [flat_take (size := 5) (fun _ => rfl)] at hd
        exact hd

end Go.Proofs.YtcbpbpeogfbpiaaGreat

/- Contracts of layer 18: a field's records in the normal form. -/

namespace Go.Proofs.YtcbpbpeogfbpiaaGreat
open Go.RowKit Go.Shelf
set_option linter.unusedVariables false

theorem nStrike {number : Int} {r : Rec} {b : Nat} {w : World} (hc : w.cell? ⟨b, 0, none⟩ = some (.int .i64 number)) :
    Calls Tryz.prog 52 #[recV r, .pointer (some ⟨b, 0, none⟩)] w fun e w' => e = .returned (.bool (!((r.n : Int) == number))) ∧ Ext w w' := by
  have hb := World.block_lt_of_cell? w _ hc
  simp only at hb
  unfold recV
  go_enter Tryz.func52, Tryz.ntmps52
  go_wp2
  go_ret
  exact ⟨rfl, (by repeat with_reducible (first | exact Ext.refl _ | refine Ext.alloc ?_ _ | refine Ext.drew ?_ | refine Ext.drewN ?_ _ | refine Ext.setCell ?_ (by first | exact Nat.le_refl _ | omega | (simp; done) | (simp; omega)) _))⟩

/-- The records of a number, of bytes. -/
def recsN (number : Int) (bs : List UInt8) : List UInt8 := ((splitV bs).1.filter fun r => (r.n : Int) == number).flatMap fun r => spanB bs r.f r.t

theorem formB_small {S : List MsgD} {root d : Int} {bs : List UInt8} (hb : bs.length ≤ 100000) : (formB S root bs d).length ≤ 3200000 := by
  unfold formB
  split
  · rename_i h
    have := normB_small (checked_right h).1 (m := root.toNat) hb
    omega
  · exact Nat.zero_le _

theorem split_each {bs : List UInt8} : ∀ r ∈ (splitV bs).1, r.f ≤ r.t ∧ r.t ≤ bs.length := by
  refine scan_all (nextV_onward bs) (P := fun r => r.f ≤ r.t ∧ r.t ≤ bs.length) (fun p x hp h => ?_) bs.length 0 (by omega)
  have := nextV_ok h
  omega

theorem split_len (bs : List UInt8) : (splitV bs).1.length ≤ bs.length := by
  have h := scan_code (nextV_onward bs) bs.length 0 (by omega)
  unfold splitV
  have := h.2.2.1 (by omega)
  omega

theorem spans_le {F : List UInt8} : ∀ l : List Rec, (∀ r ∈ l, r.f ≤ r.t ∧ r.t ≤ F.length) → (l.flatMap fun r => spanB F r.f r.t).length ≤ l.length * F.length
  | [], _ => Nat.zero_le _
  | r :: l, h => by
    have ih := spans_le l (fun x hx => h x (List.mem_cons_of_mem _ hx))
    have h1 := h r List.mem_cons_self
    rw [List.flatMap_cons, List.length_append, spanB_length F h1.2, List.length_cons, Nat.succ_mul]
    omega

theorem spans_step {F : List UInt8} {X : List Rec} {k : Nat} {r : Rec} (h : X[k]? = some r) : ((X.take (k + 1)).flatMap fun r => spanB F r.f r.t) = ((X.take k).flatMap fun r => spanB F r.f r.t) ++ spanB F r.f r.t := by
  rw [List.take_add_one, h, List.flatMap_append]
  simp

set_option maxRecDepth 100000 in
set_option maxHeartbeats 4000000 in
theorem nFieldN {A : Option Addr} {n c : Nat} {S : List MsgV} {root d number : Int} {B : Option Addr} {n' c' : Nat} {bs : List UInt8} {w : World} (hs : SchemaAt w A n c S) (hb : BytesAt w B n' c' bs) (hn : n' ≤ 100000) :
    Calls Tryz.prog 12 #[.slice A n c, .int .i64 root, .slice B n' c', .int .i64 d, .int .i64 number] w fun e w' => ∃ A' n2 c2, e = .returned (.tuple #[.slice A' n2 c2, .int .u8 ((checkB (S.map MsgV.d) root bs d).2 : Nat)]) ∧ Own w w' 5 1 A' n2 c2 ((if (checkB (S.map MsgV.d) root bs d).2 = 0 then recsN number (formB (S.map MsgV.d) root bs d) else []).map bv) := by
  have hE := Ext.refl w
  have h1 := fun W (h : SchemaAt W A n c S) (h2 : BytesAt W B n' c' bs) => nFormB (root := root) (d := d) h h2 hn
  have hsm := formB_small (S := S.map MsgV.d) (root := root) (d := d) (bs := bs) (by have := hb.length; omega)
  have eg : ∀ args w, (callFunc 52 args).run Tryz.prog w = .ok (.enter 52 args) w := enters_of Tryz.func52 (by kernel_rfl) rfl
  generalize formB (S.map MsgV.d) root bs d = F at *
  generalize checkB (S.map MsgV.d) root bs d = V at *
  obtain ⟨p, C⟩ := V
  simp only at h1 ⊢
  generalize hfl : F.length = fl at *
  have H1 := Lib.hid h1
  have Hfl := Lib.hid hfl
  clear h1 hfl
  by_cases hC : C = 0
  · subst hC
    rw [if_pos rfl]
    rcases hsp : splitV F with ⟨l, P, C⟩
    have hll : l.length ≤ fl := by have := split_len F; rw [hsp, Hfl.out] at this; exact this
    have hse : ∀ r ∈ l, r.f ≤ r.t ∧ r.t ≤ fl := fun r hr => by have := split_each (bs := F) r (by rw [hsp]; exact hr); rw [Hfl.out] at this; exact this
    obtain ⟨X, hX⟩ : ∃ X, X = l.filter fun r => (r.n : Int) == number := ⟨_, rfl⟩
    have hR : recsN number F = X.flatMap fun r => spanB F r.f r.t := by unfold recsN; rw [hsp, ← hX]
    have hX2 : (l.filter fun r => !(!((r.n : Int) == number))) = X := by rw [hX]; simp
    rw [hR]
    have hm := fun W (h : BytesAt W A fl c F) => h
    have Hsp := Lib.hid hsp
    have HX2 := Lib.hid hX2
    have Hse := Lib.hid hse
    have HX := Lib.hid hX
    clear hsp hX2 hR hse hX hm
    have hmf : ∀ (fn : Fn) (first cap : Array Value) (w : World), (Instr.makeFunc fn first cap).run Tryz.prog w = .ok (.func fn first cap) w := fun _ _ _ _ => rfl
    go_enter Tryz.func12, Tryz.ntmps12
    go_wp2_with fail
    refine (H1.out _ (hs.up (by repeat with_reducible (first | exact Ext.refl _ | refine Ext.alloc ?_ _ | refine Ext.drew ?_ | refine Ext.drewN ?_ _ | refine Ext.setCell ?_ (by first | exact Nat.le_refl _ | omega | (simp; done) | (simp; omega)) _))) (hb.up (by repeat with_reducible (first | exact Ext.refl _ | refine Ext.alloc ?_ _ | refine Ext.drew ?_ | refine Ext.drewN ?_ _ | refine Ext.setCell ?_ (by first | exact Nat.le_refl _ | omega | (simp; done) | (simp; omega)) _)))).mono ?_
    rintro e w1 ⟨A1, c1, rfl, own1⟩
    have B1 := (BlkT.new w 3 #[.int .i64 number] rfl).up own1.ext
    have z1 : w1.cell? ⟨w.heap.size, 0, none⟩ = some (.int .i64 number) := B1.cell 0
    have l1 := B1.lt
    have X1 : Ext w w1 := Ext.trans (by repeat with_reducible (first | exact Ext.refl _ | refine Ext.alloc ?_ _ | refine Ext.drew ?_ | refine Ext.drewN ?_ _ | refine Ext.setCell ?_ (by first | exact Nat.le_refl _ | omega | (simp; done) | (simp; omega)) _)) own1.ext
    go_wp2_with fail
    refine (rSplitE own1.bytes (by omega) Hsp.out).mono ?_
    rintro e w2 ⟨A2, c2, rfl, own2⟩
    have z2 := own2.ext.of_cell z1
    go_wp2_with fail
    refine (delRec (p := fun r => !((r.n : Int) == number)) (lb := #[.pointer (some ⟨w.heap.size, 0, none⟩)]) eg own2 (by omega) ?_ ?_).mono ?_
    · rintro g W r rfl hO
      have hg := own2.base.1
      exact nStrike ((hO.cell (p := ⟨w.heap.size, 0, none⟩) (by have := own2.ext.size; show w.heap.size < _; omega) (by show w.heap.size ≠ g; omega)).trans z2)
    · intro W r hE
      exact nStrike (hE.of_cell z2)
    · rintro e w3 ⟨A3, rfl, own3⟩
      rw [HX2.out] at own3 ⊢
      have X3 : Ext w w3 := X1.trans own3.ext
      have hF3 := own1.bytes.up own3.ext
      have hXm : ∀ r ∈ X, r.f ≤ r.t ∧ r.t ≤ fl := fun r hr => by rw [HX.out] at hr; exact Hse.out r (List.mem_filter.1 hr).1
      have hXl : X.length ≤ fl := by rw [HX.out]; exact Nat.le_trans (List.length_filter_le _ _) hll
      have hsl : ∀ k, ((X.take k).flatMap fun r => spanB F r.f r.t).length ≤ 10240000000000 := fun k => by
        have h1 := spans_le (F := F) (X.take k) (fun r hr => by have := hXm r (List.mem_of_mem_take hr); rw [Hfl.out]; exact this)
        have h2 : (X.take k).length ≤ 3200000 := by rw [List.length_take]; omega
        have h3 := Nat.mul_le_mul h2 (show F.length ≤ 3200000 by rw [Hfl.out]; exact hsm)
        omega
      have Hsl := Lib.hid hsl
      have HXm := Lib.hid hXm
      have HF3 := Lib.hid hF3
      clear hsl hXm hF3 z1 z2 l1 B1
      go_wp2
      go_loopw [17, 41] (fun u i wr => ∃ (k : Nat) (U : Option Addr) (un uc : Nat), k ≤ X.length ∧ i = .int .i64 (k : Int) ∧ u = .slice U un uc ∧ Hid (un = ((X.take k).flatMap fun r => spanB F r.f r.t).length) ∧ Own w3 wr 5 1 U un uc (((X.take k).flatMap fun r => spanB F r.f r.t).map bv)) (fun _ i _ => X.length - (intOf i).toNat)
      case atStart => exact ⟨0, none, 0, 0, Nat.zero_le _, rfl, rfl, rfl, Own.nil (Ext.refl _) _ _⟩
      case round =>
        obtain ⟨k, U, un, uc, hk, rfl, rfl, hun, ownr⟩ := hrel
        have Xr := ownr.ext
        by_cases hlt : k < X.length
        · have hltI : (k : Int) < X.length := by omega
          obtain ⟨b5, off5, r, hA, hrk, hb5, e0, e1, e2, e3, e4⟩ := (own3.reads.ext Xr).rec' hlt
          have hrb := HXm.out r (List.mem_of_getElem? hrk)
          obtain ⟨A9, run9, hb9⟩ := spanB_at10 (HF3.out.up Xr) (l := r.f) (m := r.t) (by omega) (by omega)
          have hsl := Hsl.out k
          rw [← hun.out] at hsl
          have Hrk := Lib.hid hrk
          have Hb9 := Lib.hid hb9
          have Hown := Lib.hid ownr
          subst hA
          clear hrk hb9 ownr
          go_wp2_with (at_builtin; refine wpList_more elemB rfl (.tmp 45) (.tmp 51) rfl rfl (Hown.out.up (by repeat with_reducible (first | exact Ext.refl _ | refine Ext.alloc ?_ _ | refine Ext.drew ?_ | refine Ext.drewN ?_ _ | refine Ext.setCell ?_ (by first | exact Nat.le_refl _ | omega | (simp; done) | (simp; omega)) _))) rfl (Hb9.out.up (by repeat with_reducible (first | exact Ext.refl _ | refine Ext.alloc ?_ _ | refine Ext.drew ?_ | refine Ext.drewN ?_ _ | refine Ext.setCell ?_ (by first | exact Nat.le_refl _ | omega | (simp; done) | (simp; omega)) _))) (bv_one _) (by omega) (by unfold maxLen; omega) ?_; intro A4 c4 w4 own4 g4)
          go_roundw
          case rel =>
            refine ⟨k + 1, A4, un + (r.t - r.f), c4, by omega, by go_num, rfl, ?_, ?_⟩
            · show _ = _
              rw [spans_step Hrk.out, List.length_append, ← hun.out, Hb9.out.length]
            · rw [spans_step Hrk.out, List.map_append]
              exact own4
          case measure => simp [intOf]; omega
        · obtain rfl : k = X.length := by omega
          have hltI : ¬ (X.length : Int) < X.length := by omega
          rw [List.take_length] at ownr
          go_wp2
          go_ret2
          exact ⟨U, un, uc, rfl, ownr.since X3⟩
  · have hC' : ¬ ((C : Int) = 0) := by omega
    rw [if_neg hC]
    go_enter Tryz.func12, Tryz.ntmps12
    go_wp2_with (first
      | (go_at_call 10; (with_reducible refine (H1.out _ (hs.up (by repeat with_reducible (first | exact Ext.refl _ | refine Ext.alloc ?_ _ | refine Ext.drew ?_ | refine Ext.drewN ?_ _ | refine Ext.setCell ?_ (by first | exact Nat.le_refl _ | omega | (simp; done) | (simp; omega)) _))) (hb.up (by repeat with_reducible (first | exact Ext.refl _ | refine Ext.alloc ?_ _ | refine Ext.drew ?_ | refine Ext.drewN ?_ _ | refine Ext.setCell ?_ (by first | exact Nat.le_refl _ | omega | (simp; done) | (simp; omega)) _)))).mono ?_); rintro e w1 ⟨A3, c3, rfl, own3⟩; have X_ : Ext w w1 := Ext.trans (by repeat with_reducible (first | exact Ext.refl _ | refine Ext.alloc ?_ _ | refine Ext.drew ?_ | refine Ext.drewN ?_ _ | refine Ext.setCell ?_ (by first | exact Nat.le_refl _ | omega | (simp; done) | (simp; omega)) _)) own3.ext; replace hE := hE.up X_; replace hb := hb.up X_; clear X_))
    go_ret2
    exact ⟨none, 0, 0, rfl, Own.nil hE _ _⟩

theorem recs_yes {F : List UInt8} {l : List Rec} {number : Int} {k : Nat} {r : Rec} (h : l[k]? = some r) (hn : (r.n : Int) = number) : (((l.take (k + 1)).filter fun r => (r.n : Int) == number).flatMap fun r => spanB F r.f r.t) = (((l.take k).filter fun r => (r.n : Int) == number).flatMap fun r => spanB F r.f r.t) ++ spanB F r.f r.t := by
  rw [List.take_add_one, h, List.filter_append, List.flatMap_append]
  simp [hn]

theorem recs_no {F : List UInt8} {l : List Rec} {number : Int} {k : Nat} {r : Rec} (h : l[k]? = some r) (hn : ¬ (r.n : Int) = number) : (((l.take (k + 1)).filter fun r => (r.n : Int) == number).flatMap fun r => spanB F r.f r.t) = (((l.take k).filter fun r => (r.n : Int) == number).flatMap fun r => spanB F r.f r.t) := by
  rw [List.take_add_one, h, List.filter_append, List.flatMap_append]
  simp [hn]

set_option maxRecDepth 100000 in
set_option maxHeartbeats 4000000 in
theorem rFieldN {B : Option Addr} {fl c : Nat} {F : List UInt8} {number : Int} {w : World} (hb : BytesAt w B fl c F) (hfl : fl ≤ 3200000) :
    Calls Tryz.prog 18 #[.slice B fl c, .int .i64 number] w fun e w' => ∃ A' n2 c2, e = .returned (.slice A' n2 c2) ∧ Own w w' 5 1 A' n2 c2 ((recsN number F).map bv) := by
  have hbl := hb.length
  rcases hsp : splitV F with ⟨l, P, C⟩
  have hll : l.length ≤ fl := by have := split_len F; rw [hsp, hbl] at this; exact this
  have hse : ∀ r ∈ l, r.f ≤ r.t ∧ r.t ≤ fl := fun r hr => by have := split_each (bs := F) r (by rw [hsp]; exact hr); rw [hbl] at this; exact this
  have hR : recsN number F = (l.filter fun r => (r.n : Int) == number).flatMap fun r => spanB F r.f r.t := by unfold recsN; rw [hsp]
  have hsl : ∀ k, (((l.take k).filter fun r => (r.n : Int) == number).flatMap fun r => spanB F r.f r.t).length ≤ 10240000000000 := fun k => by
    have h1 := spans_le (F := F) ((l.take k).filter fun r => (r.n : Int) == number) (fun r hr => by have := hse r (List.mem_of_mem_take (List.mem_filter.1 hr).1); rw [hbl]; exact this)
    have h2 : ((l.take k).filter fun r => (r.n : Int) == number).length ≤ 3200000 := Nat.le_trans (List.length_filter_le _ _) (by rw [List.length_take]; omega)
    have h3 := Nat.mul_le_mul h2 (show F.length ≤ 3200000 by omega)
    omega
  rw [hR]
  have Hsp := Lib.hid hsp
  have Hse := Lib.hid hse
  have Hsl := Lib.hid hsl
  have Hb := Lib.hid hb
  clear hsp hse hsl hR hb hbl
  go_enter Tryz.func18, Tryz.ntmps18
  go_wp2_with fail
  refine (rSplitRE Hb.out (by omega) Hsp.out).mono ?_
  rintro e w2 ⟨A2, c2, rfl, own2⟩
  have X2 := own2.ext
  go_wp2
  go_loopw [8, 9] (fun u i wr => ∃ (k : Nat) (U : Option Addr) (un uc : Nat), k ≤ l.length ∧ i = .int .i64 (k : Int) ∧ u = .slice U un uc ∧ Hid (un = (((l.take k).filter fun r => (r.n : Int) == number).flatMap fun r => spanB F r.f r.t).length) ∧ Own w2 wr 5 1 U un uc ((((l.take k).filter fun r => (r.n : Int) == number).flatMap fun r => spanB F r.f r.t).map bv)) (fun _ i _ => l.length - (intOf i).toNat)
  case atStart => exact ⟨0, none, 0, 0, Nat.zero_le _, rfl, rfl, rfl, Own.nil (Ext.refl _) _ _⟩
  case round =>
    obtain ⟨k, U, un, uc, hk, rfl, rfl, hun, ownr⟩ := hrel
    have Xr := ownr.ext
    by_cases hlt : k < l.length
    · have hltI : (k : Int) < l.length := by omega
      obtain ⟨b5, off5, r, hA, hrk, hb5, e0, e1, e2, e3, e4⟩ := (own2.reads.ext Xr).rec' hlt
      have hrb := Hse.out r (List.mem_of_getElem? hrk)
      obtain ⟨A9, run9, hb9⟩ := spanB_at10 (Hb.out.up (X2.trans Xr)) (l := r.f) (m := r.t) (by omega) (by omega)
      have hsl := Hsl.out k
      rw [← hun.out] at hsl
      have Hrk := Lib.hid hrk
      have Hb9 := Lib.hid hb9
      have Hown := Lib.hid ownr
      subst hA
      clear hrk hb9 ownr
      by_cases hn : (r.n : Int) = number
      · have hq : ((r.n : Int) == number) = true := by rw [beq_iff_eq]; exact hn
        have Hn := Lib.hid hn
        clear hn
        go_wp2
        go_region_law (first
          | (refine step_more elemB (by rfl) (.tmp 29) (.tmp 41) (by rfl) (by rfl) (Hown.out.up (Ext.refl _).drew) (by rfl) (Hb9.out.up (Ext.refl _).drew) (bv_one _) (by omega) (by unfold maxLen; omega) ?_; intro A4 c4 w4 own4 g4))
        all_goals
          go_simp
          go_wp2
          go_roundw
          case rel =>
            refine ⟨k + 1, A4, un + (r.t - r.f), c4, by omega, by go_num, rfl, ?_, ?_⟩
            · show _ = _
              rw [recs_yes Hrk.out Hn.out, List.length_append, ← hun.out, Hb9.out.length]
            · rw [recs_yes Hrk.out Hn.out, List.map_append]
              exact own4
          case measure => simp [intOf]; omega
      · have hq : ((r.n : Int) == number) = false := by rw [beq_eq_false_iff_ne]; exact hn
        have Hn := Lib.hid hn
        clear hn
        go_wp2
        go_roundw
        case rel => exact ⟨k + 1, U, un, uc, by omega, by go_num, rfl, by rw [recs_no Hrk.out Hn.out]; exact hun, by rw [recs_no Hrk.out Hn.out]; exact Hown.out.up (by repeat with_reducible (first | exact Ext.refl _ | refine Ext.alloc ?_ _ | refine Ext.drew ?_ | refine Ext.drewN ?_ _ | refine Ext.setCell ?_ (by first | exact Nat.le_refl _ | omega | (simp; done) | (simp; omega)) _))⟩
        case measure => simp [intOf]; omega
    · obtain rfl : k = l.length := by omega
      have hltI : ¬ (l.length : Int) < l.length := by omega
      rw [List.take_length] at ownr
      go_wp2
      go_ret
      exact ⟨U, un, uc, rfl, ownr.since X2⟩

end Go.Proofs.YtcbpbpeogfbpiaaGreat
