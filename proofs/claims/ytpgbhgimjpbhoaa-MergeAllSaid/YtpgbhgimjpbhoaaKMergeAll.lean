/- The walk of the law MergeAll, out of its callees' contracts. -/
import Derived.Test.YtpgbhgimjpbhoaaW17d
import Derived.Test.YtpgbhgimjpbhoaaKMergeChain
namespace Go.Proofs.Ytpgbhgimjpbhoaa
open Go.RowKit
set_option linter.unusedVariables false

theorem flatR_bound {l : List BRow} {w : World} {A : Option Addr} {n c : Nat} (h : BRowsAt w A n c l) {B : Nat} (hB : ∀ r ∈ l, r.c ≤ B) : ∀ k, (flatR (l.take k)).length ≤ k * B := by
  intro k
  induction k with
  | zero => simp [flatR]
  | succ k ih =>
    rcases hk : l[k]? with _ | r
    · rw [List.take_of_length_le (by have := List.getElem?_eq_none_iff.1 hk; omega)]
      rw [List.take_of_length_le (by have := List.getElem?_eq_none_iff.1 hk; omega)] at ih
      rw [Nat.succ_mul]; omega
    · rw [flatR_snoc hk, List.length_append, Nat.succ_mul]
      have h1 := h.2 r (List.mem_of_getElem? hk)
      have h2 := h1.length
      have h3 := Reads.cap h1
      have h4 := hB r (List.mem_of_getElem? hk)
      omega

set_option maxRecDepth 100000 in
set_option maxHeartbeats 2000000 in
theorem mergeAll_many {A A' : Option Addr} {n c n' c' : Nat} {S : List MsgV} {root : Int} {l : List BRow} {B C : Option Addr} {n1 c1 n2 c2 : Nat} {xs ys : List UInt8} {d : Int} {w : World} (hs : SchemaAt w A n c S) (hr : BRowsAt w A' n' c' l) (hcl : c' * 24 ≤ 140737488351232) (ha : BytesAt w B n1 c1 xs) (sa : c1 * 1 ≤ 140737488351232) (hb : BytesAt w C n2 c2 ys) (sb : c2 * 1 ≤ 140737488351232) (h12 : ¬ n' ≤ 12) :
    Calls Try.prog 7 #[.slice A n c, .int .i64 root, .slice A' n' c', .slice B n1 c1, .slice C n2 c2, .int .i64 d] w fun e w' => e = .returned (.bool true) ∧ Ext w w' := by
  have hE := Ext.refl w
  have hcap := Reads.cap hr.1
  have hcap1 := Reads.cap ha
  have hcap2 := Reads.cap hb
  have g1 : (n1 : Int) ≤ 140737488351232 := by omega
  have g2 : (n2 : Int) ≤ 140737488351232 := by omega
  have g3 : (n' : Int) ≤ 140737488351232 := by omega
  have g12 : (12 : Int) < n' := by omega
  have Hr := Lib.hid hr
  clear hr h12
  go_enter Try.func7, Try.ntmps7
  go_wp2_with (go_at_call 32; refine (alive17 _).mono ?_; rintro e w1 ⟨rfl, E1⟩; have X_ : Ext w w1 := Ext.trans (by repeat with_reducible (first | exact Ext.refl _ | refine Ext.alloc ?_ _ | refine Ext.drew ?_ | refine Ext.drewN ?_ _ | refine Ext.setCell ?_ (by first | exact Nat.le_refl _ | omega | (simp; done) | (simp; omega)) _)) E1; replace hE := hE.up X_; replace hs := hs.up X_; clear X_)
  go_loopw [13, 14] (fun u i wr => ∃ (k : Nat) (y : Int), k ≤ n' ∧ i = .int .i64 (k : Int) ∧ u = .int .i64 y ∧ Ext w1 wr) (fun _ i _ => n' - (intOf i).toNat)
  case atStart => exact ⟨0, _, Nat.zero_le _, rfl, rfl, Ext.refl _⟩
  case round =>
    obtain ⟨k, y, hk, rfl, rfl, hEr⟩ := hrel
    by_cases hlt : k < n'
    · have hlti : (k : Int) < n' := by omega
      obtain ⟨b, off, r', rfl, hr', hbl, hbr, c0⟩ := (Hr.out.up (hE.trans hEr)).row hlt
      clear hr' hbr
      go_wp2
      go_roundw
      case rel => exact ⟨k + 1, _, by omega, by go_num, rfl, hEr⟩
      case measure => simp [intOf]; omega
    · obtain rfl : k = n' := by omega
      have hsr := hs.up hEr
      have hE2 := hE.trans hEr
      go_wp2_with (go_at_call 12; refine (few07 hsr).mono ?_; rintro e w2 ⟨x, rfl, E2⟩; have X_ : Ext wr w2 := Ext.trans (by repeat with_reducible (first | exact Ext.refl _ | refine Ext.alloc ?_ _ | refine Ext.drew ?_ | refine Ext.drewN ?_ _ | refine Ext.setCell ?_ (by first | exact Nat.le_refl _ | omega | (simp; done) | (simp; omega)) _)) E2; replace hE2 := hE2.up X_; clear X_)
      all_goals
        go_ret
        exact ⟨rfl, hE2⟩

set_option maxRecDepth 100000 in
set_option maxHeartbeats 4000000 in
theorem mergeAll_few {A A' : Option Addr} {n c n' c' : Nat} {S : List MsgV} {root : Int} {l : List BRow} {B C : Option Addr} {n1 c1 n2 c2 : Nat} {xs ys : List UInt8} {d : Int} {w : World} (hs : SchemaAt w A n c S) (hr : BRowsAt w A' n' c' l) (hrow : ∀ r ∈ l, r.c ≤ 140737488351232) (ha : BytesAt w B n1 c1 xs) (sa : c1 * 1 ≤ 140737488351232) (hb : BytesAt w C n2 c2 ys) (sb : c2 * 1 ≤ 140737488351232) (h12 : n' ≤ 12) :
    Calls Try.prog 7 #[.slice A n c, .int .i64 root, .slice A' n' c', .slice B n1 c1, .slice C n2 c2, .int .i64 d] w fun e w' => e = .returned (.bool true) ∧ Ext w w' := by
  have hE := Ext.refl w
  have hcap := Reads.cap hr.1
  have hcap1 := Reads.cap ha
  have hcap2 := Reads.cap hb
  have g1 : (n1 : Int) ≤ 140737488351232 := by omega
  have g2 : (n2 : Int) ≤ 140737488351232 := by omega
  have g12 : (n' : Int) ≤ 12 := by omega
  have Hbd := Lib.hid (flatR_bound hr hrow)
  have Hr := Lib.hid hr
  clear hr hrow
  go_enter Try.func7, Try.ntmps7
  go_wp2_with (go_at_call 32; refine (alive17 _).mono ?_; rintro e w1 ⟨rfl, E1⟩; have X_ : Ext w w1 := Ext.trans (by repeat with_reducible (first | exact Ext.refl _ | refine Ext.alloc ?_ _ | refine Ext.drew ?_ | refine Ext.drewN ?_ _ | refine Ext.setCell ?_ (by first | exact Nat.le_refl _ | omega | (simp; done) | (simp; omega)) _)) E1; replace hE := hE.up X_; replace hs := hs.up X_; replace ha := ha.up X_; replace hb := hb.up X_; clear X_)
  go_loopw [13, 14] (fun u i wr => ∃ (k : Nat) (F : Nat), k ≤ n' ∧ i = .int .i64 (k : Int) ∧ u = .int .i64 ((n1 : Int) + n2 + F) ∧ Hid (F = (flatR (l.take k)).length) ∧ Ext w1 wr) (fun _ i _ => n' - (intOf i).toNat)
  case atStart => exact ⟨0, 0, Nat.zero_le _, rfl, by simp, by show 0 = _; simp [flatR], Ext.refl _⟩
  case round =>
    obtain ⟨k, F, hk, rfl, rfl, hF, hEr⟩ := hrel
    by_cases hlt : k < n'
    · have hlti : (k : Int) < n' := by omega
      obtain ⟨b, off, r', rfl, hr', hbl, hbr, c0⟩ := (Hr.out.up (hE.trans hEr)).row hlt
      have hbd := Hbd.out (k + 1)
      have hfs := flatR_snoc hr'
      rw [hfs, List.length_append, hbr.length, ← hF.out] at hbd
      have hsum : (n1 : Int) + n2 + F + r'.n ≤ 2000000000000000000 := by omega
      have Hfs : Hid (F + r'.n = (flatR (l.take (k + 1))).length) := by show _ = _; rw [hfs, List.length_append, hbr.length, ← hF.out]
      clear hr' hbr hbd hfs
      go_wp2
      go_roundw
      case rel => exact ⟨k + 1, F + r'.n, by omega, by go_num, by congr 1; omega, Hfs, hEr⟩
      case measure => simp [intOf]; omega
    · obtain rfl : k = n' := by omega
      have hsr := hs.up hEr
      have har := ha.up hEr
      have hbr := hb.up hEr
      have hrr := Hr.out.up (hE.trans hEr)
      have hE2 := hE.trans hEr
      have hFe : F = (flatR l).length := by rw [hF.out, List.take_of_length_le (by rw [Hr.out.length]; exact Nat.le_refl _)]
      by_cases hbig : (2000 : Int) < (n1 : Int) + n2 + F
      · clear hFe hF
        go_wp2_with (go_at_call 12; refine (few07 hsr).mono ?_; rintro e w2 ⟨x, rfl, E2⟩; have X_ : Ext wr w2 := Ext.trans (by repeat with_reducible (first | exact Ext.refl _ | refine Ext.alloc ?_ _ | refine Ext.drew ?_ | refine Ext.drewN ?_ _ | refine Ext.setCell ?_ (by first | exact Nat.le_refl _ | omega | (simp; done) | (simp; omega)) _)) E2; replace hE2 := hE2.up X_; clear X_)
        all_goals
          go_ret
          exact ⟨rfl, hE2⟩
      · have la := har.length
        have lb := hbr.length
        have hFl : (flatR l).length ≤ 2000 := by omega
        have q2 : ¬ (2000 : Int) < (n1 : Int) + n2 + F := hbig
        clear hFe hF hbig
        go_wp2_with fail
        refine (few07 hsr).mono ?_
        rintro e w2 ⟨x, rfl, E2⟩
        replace hE2 := hE2.trans E2
        have hs2 := hsr.up E2
        replace har := har.up E2
        replace hbr := hbr.up E2
        have hr2 := hrr.up E2
        clear hrr
        rcases x with _ | _
        · go_wp2
          go_ret
          exact ⟨rfl, hE2⟩
        · -- the second half: two messages
          have hK12 : twoC (S.map MsgV.d) root d xs ys ≤ 12 := by
            unfold twoC
            have := argsV_le (S.map MsgV.d) root d
            have := checkB_le (S.map MsgV.d) root xs d
            have := checkB_le (S.map MsgV.d) root ys d
            split
            · split <;> omega
            · omega
          obtain ⟨P, hP⟩ := allC_has (S.map MsgV.d) root d l
          by_cases hK : twoC (S.map MsgV.d) root d xs ys = 0
          · obtain ⟨_, _, _, _, r0, r1, hR⟩ := valid_args (twoC_valid.1 hK).1
            rw [List.length_map] at r1
            obtain ⟨m, rfl⟩ := Int.eq_ofNat_of_zero_le r0
            obtain ⟨M, hM⟩ : ∃ M, S[m]? = some M := ⟨_, List.getElem?_eq_getElem (by omega)⟩
            have hM200 : M.n ≤ 1000000000000 := by
              have h1 := (right_msg hR (i := m) (m := M.d) (by rw [List.getElem?_map, hM]; rfl)).2.2.1
              rw [(hs2.2 M (List.mem_of_getElem? hM)).1.length] at h1
              omega
            have t3 := fun (W : World) (h : SchemaAt W A n c S) (ha : BytesAt W B n1 c1 xs) (hb : BytesAt W C n2 c2 ys) => mOver_ok h ha hb (by omega) hM hK
            have t4 := fun (W : World) (h : SchemaAt W A n c S) (b : Option Addr) (hb : BRowsAt W b 2 2 [⟨B, n1, c1, xs⟩, ⟨C, n2, c2, ys⟩]) => mAllR_ok h hb (by rw [flat_two, List.length_append]; omega) ((twoC_all _ (m : Int) d).1 hK)
            have t5 := fun (W : World) (h : SchemaAt W A n c S) (ha : BytesAt W B n1 c1 xs) (hb : BytesAt W C n2 c2 ys) => mOverR h ha hb (by omega) hM hM200
            generalize ((viewsV M.d.fields xs).1.filter (overP M.d.fields (viewsV M.d.fields ys).1)).length = ov at *
            have T3 := Lib.hid t3
            have T4 := Lib.hid t4
            have T5 := Lib.hid t5
            clear t3 t4 t5 hM hM200 hR r0 r1 hK hK12
            rcases P with _ | ⟨i, K⟩
            · have t1 := fun (W : World) (h : SchemaAt W A n c S) (hb : BRowsAt W A' k c' l) => mAll_ok h hb (by omega) hP
              have t2 := fun (W : World) (h : SchemaAt W A n c S) (hb : BRowsAt W A' k c' l) => mAllR_ok h hb (by omega) hP
              have T1 := Lib.hid t1
              have T2 := Lib.hid t2
              clear t1 t2 hP
              go_wp2_with (first
                | (go_at_call 33; refine (T1.out _ hs2 hr2).mono ?_; rintro e w3 ⟨A3, d3, rfl, own3⟩; have X_ : Ext w2 w3 := Ext.trans (by repeat with_reducible (first | exact Ext.refl _ | refine Ext.alloc ?_ _ | refine Ext.drew ?_ | refine Ext.drewN ?_ _ | refine Ext.setCell ?_ (by first | exact Nat.le_refl _ | omega | (simp; done) | (simp; omega)) _)) own3.ext; replace hE2 := hE2.up X_; replace hs2 := hs2.up X_; replace har := har.up X_; replace hbr := hbr.up X_; replace hr2 := hr2.up X_; clear X_)
                | (go_at_call 34; (with_reducible refine (T2.out _ hs2 hr2).mono ?_); rintro e w4 ⟨A4, d4, rfl, own4⟩; have X_ : Ext w3 w4 := Ext.trans (by repeat with_reducible (first | exact Ext.refl _ | refine Ext.alloc ?_ _ | refine Ext.drew ?_ | refine Ext.drewN ?_ _ | refine Ext.setCell ?_ (by first | exact Nat.le_refl _ | omega | (simp; done) | (simp; omega)) _)) own4.ext; replace hE2 := hE2.up X_; replace hs2 := hs2.up X_; replace har := har.up X_; replace hbr := hbr.up X_; replace own3 := own3.up X_; clear X_; clear T2)
                | (go_at_call 35; refine (same own3.bytes own4.bytes).mono ?_; rintro e w' ⟨rfl, rfl⟩)
                | (go_at_call 36; refine (T3.out _ hs2 har hbr).mono ?_; rintro e w5 ⟨rfl, E5⟩; have X_ : Ext w4 w5 := Ext.trans (by repeat with_reducible (first | exact Ext.refl _ | refine Ext.alloc ?_ _ | refine Ext.drew ?_ | refine Ext.drewN ?_ _ | refine Ext.setCell ?_ (by first | exact Nat.le_refl _ | omega | (simp; done) | (simp; omega)) _)) E5; replace hE2 := hE2.up X_; replace hs2 := hs2.up X_; replace har := har.up X_; replace hbr := hbr.up X_; clear X_)
                | (go_at_call 34; (with_reducible refine (T4.out _ (hs2.up (by repeat with_reducible (first | exact Ext.refl _ | refine Ext.alloc ?_ _ | refine Ext.drew ?_ | refine Ext.drewN ?_ _ | refine Ext.setCell ?_ (by first | exact Nat.le_refl _ | omega | (simp; done) | (simp; omega)) _))) _ (brows_two rfl har hbr)).mono ?_); rintro e w6 ⟨A6, d6, rfl, own6⟩; have X_ : Ext w5 w6 := Ext.trans (by repeat with_reducible (first | exact Ext.refl _ | refine Ext.alloc ?_ _ | refine Ext.drew ?_ | refine Ext.drewN ?_ _ | refine Ext.setCell ?_ (by first | exact Nat.le_refl _ | omega | (simp; done) | (simp; omega)) _)) own6.ext; replace hE2 := hE2.up X_; replace hs2 := hs2.up X_; replace har := har.up X_; replace hbr := hbr.up X_; clear X_; clear T4)
                | (go_at_call 37; refine (T5.out _ hs2 har hbr).mono ?_; rintro e w7 ⟨rfl, E7⟩; have X_ : Ext w6 w7 := Ext.trans (by repeat with_reducible (first | exact Ext.refl _ | refine Ext.alloc ?_ _ | refine Ext.drew ?_ | refine Ext.drewN ?_ _ | refine Ext.setCell ?_ (by first | exact Nat.le_refl _ | omega | (simp; done) | (simp; omega)) _)) E7; replace hE2 := hE2.up X_; clear X_))
              all_goals
                go_ret
                exact ⟨by simp, hE2⟩
            · have hK1 := allC_le hP
              have t1 := fun (W : World) (h : SchemaAt W A n c S) (hb : BRowsAt W A' k c' l) => mAll_bad h hb (by omega) hP
              have t2 := fun (W : World) (h : SchemaAt W A n c S) (hb : BRowsAt W A' k c' l) => mAllR_bad h hb (by omega) hP
              have hKi : (K : Int) < 256 := by omega
              have T1 := Lib.hid t1
              have T2 := Lib.hid t2
              clear t1 t2 hP hK1
              go_wp2_with (first
                | (go_at_call 33; refine (T1.out _ hs2 hr2).mono ?_; rintro e w3 ⟨rfl, E3⟩; have X_ : Ext w2 w3 := Ext.trans (by repeat with_reducible (first | exact Ext.refl _ | refine Ext.alloc ?_ _ | refine Ext.drew ?_ | refine Ext.drewN ?_ _ | refine Ext.setCell ?_ (by first | exact Nat.le_refl _ | omega | (simp; done) | (simp; omega)) _)) E3; replace hE2 := hE2.up X_; replace hs2 := hs2.up X_; replace har := har.up X_; replace hbr := hbr.up X_; replace hr2 := hr2.up X_; clear X_)
                | (go_at_call 34; (with_reducible refine (T2.out _ hs2 hr2).mono ?_); rintro e w4 ⟨rfl, E4⟩; have X_ : Ext w3 w4 := Ext.trans (by repeat with_reducible (first | exact Ext.refl _ | refine Ext.alloc ?_ _ | refine Ext.drew ?_ | refine Ext.drewN ?_ _ | refine Ext.setCell ?_ (by first | exact Nat.le_refl _ | omega | (simp; done) | (simp; omega)) _)) E4; replace hE2 := hE2.up X_; replace hs2 := hs2.up X_; replace har := har.up X_; replace hbr := hbr.up X_; clear X_; clear T2)
                | (go_at_call 35; refine (same (BytesAt.nil _) (BytesAt.nil _)).mono ?_; rintro e w' ⟨rfl, rfl⟩)
                | (go_at_call 36; refine (T3.out _ hs2 har hbr).mono ?_; rintro e w5 ⟨rfl, E5⟩; have X_ : Ext w4 w5 := Ext.trans (by repeat with_reducible (first | exact Ext.refl _ | refine Ext.alloc ?_ _ | refine Ext.drew ?_ | refine Ext.drewN ?_ _ | refine Ext.setCell ?_ (by first | exact Nat.le_refl _ | omega | (simp; done) | (simp; omega)) _)) E5; replace hE2 := hE2.up X_; replace hs2 := hs2.up X_; replace har := har.up X_; replace hbr := hbr.up X_; clear X_)
                | (go_at_call 34; (with_reducible refine (T4.out _ (hs2.up (by repeat with_reducible (first | exact Ext.refl _ | refine Ext.alloc ?_ _ | refine Ext.drew ?_ | refine Ext.drewN ?_ _ | refine Ext.setCell ?_ (by first | exact Nat.le_refl _ | omega | (simp; done) | (simp; omega)) _))) _ (brows_two rfl har hbr)).mono ?_); rintro e w6 ⟨A6, d6, rfl, own6⟩; have X_ : Ext w5 w6 := Ext.trans (by repeat with_reducible (first | exact Ext.refl _ | refine Ext.alloc ?_ _ | refine Ext.drew ?_ | refine Ext.drewN ?_ _ | refine Ext.setCell ?_ (by first | exact Nat.le_refl _ | omega | (simp; done) | (simp; omega)) _)) own6.ext; replace hE2 := hE2.up X_; replace hs2 := hs2.up X_; replace har := har.up X_; replace hbr := hbr.up X_; clear X_; clear T4)
                | (go_at_call 37; refine (T5.out _ hs2 har hbr).mono ?_; rintro e w7 ⟨rfl, E7⟩; have X_ : Ext w6 w7 := Ext.trans (by repeat with_reducible (first | exact Ext.refl _ | refine Ext.alloc ?_ _ | refine Ext.drew ?_ | refine Ext.drewN ?_ _ | refine Ext.setCell ?_ (by first | exact Nat.le_refl _ | omega | (simp; done) | (simp; omega)) _)) E7; replace hE2 := hE2.up X_; clear X_))
              all_goals
                go_ret
                exact ⟨by simp, hE2⟩
          · obtain ⟨i2, hi2⟩ := (twoC_all (S.map MsgV.d) root d (A := B) (B := C) (n := n1) (c := c1) (m := n2) (e := c2) (xs := xs) (ys := ys)).2 hK
            have t3 := fun (W : World) (h : SchemaAt W A n c S) (ha : BytesAt W B n1 c1 xs) (hb : BytesAt W C n2 c2 ys) => mOver_bad (root := root) (d := d) h ha hb (by omega) rfl hK
            have t4 := fun (W : World) (h : SchemaAt W A n c S) (b : Option Addr) (hb : BRowsAt W b 2 2 [⟨B, n1, c1, xs⟩, ⟨C, n2, c2, ys⟩]) => mAllR_bad h hb (by rw [flat_two, List.length_append]; omega) hi2
            generalize twoC (S.map MsgV.d) root d xs ys = K2 at *
            have q3 : ((K2 : Int) != 0) = true := by rw [bne_iff_ne]; omega
            have hK2i : (K2 : Int) < 256 := by omega
            have T3 := Lib.hid t3
            have T4 := Lib.hid t4
            clear t3 t4 hi2 hK hK12
            rcases P with _ | ⟨i, K⟩
            · have t1 := fun (W : World) (h : SchemaAt W A n c S) (hb : BRowsAt W A' k c' l) => mAll_ok h hb (by omega) hP
              have t2 := fun (W : World) (h : SchemaAt W A n c S) (hb : BRowsAt W A' k c' l) => mAllR_ok h hb (by omega) hP
              have T1 := Lib.hid t1
              have T2 := Lib.hid t2
              clear t1 t2 hP
              go_wp2_with (first
                | (go_at_call 33; refine (T1.out _ hs2 hr2).mono ?_; rintro e w3 ⟨A3, d3, rfl, own3⟩; have X_ : Ext w2 w3 := Ext.trans (by repeat with_reducible (first | exact Ext.refl _ | refine Ext.alloc ?_ _ | refine Ext.drew ?_ | refine Ext.drewN ?_ _ | refine Ext.setCell ?_ (by first | exact Nat.le_refl _ | omega | (simp; done) | (simp; omega)) _)) own3.ext; replace hE2 := hE2.up X_; replace hs2 := hs2.up X_; replace har := har.up X_; replace hbr := hbr.up X_; replace hr2 := hr2.up X_; clear X_)
                | (go_at_call 34; (with_reducible refine (T2.out _ hs2 hr2).mono ?_); rintro e w4 ⟨A4, d4, rfl, own4⟩; have X_ : Ext w3 w4 := Ext.trans (by repeat with_reducible (first | exact Ext.refl _ | refine Ext.alloc ?_ _ | refine Ext.drew ?_ | refine Ext.drewN ?_ _ | refine Ext.setCell ?_ (by first | exact Nat.le_refl _ | omega | (simp; done) | (simp; omega)) _)) own4.ext; replace hE2 := hE2.up X_; replace hs2 := hs2.up X_; replace har := har.up X_; replace hbr := hbr.up X_; replace own3 := own3.up X_; clear X_; clear T2)
                | (go_at_call 35; refine (same own3.bytes own4.bytes).mono ?_; rintro e w' ⟨rfl, rfl⟩)
                | (go_at_call 36; refine (T3.out _ hs2 har hbr).mono ?_; rintro e w5 ⟨rfl, E5⟩; have X_ : Ext w4 w5 := Ext.trans (by repeat with_reducible (first | exact Ext.refl _ | refine Ext.alloc ?_ _ | refine Ext.drew ?_ | refine Ext.drewN ?_ _ | refine Ext.setCell ?_ (by first | exact Nat.le_refl _ | omega | (simp; done) | (simp; omega)) _)) E5; replace hE2 := hE2.up X_; replace hs2 := hs2.up X_; replace har := har.up X_; replace hbr := hbr.up X_; clear X_)
                | (go_at_call 34; (with_reducible refine (T4.out _ (hs2.up (by repeat with_reducible (first | exact Ext.refl _ | refine Ext.alloc ?_ _ | refine Ext.drew ?_ | refine Ext.drewN ?_ _ | refine Ext.setCell ?_ (by first | exact Nat.le_refl _ | omega | (simp; done) | (simp; omega)) _))) _ (brows_two rfl har hbr)).mono ?_); rintro e w6 ⟨rfl, E6⟩; have X_ : Ext w5 w6 := Ext.trans (by repeat with_reducible (first | exact Ext.refl _ | refine Ext.alloc ?_ _ | refine Ext.drew ?_ | refine Ext.drewN ?_ _ | refine Ext.setCell ?_ (by first | exact Nat.le_refl _ | omega | (simp; done) | (simp; omega)) _)) E6; replace hE2 := hE2.up X_; clear X_; clear T4))
              all_goals
                go_ret
                exact ⟨by simp, hE2⟩
            · have hK1 := allC_le hP
              have t1 := fun (W : World) (h : SchemaAt W A n c S) (hb : BRowsAt W A' k c' l) => mAll_bad h hb (by omega) hP
              have t2 := fun (W : World) (h : SchemaAt W A n c S) (hb : BRowsAt W A' k c' l) => mAllR_bad h hb (by omega) hP
              have hKi : (K : Int) < 256 := by omega
              have T1 := Lib.hid t1
              have T2 := Lib.hid t2
              clear t1 t2 hP hK1
              go_wp2_with (first
                | (go_at_call 33; refine (T1.out _ hs2 hr2).mono ?_; rintro e w3 ⟨rfl, E3⟩; have X_ : Ext w2 w3 := Ext.trans (by repeat with_reducible (first | exact Ext.refl _ | refine Ext.alloc ?_ _ | refine Ext.drew ?_ | refine Ext.drewN ?_ _ | refine Ext.setCell ?_ (by first | exact Nat.le_refl _ | omega | (simp; done) | (simp; omega)) _)) E3; replace hE2 := hE2.up X_; replace hs2 := hs2.up X_; replace har := har.up X_; replace hbr := hbr.up X_; replace hr2 := hr2.up X_; clear X_)
                | (go_at_call 34; (with_reducible refine (T2.out _ hs2 hr2).mono ?_); rintro e w4 ⟨rfl, E4⟩; have X_ : Ext w3 w4 := Ext.trans (by repeat with_reducible (first | exact Ext.refl _ | refine Ext.alloc ?_ _ | refine Ext.drew ?_ | refine Ext.drewN ?_ _ | refine Ext.setCell ?_ (by first | exact Nat.le_refl _ | omega | (simp; done) | (simp; omega)) _)) E4; replace hE2 := hE2.up X_; replace hs2 := hs2.up X_; replace har := har.up X_; replace hbr := hbr.up X_; clear X_; clear T2)
                | (go_at_call 35; refine (same (BytesAt.nil _) (BytesAt.nil _)).mono ?_; rintro e w' ⟨rfl, rfl⟩)
                | (go_at_call 36; refine (T3.out _ hs2 har hbr).mono ?_; rintro e w5 ⟨rfl, E5⟩; have X_ : Ext w4 w5 := Ext.trans (by repeat with_reducible (first | exact Ext.refl _ | refine Ext.alloc ?_ _ | refine Ext.drew ?_ | refine Ext.drewN ?_ _ | refine Ext.setCell ?_ (by first | exact Nat.le_refl _ | omega | (simp; done) | (simp; omega)) _)) E5; replace hE2 := hE2.up X_; replace hs2 := hs2.up X_; replace har := har.up X_; replace hbr := hbr.up X_; clear X_)
                | (go_at_call 34; (with_reducible refine (T4.out _ (hs2.up (by repeat with_reducible (first | exact Ext.refl _ | refine Ext.alloc ?_ _ | refine Ext.drew ?_ | refine Ext.drewN ?_ _ | refine Ext.setCell ?_ (by first | exact Nat.le_refl _ | omega | (simp; done) | (simp; omega)) _))) _ (brows_two rfl har hbr)).mono ?_); rintro e w6 ⟨rfl, E6⟩; have X_ : Ext w5 w6 := Ext.trans (by repeat with_reducible (first | exact Ext.refl _ | refine Ext.alloc ?_ _ | refine Ext.drew ?_ | refine Ext.drewN ?_ _ | refine Ext.setCell ?_ (by first | exact Nat.le_refl _ | omega | (simp; done) | (simp; omega)) _)) E6; replace hE2 := hE2.up X_; clear X_; clear T4))
              all_goals
                go_ret
                exact ⟨by simp, hE2⟩

theorem mergeAll_walk {A A' : Option Addr} {n c n' c' : Nat} {S : List MsgV} {root : Int} {l : List BRow} {B C : Option Addr} {n1 c1 n2 c2 : Nat} {xs ys : List UInt8} {d : Int} {w : World} (hs : SchemaAt w A n c S) (hroot : -9223372036854775808 ≤ root ∧ root < 9223372036854775808) (hr : BRowsAt w A' n' c' l) (hrow : ∀ r ∈ l, r.c ≤ 140737488351232) (hcl : c' * 24 ≤ 140737488351232) (ha : BytesAt w B n1 c1 xs) (sa : c1 * 1 ≤ 140737488351232) (hb : BytesAt w C n2 c2 ys) (sb : c2 * 1 ≤ 140737488351232) (hd : -9223372036854775808 ≤ d ∧ d < 9223372036854775808) :
    Calls Try.prog 7 #[.slice A n c, .int .i64 root, .slice A' n' c', .slice B n1 c1, .slice C n2 c2, .int .i64 d] w fun e w' => e = .returned (.bool true) ∧ Ext w w' := by
  by_cases h12 : n' ≤ 12
  · exact mergeAll_few hs hr hrow ha sa hb sb h12
  · exact mergeAll_many hs hr hcl ha sa hb sb h12

end Go.Proofs.Ytpgbhgimjpbhoaa
