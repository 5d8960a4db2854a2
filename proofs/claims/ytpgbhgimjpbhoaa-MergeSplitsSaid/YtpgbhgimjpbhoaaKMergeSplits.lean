/- The walk of the law MergeSplits, out of its callees' contracts. -/
import Derived.Test.YtpgbhgimjpbhoaaW17c
import Derived.Test.YtpgbhgimjpbhoaaKMergeChain
namespace Go.Proofs.Ytpgbhgimjpbhoaa
open Go.RowKit
set_option linter.unusedVariables false

set_option maxRecDepth 100000 in
set_option maxHeartbeats 4000000 in
theorem mergeSplits_ok {A : Option Addr} {n c : Nat} {S : List MsgV} {m : Nat} {M : MsgV} {B : Option Addr} {n' c' : Nat} {bs : List UInt8} {d : Int} {w : World} (hs : SchemaAt w A n c S) (hb : BytesAt w B n' c' bs) (hn : ¬ (300 : Int) < n') (hM : S[m]? = some M) (hv : validB (S.map MsgV.d) (m : Int) bs d = true) :
    Calls Try.prog 9 #[.slice A n c, .int .i64 (m : Int), .slice B n' c', .int .i64 d] w fun e w' => e = .returned (.bool true) ∧ Ext w w' := by
  have hE := Ext.refl w
  have hl := hb.length
  obtain ⟨ha, hv1, d0, d1, _, _, hR⟩ := valid_args hv
  rw [Int.toNat_natCast] at hv1
  have hMd : (S.map MsgV.d)[m]? = some M.d := by rw [List.getElem?_map, hM]; rfl
  have hcut := valid_ends (d := d.toNat) hMd (bs := bs) bs.length 0 (by omega) (by rw [List.take_zero]; have := valid_next (d := d.toNat) hMd (bs := bs) (p := 0); exact firstV_nil _ _ _) (by rw [List.drop_zero]; exact hv1)
  have hvb : ∀ q, (firstV (S.map MsgV.d) d.toNat m q).2 = 0 → validB (S.map MsgV.d) (m : Int) q d = true := fun q h => by rw [valid_iff ha, Int.toNat_natCast]; exact decide_eq_true h
  have hvn : ∀ q, (firstV (S.map MsgV.d) d.toNat m q).2 ≠ 0 → validB (S.map MsgV.d) (m : Int) q d = false := fun q h => by rw [valid_iff ha, Int.toNat_natCast]; exact decide_eq_false h
  have h1 := fun W (h : SchemaAt W A n c S) (hb : BytesAt W B n' c' bs) => mSplits_ok h hb (by omega) hM hv
  have h2 := fun W (h : SchemaAt W A n c S) (hb : BytesAt W B n' c' bs) => vCheckR (root := (m : Int)) (d := d) h hb (by omega)
  have h20 : (checkB (S.map MsgV.d) (m : Int) bs d).2 = 0 := of_decide_eq_true hv
  rw [h20] at h2
  have hnext := fun (p : Nat) (hp : p < bs.length) h1 h2 => valid_next (d := d.toNat) hMd (bs := bs) hp h1 h2
  have hone := fun W (A' : Option Addr) (k k' : Nat) (q : List UInt8) (h : SchemaAt W A n c S) (hb : BytesAt W A' k k' q) (hk : k ≤ 1000) => mOne (root := (m : Int)) (d := d) h hb (by omega)
  have h0f : (firstV (S.map MsgV.d) d.toNat m (bs.take 0)).2 = 0 := by rw [List.take_zero]; exact firstV_nil _ _ _
  have h0d : (firstV (S.map MsgV.d) d.toNat m (bs.drop 0)).2 = 0 := by rw [List.drop_zero]; exact hv1
  have hend : ∀ p, bs.length ≤ p → endsM M.d.fields bs p = [] := fun p h => endsM_end _ h
  have helen : (endsM M.d.fields bs 0).length ≤ n' := by
    rw [endsM_zero, List.length_map, ← hl]
    exact (viewsV_bd M.d.fields bs).2.1
  generalize hEs : endsM M.d.fields bs = Es at *
  generalize (checkB (S.map MsgV.d) (m : Int) bs d).1 = P0 at *
  have Hcut := Lib.hid hcut
  have Hvb := Lib.hid hvb
  have Hvn := Lib.hid hvn
  have H1 := Lib.hid h1
  have H2 := Lib.hid h2
  have Hnext := Lib.hid hnext
  have Hone := Lib.hid hone
  have H0f := Lib.hid h0f
  have H0d := Lib.hid h0d
  have Hend := Lib.hid hend
  have HM := Lib.hid hM
  have Hl := Lib.hid hl
  clear hcut hvb hvn h1 h2 h20 hnext hone h0f h0d hend hEs hM hv hv1 ha hMd hl
  go_enter Try.func9, Try.ntmps9
  go_wp2_with (go_at_call 32; refine (alive17 _).mono ?_; rintro e w1 ⟨rfl, E1⟩; have X_ : Ext w w1 := Ext.trans (by repeat with_reducible (first | exact Ext.refl _ | refine Ext.alloc ?_ _ | refine Ext.drew ?_ | refine Ext.drewN ?_ _ | refine Ext.setCell ?_ (by first | exact Nat.le_refl _ | omega | (simp; done) | (simp; omega)) _)) E1; replace hE := hE.up X_; replace hs := hs.up X_; replace hb := hb.up X_; clear X_)
  refine (few07 hs).mono ?_
  rintro e w2 ⟨x, rfl, E2⟩
  replace hE := hE.trans E2
  replace hs := hs.up E2
  replace hb := hb.up E2
  rcases x with _ | _
  · go_wp2
    go_ret
    exact ⟨rfl, hE⟩
  · go_wp2_with (first | (go_at_call 39; refine (H1.out _ hs hb).mono ?_; rintro e w3 ⟨A3, c3, rfl, own3⟩; have X_ : Ext w2 w3 := Ext.trans (by repeat with_reducible (first | exact Ext.refl _ | refine Ext.alloc ?_ _ | refine Ext.drew ?_ | refine Ext.drewN ?_ _ | refine Ext.setCell ?_ (by first | exact Nat.le_refl _ | omega | (simp; done) | (simp; omega)) _)) own3.ext; replace hE := hE.up X_; replace hs := hs.up X_; replace hb := hb.up X_; clear X_) | (go_at_call 26; refine (H2.out _ hs hb).mono ?_; rintro e w4 ⟨rfl, E4⟩; have X_ : Ext w3 w4 := Ext.trans (by repeat with_reducible (first | exact Ext.refl _ | refine Ext.alloc ?_ _ | refine Ext.drew ?_ | refine Ext.drewN ?_ _ | refine Ext.setCell ?_ (by first | exact Nat.le_refl _ | omega | (simp; done) | (simp; omega)) _)) E4; replace hE := hE.up X_; replace hs := hs.up X_; replace hb := hb.up X_; replace own3 := own3.up X_; clear X_))
    have ow : Own w4 (w4.alloc (.cells #[.int .i64 0] 3)) 3 1 (some ⟨w4.heap.size, 0, none⟩) 1 1 ([0].map iv) := Own.made (Ext.refl w4) 3 1 (cs := [iv 0]) (n := 1) (by simp [maxLen]) rfl
    go_loopw [13, 14] (fun u i wr => ∃ (p : Nat) (A2 : Option Addr) (c2 : Nat) (D : List Nat), p ≤ n' ∧ i = .int .i64 (p : Int) ∧ u = .slice A2 (D.length + 1) c2 ∧ Own w4 wr 3 1 A2 (D.length + 1) c2 ((0 :: D).map iv) ∧ Hid (Es 0 = D ++ Es p) ∧ D.length ≤ p ∧ Hid ((firstV (S.map MsgV.d) d.toNat m (bs.take p)).2 = 0) ∧ Hid ((firstV (S.map MsgV.d) d.toNat m (bs.drop p)).2 = 0))
      (fun _ i _ => n' - (intOf i).toNat)
    case atStart => exact ⟨0, _, 1, [], Nat.zero_le _, rfl, rfl, ow, rfl, Nat.le_refl _, H0f, H0d⟩
    case round =>
      obtain ⟨p, A2, c2, D, hp, rfl, rfl, own, hD, hDl, hF1, hF2⟩ := hrel
      have hEr := own.ext
      by_cases hlt : p < n'
      · have hlti : (p : Int) < n' := by omega
        obtain ⟨q, q1, q2, q3, q4, q5, q6, q7⟩ := Hnext.out p (by rw [Hl.out]; exact hlt) hF1.out hF2.out
        rw [Hl.out] at q2
        have Q3 := Lib.hid q3
        have Q4 := Lib.hid q4
        have Q5 := Lib.hid q5
        have Q6 := Lib.hid q6
        have Q7 := Lib.hid q7
        clear q3 q4 q5 q6 q7
        go_wp2
        obtain ⟨wo, hwo⟩ : ∃ wo : World, wo = wr := ⟨_, rfl⟩
        rw [← hwo] at own hEr ⊢
        have hso := hs.up hEr
        have hbo := hb.up hEr
        clear hwo
        go_loopw [14, 15] (fun i u wq => ∃ t : Nat, p < t ∧ t ≤ q ∧ i = .int .i64 (p : Int) ∧ u = .int .i64 (t : Int) ∧ Ext wo wq) (fun _ u _ => q - (intOf u).toNat)
        case atStart => exact ⟨p + 1, by omega, by omega, rfl, by go_num, Ext.refl _⟩
        case round =>
          obtain ⟨t, t1, t2, rfl, rfl, hEq⟩ := hrel
          obtain ⟨A5, k5, hspan⟩ := spanB_at10 (hbo.up hEq) (l := p) (m := t) (by omega) (by omega)
          have htn : (t : Int) ≤ n' := by omega
          have hpt : (p : Int) ≤ t := by omega
          have hsq := hso.up hEq
          by_cases htq : t = q
          · subst htq
            have ho := fun W h hb => Hone.out W A5 (t - p) (c' - p) (spanB bs p t) h hb (by omega)
            rw [Hvb.out _ Q3.out] at ho
            have Ho := Lib.hid ho
            clear ho
            go_wp2_with (first | (go_at_call 40; refine (Ho.out _ hsq hspan).mono ?_; rintro e w5 ⟨rfl, E5⟩) | (at_builtin; refine wpList_one elemI rfl (.tmp 74) (.tmp 76) rfl rfl (own.up (hEq.trans E5)) rfl rfl rfl (by omega) (by unfold maxLen; omega) ?_; intro A6 c6 w6 own6 g6))
            refine ⟨⟨t, A6, c6, D ++ [t], by omega, rfl, by simp, ?_, ?_, by simp; omega, Q5, Q6⟩, by simp [intOf]; omega⟩
            · rw [show (0 :: (D ++ [t])).map iv = (0 :: D).map iv ++ [iv t] by simp, show (D ++ [t]).length + 1 = D.length + 1 + 1 by simp]
              exact own6
            · show _ = _
              rw [hD.out, Q7.out, List.append_assoc]
              rfl
          · have ho := fun W h hb => Hone.out W A5 (t - p) (c' - p) (spanB bs p t) h hb (by omega)
            rw [Hvn.out _ (Q4.out t (by omega) (by omega))] at ho
            have Ho := Lib.hid ho
            clear ho
            go_wp2_with (go_at_call 40; refine (Ho.out _ hsq hspan).mono ?_; rintro e w5 ⟨rfl, E5⟩)
            go_roundw
            case rel => exact ⟨t + 1, by omega, by omega, rfl, by go_num, hEq.trans E5⟩
            case measure => simp [intOf]; omega
      · have hpn : p = n' := by omega
        have hDe : Es 0 = D := by
          have := hD.out
          rw [Hend.out p (by rw [Hl.out]; omega), List.append_nil] at this
          exact this
        have own3r := own3.up hEr
        have own3e := own3.up hEr
        have hsr := hs.up hEr
        have hbr := hb.up hEr
        have hEw := hE.trans hEr
        rw [hDe] at own3r
        have hsame := sameI own3r.reads own.reads (by rw [← hDe]; omega)
        rw [show decide (0 :: D = 0 :: D) = true by simp] at hsame
        have Hsame := Lib.hid hsame
        have HDe := Lib.hid hDe
        have hDn : (D.length : Int) ≤ n' := by rw [← hDe]; omega
        have el3 : (Es 0).length = D.length := by rw [hDe]
        have El3 := Lib.hid el3
        clear hpn hDe hsame el3 helen
        go_wp2_with (go_at_call 18; rw [El3.out]; refine Hsame.out.mono ?_; rintro e w6 ⟨rfl, E6⟩)
        obtain ⟨wo, hwo⟩ : ∃ wo : World, wo = w6 := ⟨_, rfl⟩
        have own4e := own3e.up E6
        have hso := hsr.up E6
        have hbo := hbr.up E6
        have hEo := hEw.trans E6
        rw [← hwo] at own4e hso hbo hEo ⊢
        clear hwo own3e own3r own
        have hqs : ∀ q ∈ 0 :: Es 0, q ≤ bs.length ∧ (firstV (S.map MsgV.d) d.toNat m (bs.take q)).2 = 0 ∧ (firstV (S.map MsgV.d) d.toNat m (bs.drop q)).2 = 0 := fun q hq => by
          rcases List.mem_cons.1 hq with rfl | hq
          · exact ⟨Nat.zero_le _, H0f.out, H0d.out⟩
          · exact Hcut.out q hq
        have Hqs := Lib.hid hqs
        have hEn : ((Es 0).length : Int) ≤ 1000 := by rw [El3.out]; omega
        generalize Es 0 = E0 at *
        clear hqs El3
        have hED := HDe.out
        clear HDe
        subst hED
        go_loopw [16] (fun i wq => ∃ k : Nat, k ≤ E0.length + 1 ∧ i = .int .i64 (k : Int) ∧ Ext wo wq) (fun i _ => E0.length + 1 - (intOf i).toNat)
        case atStart => exact ⟨0, Nat.zero_le _, rfl, Ext.refl _⟩
        case round =>
          rename World => wq
          obtain ⟨k, hk, rfl, hEq⟩ := hrel
          by_cases hlk : k < E0.length + 1
          · have hlki : (k : Int) < (E0.length : Int) + 1 := by omega
            have hlk2 : (k : Int) ≤ (E0.length : Int) := by omega
            have owq := own4e.up hEq
            have hsq := hso.up hEq
            have hbq := hbo.up hEq
            obtain ⟨b7, off7, q, rfl, hq, c7⟩ := IntsAt.num owq.reads hlk
            obtain ⟨qle, qf1, qf2⟩ := Hqs.out q (List.mem_of_getElem? hq)
            rw [Hl.out] at qle
            obtain ⟨A8, k8, r8⟩ := cut_to elemB hbq .i64 (m := q) qle
            obtain ⟨A9, k9, r9⟩ := cut_from elemB hbq .i64 (l := q) qle
            have r8' : ∀ W, Ext wq W → BytesAt W A8 q c' (bs.take q) := fun W E => BytesAt.ext (by unfold BytesAt; rw [List.map_take]; simpa using r8) E
            have r9' : ∀ W, Ext wq W → BytesAt W A9 (n' - q) (c' - q) (bs.drop q) := fun W E => BytesAt.ext (by unfold BytesAt; rw [List.map_drop]; simpa using r9) E
            have htwo := fun (W : World) (E : Ext wq W) => mTwo_ok (hsq.up E) (r8' W E) (r9' W E) (by omega) ((twoC_all (S.map MsgV.d) (m : Int) d).1 (twoC_valid.2 ⟨Hvb.out _ qf1, Hvb.out _ qf2⟩))
            rw [List.take_append_drop, show q + (n' - q) = n' by omega] at htwo
            have Htwo := Lib.hid htwo
            have b7l : b7 < wq.heap.size := World.block_lt_of_cell? wq _ c7
            have qi : (q : Int) ≤ n' := by omega
            clear hq qf1 qf2 r8 r9 r8' r9' htwo owq
            go_wp2_with fail
            go_region_held3 (fun W => Ext wq W ∧ ∀ b o, b < wq.heap.size → W.cell? ⟨b, o, none⟩ = wq.cell? ⟨b, o, none⟩) ((refine Ext.keep ?_; repeat with_reducible (first | assumption | exact Ext.refl _ | refine Ext.alloc ?_ _ | refine Ext.drew ?_ | refine Ext.drewN ?_ _ | refine Ext.setCell ?_ (by first | exact Nat.le_refl _ | omega | (simp; done) | (simp; omega)) _))) (first | (go_split_ands; go_at_call 38; refine (Htwo.out _ (by with_reducible assumption)).mono ?_; rintro e w7 ⟨A10, c10, rfl, own10⟩; have q0 : Ext wq w7 := Ext.trans (by with_reducible assumption) own10.ext))
            all_goals
              have hb7 := hbq.up q0
              go_wp2_with (go_at_call 35; (with_reducible refine (same own10.bytes hb7).mono ?_); rintro e w' ⟨rfl, rfl⟩)
              go_roundw
              case rel => exact ⟨k + 1, by omega, by go_num, hEq.trans (by repeat with_reducible (first | exact q0 | exact Ext.refl _ | refine Ext.alloc ?_ _ | refine Ext.drew ?_ | refine Ext.drewN ?_ _ | refine Ext.setCell ?_ (by first | exact Nat.le_refl _ | omega | (simp; done) | (simp; omega)) _))⟩
              case measure => simp [intOf]; omega
          · have hlki : ¬ (k : Int) < (E0.length : Int) + 1 := by omega
            have hlk2 : ¬ (k : Int) ≤ (E0.length : Int) := by omega
            go_wp2
            go_ret
            exact ⟨rfl, hEo.trans hEq⟩

set_option maxRecDepth 100000 in
set_option maxHeartbeats 1000000 in
theorem mergeSplits_walk {A : Option Addr} {n c : Nat} {S : List MsgV} {root : Int} {B : Option Addr} {n' c' : Nat} {bs : List UInt8} {d : Int} {w : World} (hs : SchemaAt w A n c S) (hroot : -9223372036854775808 ≤ root ∧ root < 9223372036854775808) (hb : BytesAt w B n' c' bs) (hd : -9223372036854775808 ≤ d ∧ d < 9223372036854775808) :
    Calls Try.prog 9 #[.slice A n c, .int .i64 root, .slice B n' c', .int .i64 d] w fun e w' => e = .returned (.bool true) ∧ Ext w w' := by
  have hE := Ext.refl w
  have hcap := Reads.cap hb
  by_cases hn : (300 : Int) < n'
  · clear hroot hd
    go_enter Try.func9, Try.ntmps9
    go_wp2_with (first | (go_at_call 32; refine (alive17 _).mono ?_; rintro e w1 ⟨rfl, E1⟩; have X_ : Ext w w1 := Ext.trans (by repeat with_reducible (first | exact Ext.refl _ | refine Ext.alloc ?_ _ | refine Ext.drew ?_ | refine Ext.drewN ?_ _ | refine Ext.setCell ?_ (by first | exact Nat.le_refl _ | omega | (simp; done) | (simp; omega)) _)) E1; replace hE := hE.up X_; replace hs := hs.up X_; clear X_) | (go_at_call 12; refine (few07 hs).mono ?_; rintro e w2 ⟨x, rfl, E2⟩; have X_ : Ext w1 w2 := Ext.trans (by repeat with_reducible (first | exact Ext.refl _ | refine Ext.alloc ?_ _ | refine Ext.drew ?_ | refine Ext.drewN ?_ _ | refine Ext.setCell ?_ (by first | exact Nat.le_refl _ | omega | (simp; done) | (simp; omega)) _)) E2; replace hE := hE.up X_; clear X_))
    all_goals
      go_ret
      exact ⟨rfl, hE⟩
  · by_cases hC : (checkB (S.map MsgV.d) root bs d).2 = 0
    · have hv : validB (S.map MsgV.d) root bs d = true := decide_eq_true hC
      obtain ⟨_, _, _, _, r0, r1, _⟩ := valid_args hv
      rw [List.length_map] at r1
      obtain ⟨m, rfl⟩ := Int.eq_ofNat_of_zero_le r0
      exact mergeSplits_ok hs hb hn (List.getElem?_eq_getElem (by omega)) hv
    · have hle := checkB_le (S.map MsgV.d) root bs d
      have h1 := fun W (h : SchemaAt W A n c S) (hb : BytesAt W B n' c' bs) => mSplits_bad h hb (by omega) rfl hC
      have h2 := fun W (h : SchemaAt W A n c S) (hb : BytesAt W B n' c' bs) => vCheckR (root := root) (d := d) h hb (by omega)
      generalize (checkB (S.map MsgV.d) root bs d).1 = P0 at *
      generalize (checkB (S.map MsgV.d) root bs d).2 = C at *
      have q : ((C : Int) != 0) = true := by rw [bne_iff_ne]; omega
      have hCi : (C : Int) < 256 := by omega
      have H1 := Lib.hid h1
      have H2 := Lib.hid h2
      clear h1 h2 hC hle hroot hd
      go_enter Try.func9, Try.ntmps9
      go_wp2_with (first | (go_at_call 32; refine (alive17 _).mono ?_; rintro e w1 ⟨rfl, E1⟩; have X_ : Ext w w1 := Ext.trans (by repeat with_reducible (first | exact Ext.refl _ | refine Ext.alloc ?_ _ | refine Ext.drew ?_ | refine Ext.drewN ?_ _ | refine Ext.setCell ?_ (by first | exact Nat.le_refl _ | omega | (simp; done) | (simp; omega)) _)) E1; replace hE := hE.up X_; replace hs := hs.up X_; replace hb := hb.up X_; clear X_) | (go_at_call 12; refine (few07 hs).mono ?_; rintro e w2 ⟨x, rfl, E2⟩; have X_ : Ext w1 w2 := Ext.trans (by repeat with_reducible (first | exact Ext.refl _ | refine Ext.alloc ?_ _ | refine Ext.drew ?_ | refine Ext.drewN ?_ _ | refine Ext.setCell ?_ (by first | exact Nat.le_refl _ | omega | (simp; done) | (simp; omega)) _)) E2; replace hE := hE.up X_; replace hs := hs.up X_; replace hb := hb.up X_; clear X_) | (go_at_call 39; refine (H1.out _ hs hb).mono ?_; rintro e w3 ⟨rfl, E3⟩; have X_ : Ext w2 w3 := Ext.trans (by repeat with_reducible (first | exact Ext.refl _ | refine Ext.alloc ?_ _ | refine Ext.drew ?_ | refine Ext.drewN ?_ _ | refine Ext.setCell ?_ (by first | exact Nat.le_refl _ | omega | (simp; done) | (simp; omega)) _)) E3; replace hE := hE.up X_; replace hs := hs.up X_; replace hb := hb.up X_; clear X_) | (go_at_call 26; refine (H2.out _ hs hb).mono ?_; rintro e w4 ⟨rfl, E4⟩; have X_ : Ext w3 w4 := Ext.trans (by repeat with_reducible (first | exact Ext.refl _ | refine Ext.alloc ?_ _ | refine Ext.drew ?_ | refine Ext.drewN ?_ _ | refine Ext.setCell ?_ (by first | exact Nat.le_refl _ | omega | (simp; done) | (simp; omega)) _)) E4; replace hE := hE.up X_; clear X_))
      all_goals
        go_ret
        exact ⟨rfl, hE⟩

end Go.Proofs.Ytpgbhgimjpbhoaa
