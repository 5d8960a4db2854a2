/- The walk of the law UtfTogether, out of its callees' contracts. -/
import Derived.Test.YtcipokmklkognaaKUtfCuts
namespace Go.Proofs.Ytcipokmklkognaa
open Go.RowKit
set_option linter.unusedVariables false

/-- A code point's bytes, of any number. -/
def putI (r : Int) : List UInt8 := if r < 0 then [] else putV r.toNat

theorem uPutI {r : Int} (h64 : r < 9223372036854775808) (w : World) :
    Calls Try.prog 45 #[.int .i64 r] w fun e w' => ∃ A' c', e = .returned (.slice A' (putI r).length c') ∧ Own w w' 5 1 A' (putI r).length c' ((putI r).map bv) := by
  unfold putI
  by_cases h : r < 0
  · rw [if_pos h]
    refine (uPutR_neg h w).mono ?_
    rintro e w1 ⟨rfl, rfl⟩
    exact ⟨none, 0, rfl, Own.nil (Ext.refl _) 5 1⟩
  · rw [if_neg h]
    exact uPutR (by omega) (by omega) w

theorem tryN_put (R : Nat) (h : putV R ≠ []) : tryN (putV R).length (putV R) = R ∧ 1 ≤ (putV R).length ∧ (putV R).length ≤ 4 := by
  unfold putV at h ⊢
  split
  · rename_i h1; rw [if_pos h1] at h; exact absurd rfl h
  · rename_i h1
    split
    · refine ⟨?_, by simp, by simp⟩
      simp only [List.length_cons, List.length_nil, tryN, Nat.sub_self, List.take_zero, joinN]
      simp
      omega
    · split
      · refine ⟨?_, by simp, by simp⟩
        simp only [List.length_cons, List.length_nil, tryN, Nat.zero_add, Nat.add_one_sub_one, Nat.reduceAdd, List.take_succ_cons, List.take_zero, joinN, if_true]
        rw [toNat_u8 _ (by omega), toNat_u8 _ (by omega)]
        omega
      · split
        · refine ⟨?_, by simp, by simp⟩
          simp only [List.length_cons, List.length_nil, tryN, Nat.zero_add, Nat.add_one_sub_one, Nat.reduceAdd, List.take_succ_cons, List.take_zero, joinN, if_true, show ¬ (3 = 2) by decide, if_false]
          rw [toNat_u8 _ (by omega), toNat_u8 _ (by omega), toNat_u8 _ (by omega)]
          omega
        · refine ⟨?_, by simp, by simp⟩
          simp only [List.length_cons, List.length_nil, tryN, Nat.zero_add, Nat.add_one_sub_one, Nat.reduceAdd, List.take_succ_cons, List.take_zero, joinN, if_true, show ¬ (4 = 2) by decide, show ¬ (4 = 3) by decide, if_false]
          rw [toNat_u8 _ (by omega), toNat_u8 _ (by omega), toNat_u8 _ (by omega), toNat_u8 _ (by omega)]
          omega

theorem putI_next {r : Int} (h : putI r ≠ []) : nextV (putI r) = (putI r).length ∧ 1 ≤ (putI r).length ∧ (putI r).length ≤ 4 := by
  unfold putI at h ⊢
  by_cases h0 : r < 0
  · rw [if_pos h0] at h; exact absurd rfl h
  · rw [if_neg h0] at h ⊢
    obtain ⟨h1, h2, h3⟩ := tryN_put r.toNat h
    refine ⟨(putV_next _ h2 h3 _ (Nat.le_refl _)).1 ?_, h2, h3⟩
    rw [h1, List.take_length]

theorem point_walk {ps : List UInt8} (h : nextV ps = ps.length) (h1 : 1 ≤ ps.length) : walkV ps ps.length = (ps.length, 1) := by
  rw [walkV_step (by omega), h, List.drop_length, Nat.sub_self, walkV_stop (.inl rfl)]
  simp

theorem putI_le (r : Int) : (putI r).length ≤ 4 := by
  by_cases h : putI r = []
  · rw [h]; simp
  · exact (putI_next h).2.2

set_option maxHeartbeats 8000000 in
theorem utfTogether_walk {A B : Option Addr} {n c m d : Nat} {bs cs : List UInt8} {r room : Int} {w : World} (hb : BytesAt w A n c bs) (hs : c * 1 ≤ 140737488351232) (hc : BytesAt w B m d cs) (hs2 : d * 1 ≤ 140737488351232)
    (hr : -9223372036854775808 ≤ r ∧ r < 9223372036854775808) (hro : -9223372036854775808 ≤ room ∧ room < 9223372036854775808) :
    Calls Try.prog 9 #[.slice A n c, .slice B m d, .int .i64 r, .int .i64 room] w fun e w' => e = .returned (.bool true) ∧ Ext w w' := by
  have hmax := Reads.max hb
  have hcap := Reads.cap hb
  have hmax2 := Reads.max hc
  have hcap2 := Reads.cap hc
  unfold maxLen at hmax hmax2
  have hl := hb.length
  have hl2 := hc.length
  by_cases hn : (2000 : Int) < n + m
  · clear hl hl2
    go_enter Try.func9, Try.ntmps9
    go_wp2_with (go_at_call 15; refine (alive04 _).mono ?_; rintro e w1 ⟨rfl, E1⟩)
    go_ret
    exact ⟨rfl, E1⟩
  · have hle := (walkV_le bs room.toNat)
    have hmx := fun w0 => run_max_i (P := Try.prog) #[3, 3] 3 .i64 .i64 room 0 w0
    have hC : ∀ {w0 : World}, Ext w w0 → Calls Try.prog 44 #[.slice A n c, .int .i64 room] w0 fun e w' => ∃ A' c', e = .returned (.slice A' (walkV bs room.toNat).1 c') ∧ Own w0 w' 5 1 A' (walkV bs room.toNat).1 c' ((cutT bs room).map bv) := fun h => uCut (hb.ext h) (by omega) hro
    have hxr : ∀ {w0 : World} {A' : Option Addr} {c' : Nat}, BytesAt w0 A' (walkV bs room.toNat).1 c' (cutT bs room) → Calls Try.prog 19 #[.slice A' (walkV bs room.toNat).1 c'] w0 fun e w' => e = .returned (.bool true) ∧ w0 = w' := by
      intro w0 A' c' h
      have hr := uRight h
      have ht : rightT (cutT bs room) = true := by
        have hlen := h.length
        unfold rightT
        rw [hlen]
        unfold cutT
        rw [walkV_cut]
        exact decide_eq_true rfl
      rwa [ht] at hr
    have hPut := fun w0 => uPutI hr.2 w0
    have hbr : ∀ {w0 : World}, BytesAt w0 A n c bs → Calls Try.prog 19 #[.slice A n c] w0 fun e w' => e = .returned (.bool (rightT bs)) ∧ w0 = w' := fun h => uRight h
    have hcr : ∀ {w0 : World}, BytesAt w0 B m d cs → Calls Try.prog 19 #[.slice B m d] w0 fun e w' => e = .returned (.bool (rightT cs)) ∧ w0 = w' := fun h => uRight h
    have hor : ∀ {w0 : World} {A' : Option Addr} {c' : Nat}, BytesAt w0 A' (n + m) c' (bs ++ cs) → Calls Try.prog 19 #[.slice A' (n + m) c'] w0 fun e w' => e = .returned (.bool (rightT (bs ++ cs))) ∧ w0 = w' := fun h => uRight h
    have hoc : ∀ {w0 : World} {A' : Option Addr} {c' : Nat}, BytesAt w0 A' (n + m) c' (bs ++ cs) → Calls Try.prog 18 #[.slice A' (n + m) c'] w0 fun e w' => e = .returned (.int .i64 ((walkV (bs ++ cs) (bs ++ cs).length).2 : Nat)) ∧ w0 = w' := fun h => uCount h
    have hP4 := putI_le r
    have hPn := fun h : putI r ≠ [] => putI_next h
    have hright := right_both bs cs
    have hcount := right_append bs cs
    generalize hP : walkV bs room.toNat = P at hle hC hxr
    generalize cutT bs room = ts at hC hxr
    generalize putI r = ps at hPut hP4 hPn
    obtain ⟨P, K⟩ := P
    simp only at hle hC hxr
    have hq : decide (max room 0 < (P : Int)) = false := decide_eq_false (by omega)
    have hbl : (walkV bs bs.length).2 ≤ n := by have := walkV_le bs bs.length; omega
    have hcl : (walkV cs cs.length).2 ≤ m := by have := walkV_le cs cs.length; omega
    clear hP hl hl2 hr
    by_cases hps : ps = []
    · subst hps
      have hPl : ∀ w0, Calls Try.prog 45 #[.int .i64 r] w0 fun e w' => ∃ A' c', e = .returned (.slice A' 0 c') ∧ Own w0 w' 5 1 A' 0 c' [] := hPut
      replace hPut := hPl
      clear hPl hPn hP4
      by_cases hb1 : rightT bs = true
      · have hr1 := hright hb1
        have hr2 := hcount hb1
        by_cases hc1 : rightT cs = true
        · rw [hb1] at hbr
          rw [hc1] at hcr
          rw [hr1, hc1] at hor
          have hc2 : (walkV cs cs.length).1 = cs.length := of_decide_eq_true hc1
          rw [hr2] at hoc
          simp only at hoc
          clear hright hcount hr1 hr2 hc2 hb1 hc1
          go_enter Try.func9, Try.ntmps9
          go_wp2_with (first
            | (go_at_call 15; refine (alive04 _).mono ?_; rintro e w1 ⟨rfl, E1⟩; have hE := E1; have tokA : True := trivial)
            | (go_at_call_of 44 A; refine (hC hE).mono ?_; rintro e w3 ⟨A3, c3, rfl, own3⟩; replace hE := hE.trans own3.ext)
            | (go_at_call 45; refine (hPut _).mono ?_; rintro e w4 ⟨A4, c4, rfl, own4⟩; replace hE := hE.trans own4.ext)
            | (go_at_call_of 19 A3; refine (hxr own3.reads).mono ?_; rintro e w2 ⟨rfl, rfl⟩)
            | (go_at_call_of 19 A; refine (hbr (hb.ext (hE.trans own7.ext))).mono ?_; rintro e w2 ⟨rfl, rfl⟩)
            | (go_at_call_of 19 B; refine (hcr (hc.ext (hE.trans own7.ext))).mono ?_; rintro e w2 ⟨rfl, rfl⟩)
            | (go_at_call_of 19 A7; refine (hor own7.reads).mono ?_; rintro e w2 ⟨rfl, rfl⟩)
            | (go_at_call_of 18 A7; refine (hoc own7.reads).mono ?_; rintro e w2 ⟨rfl, rfl⟩)
            | (go_at_call_of 18 A; refine (uCount (hb.ext (hE.trans own7.ext))).mono ?_; rintro e w2 ⟨rfl, rfl⟩)
            | (go_at_call_of 18 B; refine (uCount (hc.ext (hE.trans own7.ext))).mono ?_; rintro e w2 ⟨rfl, rfl⟩)
            | (at_builtin; have _t := tokA; refine wpList_more elemB rfl (.tmp 57) (.tmp 58) rfl rfl (Own.empty (Ext.refl _) 5 1) rfl (hb.ext (hE.alloc _)) (bv_one _) (by omega) (by unfold maxLen; omega) ?_; intro A6 c6 w6 own6 _; simp only [Nat.zero_add, List.nil_append] at own6; clear tokA)
            | (at_builtin; refine wpList_more elemB rfl (.tmp 59) (.tmp 60) rfl rfl own6 rfl (hc.ext (hE.trans own6.ext)) (bv_one _) (by omega) (by unfold maxLen; omega) ?_; intro A7 c7 w7 own7 _; rw [← List.map_append] at own7))
          go_ret
          exact ⟨rfl, hE.trans own7.ext⟩
        · have hc1 : rightT cs = false := by simpa using hc1
          rw [hb1] at hbr
          rw [hc1] at hcr
          rw [hr1, hc1] at hor
          clear hright hcount hr1 hr2 hb1 hc1
          go_enter Try.func9, Try.ntmps9
          go_wp2_with (first
            | (go_at_call 15; refine (alive04 _).mono ?_; rintro e w1 ⟨rfl, E1⟩; have hE := E1; have tokA : True := trivial)
            | (go_at_call_of 44 A; refine (hC hE).mono ?_; rintro e w3 ⟨A3, c3, rfl, own3⟩; replace hE := hE.trans own3.ext)
            | (go_at_call 45; refine (hPut _).mono ?_; rintro e w4 ⟨A4, c4, rfl, own4⟩; replace hE := hE.trans own4.ext)
            | (go_at_call_of 19 A3; refine (hxr own3.reads).mono ?_; rintro e w2 ⟨rfl, rfl⟩)
            | (go_at_call_of 19 A; refine (hbr (hb.ext (hE.trans own7.ext))).mono ?_; rintro e w2 ⟨rfl, rfl⟩)
            | (go_at_call_of 19 B; refine (hcr (hc.ext (hE.trans own7.ext))).mono ?_; rintro e w2 ⟨rfl, rfl⟩)
            | (go_at_call_of 19 A7; refine (hor own7.reads).mono ?_; rintro e w2 ⟨rfl, rfl⟩)
            | (at_builtin; have _t := tokA; refine wpList_more elemB rfl (.tmp 57) (.tmp 58) rfl rfl (Own.empty (Ext.refl _) 5 1) rfl (hb.ext (hE.alloc _)) (bv_one _) (by omega) (by unfold maxLen; omega) ?_; intro A6 c6 w6 own6 _; simp only [Nat.zero_add, List.nil_append] at own6; clear tokA)
            | (at_builtin; refine wpList_more elemB rfl (.tmp 59) (.tmp 60) rfl rfl own6 rfl (hc.ext (hE.trans own6.ext)) (bv_one _) (by omega) (by unfold maxLen; omega) ?_; intro A7 c7 w7 own7 _; rw [← List.map_append] at own7))
          go_ret
          exact ⟨rfl, hE.trans own7.ext⟩
      · have hb1 : rightT bs = false := by simpa using hb1
        rw [hb1] at hbr
        clear hright hcount hb1 hor
        go_enter Try.func9, Try.ntmps9
        go_wp2_with (first
          | (go_at_call 15; refine (alive04 _).mono ?_; rintro e w1 ⟨rfl, E1⟩; have hE := E1; have tokA : True := trivial)
          | (go_at_call_of 44 A; refine (hC hE).mono ?_; rintro e w3 ⟨A3, c3, rfl, own3⟩; replace hE := hE.trans own3.ext)
          | (go_at_call 45; refine (hPut _).mono ?_; rintro e w4 ⟨A4, c4, rfl, own4⟩; replace hE := hE.trans own4.ext)
          | (go_at_call_of 19 A3; refine (hxr own3.reads).mono ?_; rintro e w2 ⟨rfl, rfl⟩)
          | (go_at_call_of 19 A; refine (hbr (hb.ext (hE.trans own7.ext))).mono ?_; rintro e w2 ⟨rfl, rfl⟩)
          | (go_at_call_of 19 B; refine (hcr (hc.ext (hE.trans own7.ext))).mono ?_; rintro e w2 ⟨rfl, rfl⟩)
          | (go_at_call_of 19 A7; refine (hor own7.reads).mono ?_; rintro e w2 ⟨rfl, rfl⟩)
          | (at_builtin; have _t := tokA; refine wpList_more elemB rfl (.tmp 57) (.tmp 58) rfl rfl (Own.empty (Ext.refl _) 5 1) rfl (hb.ext (hE.alloc _)) (bv_one _) (by omega) (by unfold maxLen; omega) ?_; intro A6 c6 w6 own6 _; simp only [Nat.zero_add, List.nil_append] at own6; clear tokA)
          | (at_builtin; refine wpList_more elemB rfl (.tmp 59) (.tmp 60) rfl rfl own6 rfl (hc.ext (hE.trans own6.ext)) (bv_one _) (by omega) (by unfold maxLen; omega) ?_; intro A7 c7 w7 own7 _; rw [← List.map_append] at own7))
        go_ret
        exact ⟨rfl, hE.trans own7.ext⟩
    · obtain ⟨h1, h2, h3⟩ := hPn hps
      have hw := point_walk h1 h2
      have hpl : ps.length = ps.length := rfl
      have hpr : ∀ {w0 : World} {A' : Option Addr} {c' : Nat}, BytesAt w0 A' ps.length c' ps → Calls Try.prog 19 #[.slice A' ps.length c'] w0 fun e w' => e = .returned (.bool true) ∧ w0 = w' := by
        intro w0 A' c' h
        have hr := uRight h
        rwa [show rightT ps = true from decide_eq_true (by rw [hw])] at hr
      have hpc : ∀ {w0 : World} {A' : Option Addr} {c' : Nat}, BytesAt w0 A' ps.length c' ps → Calls Try.prog 18 #[.slice A' ps.length c'] w0 fun e w' => e = .returned (.int .i64 1) ∧ w0 = w' := by
        intro w0 A' c' h
        have hr := uCount h
        rwa [hw] at hr
      have hCp : ∀ {w0 : World} {A' : Option Addr} {c' : Nat}, BytesAt w0 A' ps.length c' ps → Calls Try.prog 44 #[.slice A' ps.length c', .int .i64 ((ps.length : Int) - 1)] w0 fun e w' => ∃ A'' c'', e = .returned (.slice A'' 0 c'') ∧ Own w0 w' 5 1 A'' 0 c'' [] := by
        intro w0 A' c' h
        have hr := uCut (room := (ps.length : Int) - 1) h (by omega) (by omega)
        unfold cutT at hr
        rw [walkV_stop (bs := ps) (room := ((ps.length : Int) - 1).toNat) (.inr (by omega))] at hr
        exact hr
      clear hPn hw h1 hpl hps
      generalize ps.length = L at hpr hpc hCp hPut h2 h3 hP4
      by_cases hb1 : rightT bs = true
      · have hr1 := hright hb1
        have hr2 := hcount hb1
        by_cases hc1 : rightT cs = true
        · rw [hb1] at hbr
          rw [hc1] at hcr
          rw [hr1, hc1] at hor
          have hc2 : (walkV cs cs.length).1 = cs.length := of_decide_eq_true hc1
          rw [hr2] at hoc
          simp only at hoc
          clear hright hcount hr1 hr2 hc2 hb1 hc1
          go_enter Try.func9, Try.ntmps9
          go_wp2_with (first
            | (go_at_call 15; refine (alive04 _).mono ?_; rintro e w1 ⟨rfl, E1⟩; have hE := E1; have tokA : True := trivial)
            | (go_at_call_of 44 A; refine (hC hE).mono ?_; rintro e w3 ⟨A3, c3, rfl, own3⟩; replace hE := hE.trans own3.ext)
            | (go_at_call 45; refine (hPut _).mono ?_; rintro e w4 ⟨A4, c4, rfl, own4⟩; replace hE := hE.trans own4.ext)
            | (go_at_call_of 44 A4; refine (hCp own4.reads).mono ?_; rintro e w5 ⟨A5, c5, rfl, own5⟩; replace hE := hE.trans own5.ext)
            | (go_at_call_of 18 A4; refine (hpc own4.reads).mono ?_; rintro e w2 ⟨rfl, rfl⟩)
            | (go_at_call_of 19 A4; refine (hpr own4.reads).mono ?_; rintro e w2 ⟨rfl, rfl⟩)
            | (go_at_call_of 19 A3; refine (hxr own3.reads).mono ?_; rintro e w2 ⟨rfl, rfl⟩)
            | (go_at_call_of 19 A; refine (hbr (hb.ext (hE.trans own7.ext))).mono ?_; rintro e w2 ⟨rfl, rfl⟩)
            | (go_at_call_of 19 B; refine (hcr (hc.ext (hE.trans own7.ext))).mono ?_; rintro e w2 ⟨rfl, rfl⟩)
            | (go_at_call_of 19 A7; refine (hor own7.reads).mono ?_; rintro e w2 ⟨rfl, rfl⟩)
            | (go_at_call_of 18 A7; refine (hoc own7.reads).mono ?_; rintro e w2 ⟨rfl, rfl⟩)
            | (go_at_call_of 18 A; refine (uCount (hb.ext (hE.trans own7.ext))).mono ?_; rintro e w2 ⟨rfl, rfl⟩)
            | (go_at_call_of 18 B; refine (uCount (hc.ext (hE.trans own7.ext))).mono ?_; rintro e w2 ⟨rfl, rfl⟩)
            | (at_builtin; have _t := tokA; refine wpList_more elemB rfl (.tmp 57) (.tmp 58) rfl rfl (Own.empty (Ext.refl _) 5 1) rfl (hb.ext (hE.alloc _)) (bv_one _) (by omega) (by unfold maxLen; omega) ?_; intro A6 c6 w6 own6 _; simp only [Nat.zero_add, List.nil_append] at own6; clear tokA)
            | (at_builtin; refine wpList_more elemB rfl (.tmp 59) (.tmp 60) rfl rfl own6 rfl (hc.ext (hE.trans own6.ext)) (bv_one _) (by omega) (by unfold maxLen; omega) ?_; intro A7 c7 w7 own7 _; rw [← List.map_append] at own7))
          go_ret
          exact ⟨rfl, hE.trans own7.ext⟩
        · have hc1 : rightT cs = false := by simpa using hc1
          rw [hb1] at hbr
          rw [hc1] at hcr
          rw [hr1, hc1] at hor
          clear hright hcount hr1 hr2 hb1 hc1
          go_enter Try.func9, Try.ntmps9
          go_wp2_with (first
            | (go_at_call 15; refine (alive04 _).mono ?_; rintro e w1 ⟨rfl, E1⟩; have hE := E1; have tokA : True := trivial)
            | (go_at_call_of 44 A; refine (hC hE).mono ?_; rintro e w3 ⟨A3, c3, rfl, own3⟩; replace hE := hE.trans own3.ext)
            | (go_at_call 45; refine (hPut _).mono ?_; rintro e w4 ⟨A4, c4, rfl, own4⟩; replace hE := hE.trans own4.ext)
            | (go_at_call_of 44 A4; refine (hCp own4.reads).mono ?_; rintro e w5 ⟨A5, c5, rfl, own5⟩; replace hE := hE.trans own5.ext)
            | (go_at_call_of 18 A4; refine (hpc own4.reads).mono ?_; rintro e w2 ⟨rfl, rfl⟩)
            | (go_at_call_of 19 A4; refine (hpr own4.reads).mono ?_; rintro e w2 ⟨rfl, rfl⟩)
            | (go_at_call_of 19 A3; refine (hxr own3.reads).mono ?_; rintro e w2 ⟨rfl, rfl⟩)
            | (go_at_call_of 19 A; refine (hbr (hb.ext (hE.trans own7.ext))).mono ?_; rintro e w2 ⟨rfl, rfl⟩)
            | (go_at_call_of 19 B; refine (hcr (hc.ext (hE.trans own7.ext))).mono ?_; rintro e w2 ⟨rfl, rfl⟩)
            | (go_at_call_of 19 A7; refine (hor own7.reads).mono ?_; rintro e w2 ⟨rfl, rfl⟩)
            | (at_builtin; have _t := tokA; refine wpList_more elemB rfl (.tmp 57) (.tmp 58) rfl rfl (Own.empty (Ext.refl _) 5 1) rfl (hb.ext (hE.alloc _)) (bv_one _) (by omega) (by unfold maxLen; omega) ?_; intro A6 c6 w6 own6 _; simp only [Nat.zero_add, List.nil_append] at own6; clear tokA)
            | (at_builtin; refine wpList_more elemB rfl (.tmp 59) (.tmp 60) rfl rfl own6 rfl (hc.ext (hE.trans own6.ext)) (bv_one _) (by omega) (by unfold maxLen; omega) ?_; intro A7 c7 w7 own7 _; rw [← List.map_append] at own7))
          go_ret
          exact ⟨rfl, hE.trans own7.ext⟩
      · have hb1 : rightT bs = false := by simpa using hb1
        rw [hb1] at hbr
        clear hright hcount hb1 hor
        go_enter Try.func9, Try.ntmps9
        go_wp2_with (first
          | (go_at_call 15; refine (alive04 _).mono ?_; rintro e w1 ⟨rfl, E1⟩; have hE := E1; have tokA : True := trivial)
          | (go_at_call_of 44 A; refine (hC hE).mono ?_; rintro e w3 ⟨A3, c3, rfl, own3⟩; replace hE := hE.trans own3.ext)
          | (go_at_call 45; refine (hPut _).mono ?_; rintro e w4 ⟨A4, c4, rfl, own4⟩; replace hE := hE.trans own4.ext)
          | (go_at_call_of 44 A4; refine (hCp own4.reads).mono ?_; rintro e w5 ⟨A5, c5, rfl, own5⟩; replace hE := hE.trans own5.ext)
          | (go_at_call_of 18 A4; refine (hpc own4.reads).mono ?_; rintro e w2 ⟨rfl, rfl⟩)
          | (go_at_call_of 19 A4; refine (hpr own4.reads).mono ?_; rintro e w2 ⟨rfl, rfl⟩)
          | (go_at_call_of 19 A3; refine (hxr own3.reads).mono ?_; rintro e w2 ⟨rfl, rfl⟩)
          | (go_at_call_of 19 A; refine (hbr (hb.ext (hE.trans own7.ext))).mono ?_; rintro e w2 ⟨rfl, rfl⟩)
          | (go_at_call_of 19 B; refine (hcr (hc.ext (hE.trans own7.ext))).mono ?_; rintro e w2 ⟨rfl, rfl⟩)
          | (go_at_call_of 19 A7; refine (hor own7.reads).mono ?_; rintro e w2 ⟨rfl, rfl⟩)
          | (at_builtin; have _t := tokA; refine wpList_more elemB rfl (.tmp 57) (.tmp 58) rfl rfl (Own.empty (Ext.refl _) 5 1) rfl (hb.ext (hE.alloc _)) (bv_one _) (by omega) (by unfold maxLen; omega) ?_; intro A6 c6 w6 own6 _; simp only [Nat.zero_add, List.nil_append] at own6; clear tokA)
          | (at_builtin; refine wpList_more elemB rfl (.tmp 59) (.tmp 60) rfl rfl own6 rfl (hc.ext (hE.trans own6.ext)) (bv_one _) (by omega) (by unfold maxLen; omega) ?_; intro A7 c7 w7 own7 _; rw [← List.map_append] at own7))
        go_ret
        exact ⟨rfl, hE.trans own7.ext⟩

end Go.Proofs.Ytcipokmklkognaa
