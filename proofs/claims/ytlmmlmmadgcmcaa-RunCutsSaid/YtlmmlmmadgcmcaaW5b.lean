/- Contracts of layer 5: the record at a place, as the reference has it. -/
import Derived.Test.YtlmmlmmadgcmcaaW5
namespace Go.Proofs.Ytlmmlmmadgcmcaa
open Go.RowKit
set_option linter.unusedVariables false

theorem rNextR_arg {A : Option Addr} {n c : Nat} {w : World} {p : Int} (hp : p < 0 ∨ (n : Int) ≤ p) :
    Calls Try.prog 70 #[.slice A n c, .int .i64 p] w fun e w' => e = .returned (.tuple #[recV Rec.zero, .int .i64 2]) ∧ Ext w w' := by
  rcases hp with hp | hp
  · go_enter Try.func70, Try.ntmps70
    go_wp2
    exact bodyPost_ret (v := .tuple #[recV Rec.zero, .int .i64 2]) (by simp [results, Try.results70, go_sem, recV, Rec.zero]) rfl ⟨rfl, (by repeat with_reducible (first | exact Ext.refl _ | refine Ext.alloc ?_ _ | refine Ext.drew ?_ | refine Ext.drewN ?_ _ | refine Ext.setCell ?_ (by first | exact Nat.le_refl _ | omega | (simp; done) | (simp; omega)) _))⟩
  · have h0 : ¬ p < 0 := by omega
    go_enter Try.func70, Try.ntmps70
    go_wp2
    exact bodyPost_ret (v := .tuple #[recV Rec.zero, .int .i64 2]) (by simp [results, Try.results70, go_sem, recV, Rec.zero]) rfl ⟨rfl, (by repeat with_reducible (first | exact Ext.refl _ | refine Ext.alloc ?_ _ | refine Ext.drew ?_ | refine Ext.drewN ?_ _ | refine Ext.setCell ?_ (by first | exact Nat.le_refl _ | omega | (simp; done) | (simp; omega)) _))⟩

section
variable {A : Option Addr} {n c p : Nat} {bs : List UInt8} {w : World} {T V N W M K : Nat}

theorem rNextR_tag (hb : BytesAt w A n c bs) (hp : p < n) (hn : n ≤ 1000000000000) (ht : tagV (bs.drop p) = (T, V, N, K)) (hK : K ≠ 0) :
    Calls Try.prog 70 #[.slice A n c, .int .i64 (p : Int)] w fun e w' => e = .returned (.tuple #[recV Rec.zero, .int .i64 (K : Int)]) ∧ Ext w w' := by
  have q : ((K : Int) != 0) = true := by simp; omega
  have Ht := Lib.hid ht
  clear ht
  go_enter Try.func70, Try.ntmps70
  go_wp2_with (go_at_call 101; refine (tReadR (hb.ext (by repeat with_reducible (first | exact Ext.refl _ | refine Ext.alloc ?_ _ | refine Ext.drew ?_ | refine Ext.drewN ?_ _ | refine Ext.setCell ?_ (by first | exact Nat.le_refl _ | omega | (simp; done) | (simp; omega)) _))) rfl (by omega) (by omega) Ht.out).mono ?_; rintro e w' ⟨rfl, rfl⟩)
  exact bodyPost_ret (v := .tuple #[recV Rec.zero, .int .i64 K]) (by simp [results, Try.results70, go_sem, recV, Rec.zero]) rfl ⟨rfl, (by repeat with_reducible (first | exact Ext.refl _ | refine Ext.alloc ?_ _ | refine Ext.drew ?_ | refine Ext.drewN ?_ _ | refine Ext.setCell ?_ (by first | exact Nat.le_refl _ | omega | (simp; done) | (simp; omega)) _))⟩

/-- Wire type 0: the varint's code, or the record. -/
theorem rNextR_0 (hb : BytesAt w A n c bs) (hp : p < n) (hn : n ≤ 1000000000000) (ht : tagV (bs.drop p) = (T, 0, N, 0)) (hN : N ≤ n - p) (hT : T ≤ 536870911) (hv : readV (bs.drop (p + N)) = (W, M, K)) (hM : M ≤ n - (p + N)) :
    Calls Try.prog 70 #[.slice A n c, .int .i64 (p : Int)] w fun e w' => e = .returned (.tuple #[recV (if K = 0 then ⟨T, 0, p, p + N, p + N + M⟩ else Rec.zero), .int .i64 (K : Int)]) ∧ Ext w w' := by
  have Ht := Lib.hid ht
  have Hv := Lib.hid hv
  clear ht hv
  by_cases hK : K = 0
  · subst hK
    go_enter Try.func70, Try.ntmps70
    go_wp2_with (first | (go_at_call 101; refine (tReadR (hb.ext (by repeat with_reducible (first | exact Ext.refl _ | refine Ext.alloc ?_ _ | refine Ext.drew ?_ | refine Ext.drewN ?_ _ | refine Ext.setCell ?_ (by first | exact Nat.le_refl _ | omega | (simp; done) | (simp; omega)) _))) rfl (by omega) (by omega) Ht.out).mono ?_; rintro e w' ⟨rfl, rfl⟩) | (go_at_call 83; refine (vReadR (p := p + N) (hb.ext (by repeat with_reducible (first | exact Ext.refl _ | refine Ext.alloc ?_ _ | refine Ext.drew ?_ | refine Ext.drewN ?_ _ | refine Ext.setCell ?_ (by first | exact Nat.le_refl _ | omega | (simp; done) | (simp; omega)) _))) (by omega) (by omega) (by omega) Hv.out).mono ?_; rintro e w' ⟨rfl, rfl⟩))
    exact bodyPost_ret (v := .tuple #[recV ⟨T, 0, p, p + N, p + N + M⟩, .int .i64 0]) (by simp [results, Try.results70, go_sem, recV]) rfl ⟨by simp, (by repeat with_reducible (first | exact Ext.refl _ | refine Ext.alloc ?_ _ | refine Ext.drew ?_ | refine Ext.drewN ?_ _ | refine Ext.setCell ?_ (by first | exact Nat.le_refl _ | omega | (simp; done) | (simp; omega)) _))⟩
  · have q : ((K : Int) != 0) = true := by simp; omega
    rw [if_neg hK]
    go_enter Try.func70, Try.ntmps70
    go_wp2_with (first | (go_at_call 101; refine (tReadR (hb.ext (by repeat with_reducible (first | exact Ext.refl _ | refine Ext.alloc ?_ _ | refine Ext.drew ?_ | refine Ext.drewN ?_ _ | refine Ext.setCell ?_ (by first | exact Nat.le_refl _ | omega | (simp; done) | (simp; omega)) _))) rfl (by omega) (by omega) Ht.out).mono ?_; rintro e w' ⟨rfl, rfl⟩) | (go_at_call 83; refine (vReadR (p := p + N) (hb.ext (by repeat with_reducible (first | exact Ext.refl _ | refine Ext.alloc ?_ _ | refine Ext.drew ?_ | refine Ext.drewN ?_ _ | refine Ext.setCell ?_ (by first | exact Nat.le_refl _ | omega | (simp; done) | (simp; omega)) _))) (by omega) (by omega) (by omega) Hv.out).mono ?_; rintro e w' ⟨rfl, rfl⟩))
    exact bodyPost_ret (v := .tuple #[recV Rec.zero, .int .i64 K]) (by simp [results, Try.results70, go_sem, recV, Rec.zero]) rfl ⟨rfl, (by repeat with_reducible (first | exact Ext.refl _ | refine Ext.alloc ?_ _ | refine Ext.drew ?_ | refine Ext.drewN ?_ _ | refine Ext.setCell ?_ (by first | exact Nat.le_refl _ | omega | (simp; done) | (simp; omega)) _))⟩

set_option maxHeartbeats 1000000 in
/-- Wire types 1 and 5: so many bytes. -/
theorem rNextR_15 (hb : BytesAt w A n c bs) (hp : p < n) (hn : n ≤ 1000000000000) {g : Nat} (hV : V = 1 ∧ g = 8 ∨ V = 5 ∧ g = 4) (ht : tagV (bs.drop p) = (T, V, N, 0)) (hN : N ≤ n - p) (hT : T ≤ 536870911) :
    Calls Try.prog 70 #[.slice A n c, .int .i64 (p : Int)] w fun e w' => e = .returned (.tuple #[recV (if n - (p + N) < g then Rec.zero else ⟨T, V, p, p + N, p + N + g⟩), .int .i64 (if n - (p + N) < g then 3 else 0 : Int)]) ∧ Ext w w' := by
  have Ht := Lib.hid ht
  clear ht
  by_cases hK : n - (p + N) < g
  · rw [if_pos hK, if_pos hK]
    have hK' : (n : Int) - ((p : Int) + N) < g := by omega
    rcases hV with ⟨rfl, rfl⟩ | ⟨rfl, rfl⟩
    all_goals
      go_enter Try.func70, Try.ntmps70
      go_wp2_with (first | (go_at_call 101; refine (tReadR (hb.ext (by repeat with_reducible (first | exact Ext.refl _ | refine Ext.alloc ?_ _ | refine Ext.drew ?_ | refine Ext.drewN ?_ _ | refine Ext.setCell ?_ (by first | exact Nat.le_refl _ | omega | (simp; done) | (simp; omega)) _))) rfl (by omega) (by omega) Ht.out).mono ?_; rintro e w' ⟨rfl, rfl⟩))
      exact bodyPost_ret (v := .tuple #[recV Rec.zero, .int .i64 3]) (by simp [results, Try.results70, go_sem, recV, Rec.zero]) rfl ⟨rfl, (by repeat with_reducible (first | exact Ext.refl _ | refine Ext.alloc ?_ _ | refine Ext.drew ?_ | refine Ext.drewN ?_ _ | refine Ext.setCell ?_ (by first | exact Nat.le_refl _ | omega | (simp; done) | (simp; omega)) _))⟩
  · rw [if_neg hK, if_neg hK]
    have hK' : ¬ (n : Int) - ((p : Int) + N) < (g : Int) := by omega
    rcases hV with ⟨rfl, rfl⟩ | ⟨rfl, rfl⟩
    · go_enter Try.func70, Try.ntmps70
      go_wp2_with (first | (go_at_call 101; refine (tReadR (hb.ext (by repeat with_reducible (first | exact Ext.refl _ | refine Ext.alloc ?_ _ | refine Ext.drew ?_ | refine Ext.drewN ?_ _ | refine Ext.setCell ?_ (by first | exact Nat.le_refl _ | omega | (simp; done) | (simp; omega)) _))) rfl (by omega) (by omega) Ht.out).mono ?_; rintro e w' ⟨rfl, rfl⟩))
      exact bodyPost_ret (v := .tuple #[recV ⟨T, 1, p, p + N, p + N + 8⟩, .int .i64 0]) (by simp [results, Try.results70, go_sem, recV]) rfl ⟨rfl, (by repeat with_reducible (first | exact Ext.refl _ | refine Ext.alloc ?_ _ | refine Ext.drew ?_ | refine Ext.drewN ?_ _ | refine Ext.setCell ?_ (by first | exact Nat.le_refl _ | omega | (simp; done) | (simp; omega)) _))⟩
    · go_enter Try.func70, Try.ntmps70
      go_wp2_with (first | (go_at_call 101; refine (tReadR (hb.ext (by repeat with_reducible (first | exact Ext.refl _ | refine Ext.alloc ?_ _ | refine Ext.drew ?_ | refine Ext.drewN ?_ _ | refine Ext.setCell ?_ (by first | exact Nat.le_refl _ | omega | (simp; done) | (simp; omega)) _))) rfl (by omega) (by omega) Ht.out).mono ?_; rintro e w' ⟨rfl, rfl⟩))
      exact bodyPost_ret (v := .tuple #[recV ⟨T, 5, p, p + N, p + N + 4⟩, .int .i64 0]) (by simp [results, Try.results70, go_sem, recV]) rfl ⟨rfl, (by repeat with_reducible (first | exact Ext.refl _ | refine Ext.alloc ?_ _ | refine Ext.drew ?_ | refine Ext.drewN ?_ _ | refine Ext.setCell ?_ (by first | exact Nat.le_refl _ | omega | (simp; done) | (simp; omega)) _))⟩

/-- Wire type 2: a length, and so many bytes. -/
theorem rNextR_2 (hb : BytesAt w A n c bs) (hp : p < n) (hn : n ≤ 1000000000000) (ht : tagV (bs.drop p) = (T, 2, N, 0)) (hN : N ≤ n - p) (hT : T ≤ 536870911) (hv : readV (bs.drop (p + N)) = (W, M, K)) (hM : M ≤ n - (p + N)) (hM10 : M ≤ 10) (hW : W < 18446744073709551616) {r : Rec} {D : Nat}
    (h : (K ≠ 0 ∧ r = Rec.zero ∧ D = K) ∨ (K = 0 ∧ n - (p + N + M) < W ∧ r = Rec.zero ∧ D = 3) ∨ (K = 0 ∧ ¬ n - (p + N + M) < W ∧ r = ⟨T, 2, p, p + N + M, p + N + M + W⟩ ∧ D = 0)) :
    Calls Try.prog 70 #[.slice A n c, .int .i64 (p : Int)] w fun e w' => e = .returned (.tuple #[recV r, .int .i64 (D : Int)]) ∧ Ext w w' := by
  have Ht := Lib.hid ht
  have Hv := Lib.hid hv
  clear ht hv
  rcases h with ⟨hK, rfl, hD⟩ | ⟨rfl, hK, rfl, rfl⟩ | ⟨rfl, hK, rfl, rfl⟩
  · obtain rfl : K = D := hD.symm
    have q : ((K : Int) != 0) = true := by simp; omega
    go_enter Try.func70, Try.ntmps70
    go_wp2_with (first | (go_at_call 101; refine (tReadR (hb.ext (by repeat with_reducible (first | exact Ext.refl _ | refine Ext.alloc ?_ _ | refine Ext.drew ?_ | refine Ext.drewN ?_ _ | refine Ext.setCell ?_ (by first | exact Nat.le_refl _ | omega | (simp; done) | (simp; omega)) _))) rfl (by omega) (by omega) Ht.out).mono ?_; rintro e w' ⟨rfl, rfl⟩) | (go_at_call 83; refine (vReadR (p := p + N) (hb.ext (by repeat with_reducible (first | exact Ext.refl _ | refine Ext.alloc ?_ _ | refine Ext.drew ?_ | refine Ext.drewN ?_ _ | refine Ext.setCell ?_ (by first | exact Nat.le_refl _ | omega | (simp; done) | (simp; omega)) _))) (by omega) (by omega) (by omega) Hv.out).mono ?_; rintro e w' ⟨rfl, rfl⟩))
    exact bodyPost_ret (v := .tuple #[recV Rec.zero, .int .i64 K]) (by simp [results, Try.results70, go_sem, recV, Rec.zero]) rfl ⟨rfl, (by repeat with_reducible (first | exact Ext.refl _ | refine Ext.alloc ?_ _ | refine Ext.drew ?_ | refine Ext.drewN ?_ _ | refine Ext.setCell ?_ (by first | exact Nat.le_refl _ | omega | (simp; done) | (simp; omega)) _))⟩
  · have hK' : (n : Int) - ((p : Int) + N) - M < W := by omega
    go_enter Try.func70, Try.ntmps70
    go_wp2_with (first | (go_at_call 101; refine (tReadR (hb.ext (by repeat with_reducible (first | exact Ext.refl _ | refine Ext.alloc ?_ _ | refine Ext.drew ?_ | refine Ext.drewN ?_ _ | refine Ext.setCell ?_ (by first | exact Nat.le_refl _ | omega | (simp; done) | (simp; omega)) _))) rfl (by omega) (by omega) Ht.out).mono ?_; rintro e w' ⟨rfl, rfl⟩) | (go_at_call 83; refine (vReadR (p := p + N) (hb.ext (by repeat with_reducible (first | exact Ext.refl _ | refine Ext.alloc ?_ _ | refine Ext.drew ?_ | refine Ext.drewN ?_ _ | refine Ext.setCell ?_ (by first | exact Nat.le_refl _ | omega | (simp; done) | (simp; omega)) _))) (by omega) (by omega) (by omega) Hv.out).mono ?_; rintro e w' ⟨rfl, rfl⟩))
    exact bodyPost_ret (v := .tuple #[recV Rec.zero, .int .i64 3]) (by simp [results, Try.results70, go_sem, recV, Rec.zero]) rfl ⟨rfl, (by repeat with_reducible (first | exact Ext.refl _ | refine Ext.alloc ?_ _ | refine Ext.drew ?_ | refine Ext.drewN ?_ _ | refine Ext.setCell ?_ (by first | exact Nat.le_refl _ | omega | (simp; done) | (simp; omega)) _))⟩
  · have hK' : ¬ (n : Int) - ((p : Int) + N) - M < W := by omega
    have hW' : (W : Int) ≤ 1000000000000 := by omega
    have hW2 : (p : Int) + N + M + W ≤ 1000000000000 := by omega
    go_enter Try.func70, Try.ntmps70
    go_wp2_with (first | (go_at_call 101; refine (tReadR (hb.ext (by repeat with_reducible (first | exact Ext.refl _ | refine Ext.alloc ?_ _ | refine Ext.drew ?_ | refine Ext.drewN ?_ _ | refine Ext.setCell ?_ (by first | exact Nat.le_refl _ | omega | (simp; done) | (simp; omega)) _))) rfl (by omega) (by omega) Ht.out).mono ?_; rintro e w' ⟨rfl, rfl⟩) | (go_at_call 83; refine (vReadR (p := p + N) (hb.ext (by repeat with_reducible (first | exact Ext.refl _ | refine Ext.alloc ?_ _ | refine Ext.drew ?_ | refine Ext.drewN ?_ _ | refine Ext.setCell ?_ (by first | exact Nat.le_refl _ | omega | (simp; done) | (simp; omega)) _))) (by omega) (by omega) (by omega) Hv.out).mono ?_; rintro e w' ⟨rfl, rfl⟩))
    exact bodyPost_ret (v := .tuple #[recV ⟨T, 2, p, p + N + M, p + N + M + W⟩, .int .i64 0]) (by simp [results, Try.results70, go_sem, recV]) rfl ⟨rfl, (by repeat with_reducible (first | exact Ext.refl _ | refine Ext.alloc ?_ _ | refine Ext.drew ?_ | refine Ext.drewN ?_ _ | refine Ext.setCell ?_ (by first | exact Nat.le_refl _ | omega | (simp; done) | (simp; omega)) _))⟩
end

theorem rNextR {A : Option Addr} {n c p : Nat} {bs : List UInt8} {w : World} {r : Rec} {C : Nat} (hb : BytesAt w A n c bs) (hp : p < n) (hn : n ≤ 1000000000000) (h : nextV bs p = (r, C)) :
    Calls Try.prog 70 #[.slice A n c, .int .i64 (p : Int)] w fun e w' => e = .returned (.tuple #[recV r, .int .i64 (C : Int)]) ∧ Ext w w' := by
  have hl := hb.length
  have hld : (bs.drop p).length = n - p := by rw [List.length_drop, hl]
  rcases ht : tagV (bs.drop p) with ⟨T, V, N, K⟩
  have tb := tagV_bd (bs.drop p)
  rw [ht, hld] at tb
  simp only at tb
  obtain ⟨t1, t2, t3, t4, t5, t6⟩ := tb
  unfold nextV at h
  by_cases hK : K = 0
  · subst hK
    have t7 := t6 rfl
    have hr := t7.2
    unfold rightB at hr
    have hr := of_decide_eq_true hr
    rcases hv : readV (bs.drop (p + N)) with ⟨W, M, K⟩
    have vb := readV_bd (bs.drop (p + N))
    rw [hv, List.length_drop, hl] at vb
    simp only at vb
    have hdd : (bs.drop p).drop N = bs.drop (p + N) := List.drop_drop
    rcases (show V = 0 ∨ V = 1 ∨ V = 5 ∨ V = 2 by omega) with rfl | rfl | rfl | rfl
    · have hs : sizeV 0 ((bs.drop p).drop N) = (0, M, K) := by rw [hdd]; unfold sizeV; rw [if_pos rfl, hv]
      have key := rNextR_0 hb hp hn ht t2 t4 hv vb.2.1
      by_cases hK : K = 0
      · subst hK
        rw [headV_ok ht hs (by rw [hld]; omega)] at h
        simp [shiftR] at h
        obtain ⟨rfl, rfl⟩ := h
        simpa [Nat.add_assoc] using key
      · rw [headV_size ht hs hK] at h
        simp [shiftR, hK] at h
        obtain ⟨rfl, rfl⟩ := h
        simpa [hK] using key
    · have hs : sizeV 1 ((bs.drop p).drop N) = (0, 8, 0) := by unfold sizeV; simp
      have key := rNextR_15 (g := 8) hb hp hn (.inl ⟨rfl, rfl⟩) ht t2 t4
      by_cases hg : n - (p + N) < 8
      · rw [headV_short ht hs (by rw [hld]; omega)] at h
        simp [shiftR] at h
        obtain ⟨rfl, rfl⟩ := h
        simpa [hg] using key
      · rw [headV_ok ht hs (by rw [hld]; omega)] at h
        simp [shiftR] at h
        obtain ⟨rfl, rfl⟩ := h
        simpa [hg, Nat.add_assoc] using key
    · have hs : sizeV 5 ((bs.drop p).drop N) = (0, 4, 0) := by unfold sizeV; simp
      have key := rNextR_15 (g := 4) hb hp hn (.inr ⟨rfl, rfl⟩) ht t2 t4
      by_cases hg : n - (p + N) < 4
      · rw [headV_short ht hs (by rw [hld]; omega)] at h
        simp [shiftR] at h
        obtain ⟨rfl, rfl⟩ := h
        simpa [hg] using key
      · rw [headV_ok ht hs (by rw [hld]; omega)] at h
        simp [shiftR] at h
        obtain ⟨rfl, rfl⟩ := h
        simpa [hg, Nat.add_assoc] using key
    · have hs : sizeV 2 ((bs.drop p).drop N) = (M, W, K) := by rw [hdd]; unfold sizeV; simp [hv]
      refine rNextR_2 hb hp hn ht t2 t4 hv vb.2.1 vb.2.2.1 vb.1 ?_
      by_cases hK : K = 0
      · subst hK
        by_cases hg : n - (p + N + M) < W
        · rw [headV_short ht hs (by rw [hld]; omega)] at h
          simp [shiftR] at h
          exact .inr (.inl ⟨rfl, hg, h.1.symm, h.2.symm⟩)
        · rw [headV_ok ht hs (by rw [hld]; omega)] at h
          simp [shiftR] at h
          exact .inr (.inr ⟨rfl, hg, by rw [← h.1]; simp [Nat.add_assoc], h.2.symm⟩)
      · rw [headV_size ht hs hK] at h
        simp [shiftR, hK] at h
        exact .inl ⟨hK, h.1.symm, h.2.symm⟩
  · rw [headV_tag ht hK] at h
    simp [shiftR, hK] at h
    obtain ⟨rfl, rfl⟩ := h
    exact rNextR_tag hb hp hn ht hK

end Go.Proofs.Ytlmmlmmadgcmcaa
