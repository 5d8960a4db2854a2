/- Contracts of layer 5. -/
import Derived.Test.YtpicpebolghcfaaGreatDoorQjWA
import Derived.Test.YtpicpebolghcfaaGreatDoorQjSA
import Derived.Test.YtpicpebolghcfaaGreatDoorQjLib
import Derived.Deep.QuietTactic
import Derived.BigQuiet

/- Contracts of layer 5: the record at a place. -/
namespace Go.Proofs.YtpicpebolghcfaaGreatDoor
open Go.RowKit
set_option linter.unusedVariables false

theorem rSize {A : Option Addr} {n c : Nat} {bs : List UInt8} {w : World} {V a g C : Nat} (hb : BytesAt w A n c bs) (hV : V ≤ 5) (hs : sizeV V bs = (a, g, C)) :
    Calls Tryz.prog 167 #[.slice A n c, .int .i64 (V : Int)] w fun e w' => e = .returned (.tuple #[.int .i64 (a : Int), .int .u64 (g : Int), .int .u8 (C : Int)]) ∧ w = w' := by
  rcases hv : readV bs with ⟨W, N, K⟩
  have hbd := readV_bd bs
  rw [hv] at hbd
  simp only at hbd
  have h1 := hbd.1
  have h2 := hbd.2.2.1
  have h4 := hbd.2.2.2.1
  clear hbd
  unfold sizeV at hs
  rw [hv] at hs
  have Hv := Lib.hid hv
  clear hv
  by_cases e0 : V = 0
  · subst e0
    simp only [if_true, Prod.mk.injEq] at hs
    obtain ⟨rfl, rfl, rfl⟩ := hs
    go_enter Tryz.func167, Tryz.ntmps167
    go_wp2_with (go_at_call 121; refine (vSkip hb Hv.out).mono ?_; rintro e w' ⟨rfl, rfl⟩)
    go_ret3
    exact ⟨rfl, rfl⟩
  · by_cases e1 : V = 1
    · subst e1
      simp only [if_true, if_neg e0, Prod.mk.injEq] at hs
      obtain ⟨rfl, rfl, rfl⟩ := hs
      go_enter Tryz.func167, Tryz.ntmps167
      go_wp2
      go_ret3
      exact ⟨rfl, rfl⟩
    · by_cases e5 : V = 5
      · subst e5
        simp only [if_true, if_neg e0, if_neg e1, Prod.mk.injEq] at hs
        obtain ⟨rfl, rfl, rfl⟩ := hs
        go_enter Tryz.func167, Tryz.ntmps167
        go_wp2
        go_ret3
        exact ⟨rfl, rfl⟩
      · rw [if_neg e0, if_neg e1, if_neg e5] at hs
        simp only [Prod.mk.injEq] at hs
        obtain ⟨rfl, rfl, rfl⟩ := hs
        have q0 : ((V : Int) == 0) = false := by simp; omega
        have q1 : ((V : Int) == 1) = false := by simp; omega
        have q5 : ((V : Int) == 5) = false := by simp; omega
        clear e0 e1 e5
        go_enter Tryz.func167, Tryz.ntmps167
        go_wp2_with (go_at_call 96; refine (vRead hb Hv.out).mono ?_; rintro e w' ⟨rfl, rfl⟩)
        go_ret3
        exact ⟨rfl, rfl⟩

def recV (r : Rec) : Value := .agg #[.int .i64 (r.n : Int), .int .i64 (r.w : Int), .int .i64 (r.f : Int), .int .i64 (r.a : Int), .int .i64 (r.t : Int)]

theorem rNext_arg {A : Option Addr} {n c : Nat} {w : World} {p : Int} (hp : p < 0 ∨ (n : Int) ≤ p) :
    Calls Tryz.prog 157 #[.slice A n c, .int .i64 p] w fun e w' => e = .returned (.tuple #[recV Rec.zero, .int .u8 2]) ∧ Ext w w' := by
  rcases hp with hp | hp
  · go_enter Tryz.func157, Tryz.ntmps157
    go_wp2
    exact bodyPost_ret (v := .tuple #[recV Rec.zero, .int .u8 2]) (by simp [results, Tryz.results157, go_sem, recV, Rec.zero]) rfl ⟨rfl, (by repeat with_reducible (first | exact Ext.refl _ | refine Ext.alloc ?_ _ | refine Ext.drew ?_ | refine Ext.drewN ?_ _ | refine Ext.setCell ?_ (by first | exact Nat.le_refl _ | omega | (simp; done) | (simp; omega)) _))⟩
  · have h0 : ¬ p < 0 := by omega
    go_enter Tryz.func157, Tryz.ntmps157
    go_wp2
    exact bodyPost_ret (v := .tuple #[recV Rec.zero, .int .u8 2]) (by simp [results, Tryz.results157, go_sem, recV, Rec.zero]) rfl ⟨rfl, (by repeat with_reducible (first | exact Ext.refl _ | refine Ext.alloc ?_ _ | refine Ext.drew ?_ | refine Ext.drewN ?_ _ | refine Ext.setCell ?_ (by first | exact Nat.le_refl _ | omega | (simp; done) | (simp; omega)) _))⟩

set_option maxHeartbeats 1000000 in
theorem rNext {A : Option Addr} {n c p : Nat} {bs : List UInt8} {w : World} {r : Rec} {C : Nat} (hb : BytesAt w A n c bs) (hp : p < n) (hn : n ≤ 1000000000000) (h : nextV bs p = (r, C)) :
    Calls Tryz.prog 157 #[.slice A n c, .int .i64 (p : Int)] w fun e w' => e = .returned (.tuple #[recV r, .int .u8 (C : Int)]) ∧ Ext w w' := by
  have hl := hb.length
  obtain ⟨A3, hcut, hr3⟩ := cut_from elemB hb .i64 (l := p) (by omega)
  have hb3 : BytesAt w A3 (n - p) (c - p) (bs.drop p) := by simpa [BytesAt, List.map_drop] using hr3
  have hl3 := hb3.length
  rcases ht : tagV (bs.drop p) with ⟨T, V, N, K⟩
  have tb := tagV_bd (bs.drop p)
  rw [ht, hl3] at tb
  simp only at tb
  obtain ⟨t1, t2, t3, t4, t5, t6⟩ := tb
  unfold nextV at h
  clear hr3 hl3
  by_cases hK : K = 0
  · subst hK
    have t7 := (t6 rfl).1
    clear t6
    rcases hs : sizeV V ((bs.drop p).drop N) with ⟨a, g, D⟩
    have hs' := hs
    rw [List.drop_drop] at hs'
    obtain ⟨A4, hcut4, hr4⟩ := cut_from elemB hb .i64 (l := p + N) (by omega)
    have hb4 : BytesAt w A4 (n - (p + N)) (c - (p + N)) (bs.drop (p + N)) := by simpa [BytesAt, List.map_drop] using hr4
    have sb := sizeV_bd V ((bs.drop p).drop N)
    rw [hs, List.drop_drop, hb4.length] at sb
    simp only at sb
    obtain ⟨s1, s2, s3, s4⟩ := sb
    rw [Int.natCast_add] at hcut4
    clear hr4
    by_cases hD : D = 0
    · subst hD
      by_cases hg : n - p - (N + a) < g
      · rw [headV_short ht hs (by rw [List.length_drop, hl]; omega)] at h
        simp [shiftR] at h
        obtain ⟨rfl, rfl⟩ := h
        have hg' : ((n : Int) - ((p : Int) + N + a)) < (g : Int) := by omega
        have Ht := Lib.hid ht
        have Hs := Lib.hid hs'
        clear ht hs hs' hl hg
        go_enter Tryz.func157, Tryz.ntmps157
        go_wp2_with (first | (go_at_call 141; refine (tRead (hb3.ext (by repeat with_reducible (first | exact Ext.refl _ | refine Ext.alloc ?_ _ | refine Ext.drew ?_ | refine Ext.drewN ?_ _ | refine Ext.setCell ?_ (by first | exact Nat.le_refl _ | omega | (simp; done) | (simp; omega)) _))) Ht.out).mono ?_; rintro e w1 ⟨rfl, E1⟩; obtain ⟨f1, f2, f3⟩ := E1.new_cells; have X_ : Ext w w1 := Ext.trans (by repeat with_reducible (first | exact Ext.refl _ | refine Ext.alloc ?_ _ | refine Ext.drew ?_ | refine Ext.drewN ?_ _ | refine Ext.setCell ?_ (by first | exact Nat.le_refl _ | omega | (simp; done) | (simp; omega)) _)) E1; replace hb4 := hb4.up X_; have hE := X_; clear X_))
        have hw : IntKind.i64.wrap ((p : Int) + N) = (p : Int) + N := by rw [IntKind.wrap_i64]; omega
        go_quiet ((go_at_call 167; exact Calls.quiet_of_same ((rSize (hb4.up (by repeat with_reducible (first | exact Ext.refl _ | refine Ext.alloc ?_ _ | refine Ext.drew ?_ | refine Ext.drewN ?_ _ | refine Ext.setCell ?_ (by first | exact Nat.le_refl _ | omega | (simp; done) | (simp; omega)) _))) t5 Hs.out).mono fun _ _ h => ⟨h.1, h.2.symm⟩)))
        go_wp2
        exact bodyPost_ret (v := .tuple #[recV Rec.zero, .int .u8 3]) (by simp [results, Tryz.results157, go_sem, recV, Rec.zero, f1, f3]) rfl ⟨rfl, (by repeat with_reducible (first | exact hE | exact Ext.refl _ | refine Ext.alloc ?_ _ | refine Ext.drew ?_ | refine Ext.drewN ?_ _ | refine Ext.setCell ?_ (by first | exact Nat.le_refl _ | omega | (simp; done) | (simp; omega)) _))⟩
      · rw [headV_ok ht hs (by rw [List.length_drop, hl]; omega)] at h
        simp [shiftR] at h
        obtain ⟨rfl, rfl⟩ := h
        have hg' : ¬ ((n : Int) - ((p : Int) + N + a)) < (g : Int) := by omega
        have hg2 : (g : Int) ≤ 1000000000000 := by omega
        have hg3 : (p : Int) + N + a + g ≤ 1000000000000 := by omega
        have Ht := Lib.hid ht
        have Hs := Lib.hid hs'
        clear ht hs hs' hl
        go_enter Tryz.func157, Tryz.ntmps157
        go_wp2_with (first | (go_at_call 141; refine (tRead (hb3.ext (by repeat with_reducible (first | exact Ext.refl _ | refine Ext.alloc ?_ _ | refine Ext.drew ?_ | refine Ext.drewN ?_ _ | refine Ext.setCell ?_ (by first | exact Nat.le_refl _ | omega | (simp; done) | (simp; omega)) _))) Ht.out).mono ?_; rintro e w1 ⟨rfl, E1⟩; obtain ⟨f1, f2, f3⟩ := E1.new_cells; have X_ : Ext w w1 := Ext.trans (by repeat with_reducible (first | exact Ext.refl _ | refine Ext.alloc ?_ _ | refine Ext.drew ?_ | refine Ext.drewN ?_ _ | refine Ext.setCell ?_ (by first | exact Nat.le_refl _ | omega | (simp; done) | (simp; omega)) _)) E1; replace hb4 := hb4.up X_; have hE := X_; clear X_))
        have hw : IntKind.i64.wrap ((p : Int) + N) = (p : Int) + N := by rw [IntKind.wrap_i64]; omega
        go_quiet ((go_at_call 167; exact Calls.quiet_of_same ((rSize (hb4.up (by repeat with_reducible (first | exact Ext.refl _ | refine Ext.alloc ?_ _ | refine Ext.drew ?_ | refine Ext.drewN ?_ _ | refine Ext.setCell ?_ (by first | exact Nat.le_refl _ | omega | (simp; done) | (simp; omega)) _))) t5 Hs.out).mono fun _ _ h => ⟨h.1, h.2.symm⟩)))
        go_wp2
        exact bodyPost_ret (v := .tuple #[recV ⟨T, V, p, p + N + a, p + N + a + g⟩, .int .u8 0]) (by simp [results, Tryz.results157, go_sem, recV, f1, f3]) rfl ⟨by simp [recV, Nat.add_assoc], (by repeat with_reducible (first | exact hE | exact Ext.refl _ | refine Ext.alloc ?_ _ | refine Ext.drew ?_ | refine Ext.drewN ?_ _ | refine Ext.setCell ?_ (by first | exact Nat.le_refl _ | omega | (simp; done) | (simp; omega)) _))⟩
    · rw [headV_size ht hs hD] at h
      simp [shiftR, hD] at h
      obtain ⟨rfl, rfl⟩ := h
      have q : ((D : Int) != 0) = true := by simp; omega
      have Ht := Lib.hid ht
      have Hs := Lib.hid hs'
      clear ht hs hs' hl
      go_enter Tryz.func157, Tryz.ntmps157
      go_wp2_with (first | (go_at_call 141; refine (tRead (hb3.ext (by repeat with_reducible (first | exact Ext.refl _ | refine Ext.alloc ?_ _ | refine Ext.drew ?_ | refine Ext.drewN ?_ _ | refine Ext.setCell ?_ (by first | exact Nat.le_refl _ | omega | (simp; done) | (simp; omega)) _))) Ht.out).mono ?_; rintro e w1 ⟨rfl, E1⟩; obtain ⟨f1, f2, f3⟩ := E1.new_cells; have X_ : Ext w w1 := Ext.trans (by repeat with_reducible (first | exact Ext.refl _ | refine Ext.alloc ?_ _ | refine Ext.drew ?_ | refine Ext.drewN ?_ _ | refine Ext.setCell ?_ (by first | exact Nat.le_refl _ | omega | (simp; done) | (simp; omega)) _)) E1; replace hb4 := hb4.up X_; have hE := X_; clear X_))
      have hw : IntKind.i64.wrap ((p : Int) + N) = (p : Int) + N := by rw [IntKind.wrap_i64]; omega
      go_quiet ((go_at_call 167; exact Calls.quiet_of_same ((rSize (hb4.up (by repeat with_reducible (first | exact Ext.refl _ | refine Ext.alloc ?_ _ | refine Ext.drew ?_ | refine Ext.drewN ?_ _ | refine Ext.setCell ?_ (by first | exact Nat.le_refl _ | omega | (simp; done) | (simp; omega)) _))) t5 Hs.out).mono fun _ _ h => ⟨h.1, h.2.symm⟩)))
      go_wp2
      exact bodyPost_ret (v := .tuple #[recV Rec.zero, .int .u8 D]) (by simp [results, Tryz.results157, go_sem, recV, Rec.zero, f1, f3]) rfl ⟨rfl, (by repeat with_reducible (first | exact hE | exact Ext.refl _ | refine Ext.alloc ?_ _ | refine Ext.drew ?_ | refine Ext.drewN ?_ _ | refine Ext.setCell ?_ (by first | exact Nat.le_refl _ | omega | (simp; done) | (simp; omega)) _))⟩
  · rw [headV_tag ht hK] at h
    simp [shiftR, hK] at h
    obtain ⟨rfl, rfl⟩ := h
    have q : ((K : Int) != 0) = true := by simp; omega
    have Ht := Lib.hid ht
    clear ht hl t6
    go_enter Tryz.func157, Tryz.ntmps157
    go_wp2_with (first | (go_at_call 141; refine (tRead (hb3.ext (by repeat with_reducible (first | exact Ext.refl _ | refine Ext.alloc ?_ _ | refine Ext.drew ?_ | refine Ext.drewN ?_ _ | refine Ext.setCell ?_ (by first | exact Nat.le_refl _ | omega | (simp; done) | (simp; omega)) _))) Ht.out).mono ?_; rintro e w1 ⟨rfl, E1⟩; obtain ⟨f1, f2, f3⟩ := E1.new_cells; have X_ : Ext w w1 := Ext.trans (by repeat with_reducible (first | exact Ext.refl _ | refine Ext.alloc ?_ _ | refine Ext.drew ?_ | refine Ext.drewN ?_ _ | refine Ext.setCell ?_ (by first | exact Nat.le_refl _ | omega | (simp; done) | (simp; omega)) _)) E1; have hE := X_; clear X_))
    exact bodyPost_ret (v := .tuple #[recV Rec.zero, .int .u8 K]) (by simp [results, Tryz.results157, go_sem, recV, Rec.zero, f1, f3]) rfl ⟨rfl, (by repeat with_reducible (first | exact hE | exact Ext.refl _ | refine Ext.alloc ?_ _ | refine Ext.drew ?_ | refine Ext.drewN ?_ _ | refine Ext.setCell ?_ (by first | exact Nat.le_refl _ | omega | (simp; done) | (simp; omega)) _))⟩

end Go.Proofs.YtpicpebolghcfaaGreatDoor

/- Contracts of layer 5: the record at a place, as the reference has it. -/
namespace Go.Proofs.YtpicpebolghcfaaGreatDoor
open Go.RowKit
set_option linter.unusedVariables false

theorem rNextR_arg {A : Option Addr} {n c : Nat} {w : World} {p : Int} (hp : p < 0 ∨ (n : Int) ≤ p) :
    Calls Tryz.prog 101 #[.slice A n c, .int .i64 p] w fun e w' => e = .returned (.tuple #[recV Rec.zero, .int .i64 2]) ∧ Ext w w' := by
  rcases hp with hp | hp
  · go_enter Tryz.func101, Tryz.ntmps101
    go_wp2
    exact bodyPost_ret (v := .tuple #[recV Rec.zero, .int .i64 2]) (by simp [results, Tryz.results101, go_sem, recV, Rec.zero]) rfl ⟨rfl, (by repeat with_reducible (first | exact Ext.refl _ | refine Ext.alloc ?_ _ | refine Ext.drew ?_ | refine Ext.drewN ?_ _ | refine Ext.setCell ?_ (by first | exact Nat.le_refl _ | omega | (simp; done) | (simp; omega)) _))⟩
  · have h0 : ¬ p < 0 := by omega
    go_enter Tryz.func101, Tryz.ntmps101
    go_wp2
    exact bodyPost_ret (v := .tuple #[recV Rec.zero, .int .i64 2]) (by simp [results, Tryz.results101, go_sem, recV, Rec.zero]) rfl ⟨rfl, (by repeat with_reducible (first | exact Ext.refl _ | refine Ext.alloc ?_ _ | refine Ext.drew ?_ | refine Ext.drewN ?_ _ | refine Ext.setCell ?_ (by first | exact Nat.le_refl _ | omega | (simp; done) | (simp; omega)) _))⟩

section
variable {A : Option Addr} {n c p : Nat} {bs : List UInt8} {w : World} {T V N W M K : Nat}

theorem rNextR_tag (hb : BytesAt w A n c bs) (hp : p < n) (hn : n ≤ 1000000000000) (ht : tagV (bs.drop p) = (T, V, N, K)) (hK : K ≠ 0) :
    Calls Tryz.prog 101 #[.slice A n c, .int .i64 (p : Int)] w fun e w' => e = .returned (.tuple #[recV Rec.zero, .int .i64 (K : Int)]) ∧ Ext w w' := by
  have q : ((K : Int) != 0) = true := by simp; omega
  have Ht := Lib.hid ht
  clear ht
  go_enter Tryz.func101, Tryz.ntmps101
  go_wp2_with (go_at_call 124; refine (tReadR (hb.ext (by repeat with_reducible (first | exact Ext.refl _ | refine Ext.alloc ?_ _ | refine Ext.drew ?_ | refine Ext.drewN ?_ _ | refine Ext.setCell ?_ (by first | exact Nat.le_refl _ | omega | (simp; done) | (simp; omega)) _))) rfl (by omega) (by omega) Ht.out).mono ?_; rintro e w' ⟨rfl, rfl⟩)
  exact bodyPost_ret (v := .tuple #[recV Rec.zero, .int .i64 K]) (by simp [results, Tryz.results101, go_sem, recV, Rec.zero]) rfl ⟨rfl, (by repeat with_reducible (first | exact Ext.refl _ | refine Ext.alloc ?_ _ | refine Ext.drew ?_ | refine Ext.drewN ?_ _ | refine Ext.setCell ?_ (by first | exact Nat.le_refl _ | omega | (simp; done) | (simp; omega)) _))⟩

theorem rNextR_0 (hb : BytesAt w A n c bs) (hp : p < n) (hn : n ≤ 1000000000000) (ht : tagV (bs.drop p) = (T, 0, N, 0)) (hN : N ≤ n - p) (hT : T ≤ 536870911) (hv : readV (bs.drop (p + N)) = (W, M, K)) (hM : M ≤ n - (p + N)) :
    Calls Tryz.prog 101 #[.slice A n c, .int .i64 (p : Int)] w fun e w' => e = .returned (.tuple #[recV (if K = 0 then ⟨T, 0, p, p + N, p + N + M⟩ else Rec.zero), .int .i64 (K : Int)]) ∧ Ext w w' := by
  have Ht := Lib.hid ht
  have Hv := Lib.hid hv
  clear ht hv
  by_cases hK : K = 0
  · subst hK
    go_enter Tryz.func101, Tryz.ntmps101
    go_wp2_with (first | (go_at_call 124; refine (tReadR (hb.ext (by repeat with_reducible (first | exact Ext.refl _ | refine Ext.alloc ?_ _ | refine Ext.drew ?_ | refine Ext.drewN ?_ _ | refine Ext.setCell ?_ (by first | exact Nat.le_refl _ | omega | (simp; done) | (simp; omega)) _))) rfl (by omega) (by omega) Ht.out).mono ?_; rintro e w' ⟨rfl, rfl⟩) | (go_at_call 70; refine (vReadR (p := p + N) (hb.ext (by repeat with_reducible (first | exact Ext.refl _ | refine Ext.alloc ?_ _ | refine Ext.drew ?_ | refine Ext.drewN ?_ _ | refine Ext.setCell ?_ (by first | exact Nat.le_refl _ | omega | (simp; done) | (simp; omega)) _))) (by omega) (by omega) (by omega) Hv.out).mono ?_; rintro e w' ⟨rfl, rfl⟩))
    exact bodyPost_ret (v := .tuple #[recV ⟨T, 0, p, p + N, p + N + M⟩, .int .i64 0]) (by simp [results, Tryz.results101, go_sem, recV]) rfl ⟨by simp, (by repeat with_reducible (first | exact Ext.refl _ | refine Ext.alloc ?_ _ | refine Ext.drew ?_ | refine Ext.drewN ?_ _ | refine Ext.setCell ?_ (by first | exact Nat.le_refl _ | omega | (simp; done) | (simp; omega)) _))⟩
  · have q : ((K : Int) != 0) = true := by simp; omega
    rw [if_neg hK]
    go_enter Tryz.func101, Tryz.ntmps101
    go_wp2_with (first | (go_at_call 124; refine (tReadR (hb.ext (by repeat with_reducible (first | exact Ext.refl _ | refine Ext.alloc ?_ _ | refine Ext.drew ?_ | refine Ext.drewN ?_ _ | refine Ext.setCell ?_ (by first | exact Nat.le_refl _ | omega | (simp; done) | (simp; omega)) _))) rfl (by omega) (by omega) Ht.out).mono ?_; rintro e w' ⟨rfl, rfl⟩) | (go_at_call 70; refine (vReadR (p := p + N) (hb.ext (by repeat with_reducible (first | exact Ext.refl _ | refine Ext.alloc ?_ _ | refine Ext.drew ?_ | refine Ext.drewN ?_ _ | refine Ext.setCell ?_ (by first | exact Nat.le_refl _ | omega | (simp; done) | (simp; omega)) _))) (by omega) (by omega) (by omega) Hv.out).mono ?_; rintro e w' ⟨rfl, rfl⟩))
    exact bodyPost_ret (v := .tuple #[recV Rec.zero, .int .i64 K]) (by simp [results, Tryz.results101, go_sem, recV, Rec.zero]) rfl ⟨rfl, (by repeat with_reducible (first | exact Ext.refl _ | refine Ext.alloc ?_ _ | refine Ext.drew ?_ | refine Ext.drewN ?_ _ | refine Ext.setCell ?_ (by first | exact Nat.le_refl _ | omega | (simp; done) | (simp; omega)) _))⟩

set_option maxHeartbeats 1000000 in
theorem rNextR_15 (hb : BytesAt w A n c bs) (hp : p < n) (hn : n ≤ 1000000000000) {g : Nat} (hV : V = 1 ∧ g = 8 ∨ V = 5 ∧ g = 4) (ht : tagV (bs.drop p) = (T, V, N, 0)) (hN : N ≤ n - p) (hT : T ≤ 536870911) :
    Calls Tryz.prog 101 #[.slice A n c, .int .i64 (p : Int)] w fun e w' => e = .returned (.tuple #[recV (if n - (p + N) < g then Rec.zero else ⟨T, V, p, p + N, p + N + g⟩), .int .i64 (if n - (p + N) < g then 3 else 0 : Int)]) ∧ Ext w w' := by
  have Ht := Lib.hid ht
  clear ht
  by_cases hK : n - (p + N) < g
  · rw [if_pos hK, if_pos hK]
    have hK' : (n : Int) - ((p : Int) + N) < g := by omega
    rcases hV with ⟨rfl, rfl⟩ | ⟨rfl, rfl⟩
    all_goals
      go_enter Tryz.func101, Tryz.ntmps101
      go_wp2_with (first | (go_at_call 124; refine (tReadR (hb.ext (by repeat with_reducible (first | exact Ext.refl _ | refine Ext.alloc ?_ _ | refine Ext.drew ?_ | refine Ext.drewN ?_ _ | refine Ext.setCell ?_ (by first | exact Nat.le_refl _ | omega | (simp; done) | (simp; omega)) _))) rfl (by omega) (by omega) Ht.out).mono ?_; rintro e w' ⟨rfl, rfl⟩))
      exact bodyPost_ret (v := .tuple #[recV Rec.zero, .int .i64 3]) (by simp [results, Tryz.results101, go_sem, recV, Rec.zero]) rfl ⟨rfl, (by repeat with_reducible (first | exact Ext.refl _ | refine Ext.alloc ?_ _ | refine Ext.drew ?_ | refine Ext.drewN ?_ _ | refine Ext.setCell ?_ (by first | exact Nat.le_refl _ | omega | (simp; done) | (simp; omega)) _))⟩
  · rw [if_neg hK, if_neg hK]
    have hK' : ¬ (n : Int) - ((p : Int) + N) < (g : Int) := by omega
    rcases hV with ⟨rfl, rfl⟩ | ⟨rfl, rfl⟩
    · go_enter Tryz.func101, Tryz.ntmps101
      go_wp2_with (first | (go_at_call 124; refine (tReadR (hb.ext (by repeat with_reducible (first | exact Ext.refl _ | refine Ext.alloc ?_ _ | refine Ext.drew ?_ | refine Ext.drewN ?_ _ | refine Ext.setCell ?_ (by first | exact Nat.le_refl _ | omega | (simp; done) | (simp; omega)) _))) rfl (by omega) (by omega) Ht.out).mono ?_; rintro e w' ⟨rfl, rfl⟩))
      exact bodyPost_ret (v := .tuple #[recV ⟨T, 1, p, p + N, p + N + 8⟩, .int .i64 0]) (by simp [results, Tryz.results101, go_sem, recV]) rfl ⟨rfl, (by repeat with_reducible (first | exact Ext.refl _ | refine Ext.alloc ?_ _ | refine Ext.drew ?_ | refine Ext.drewN ?_ _ | refine Ext.setCell ?_ (by first | exact Nat.le_refl _ | omega | (simp; done) | (simp; omega)) _))⟩
    · go_enter Tryz.func101, Tryz.ntmps101
      go_wp2_with (first | (go_at_call 124; refine (tReadR (hb.ext (by repeat with_reducible (first | exact Ext.refl _ | refine Ext.alloc ?_ _ | refine Ext.drew ?_ | refine Ext.drewN ?_ _ | refine Ext.setCell ?_ (by first | exact Nat.le_refl _ | omega | (simp; done) | (simp; omega)) _))) rfl (by omega) (by omega) Ht.out).mono ?_; rintro e w' ⟨rfl, rfl⟩))
      exact bodyPost_ret (v := .tuple #[recV ⟨T, 5, p, p + N, p + N + 4⟩, .int .i64 0]) (by simp [results, Tryz.results101, go_sem, recV]) rfl ⟨rfl, (by repeat with_reducible (first | exact Ext.refl _ | refine Ext.alloc ?_ _ | refine Ext.drew ?_ | refine Ext.drewN ?_ _ | refine Ext.setCell ?_ (by first | exact Nat.le_refl _ | omega | (simp; done) | (simp; omega)) _))⟩

theorem rNextR_2 (hb : BytesAt w A n c bs) (hp : p < n) (hn : n ≤ 1000000000000) (ht : tagV (bs.drop p) = (T, 2, N, 0)) (hN : N ≤ n - p) (hT : T ≤ 536870911) (hv : readV (bs.drop (p + N)) = (W, M, K)) (hM : M ≤ n - (p + N)) (hM10 : M ≤ 10) (hW : W < 18446744073709551616) {r : Rec} {D : Nat}
    (h : (K ≠ 0 ∧ r = Rec.zero ∧ D = K) ∨ (K = 0 ∧ n - (p + N + M) < W ∧ r = Rec.zero ∧ D = 3) ∨ (K = 0 ∧ ¬ n - (p + N + M) < W ∧ r = ⟨T, 2, p, p + N + M, p + N + M + W⟩ ∧ D = 0)) :
    Calls Tryz.prog 101 #[.slice A n c, .int .i64 (p : Int)] w fun e w' => e = .returned (.tuple #[recV r, .int .i64 (D : Int)]) ∧ Ext w w' := by
  have Ht := Lib.hid ht
  have Hv := Lib.hid hv
  clear ht hv
  rcases h with ⟨hK, rfl, hD⟩ | ⟨rfl, hK, rfl, rfl⟩ | ⟨rfl, hK, rfl, rfl⟩
  · obtain rfl : K = D := hD.symm
    have q : ((K : Int) != 0) = true := by simp; omega
    go_enter Tryz.func101, Tryz.ntmps101
    go_wp2_with (first | (go_at_call 124; refine (tReadR (hb.ext (by repeat with_reducible (first | exact Ext.refl _ | refine Ext.alloc ?_ _ | refine Ext.drew ?_ | refine Ext.drewN ?_ _ | refine Ext.setCell ?_ (by first | exact Nat.le_refl _ | omega | (simp; done) | (simp; omega)) _))) rfl (by omega) (by omega) Ht.out).mono ?_; rintro e w' ⟨rfl, rfl⟩) | (go_at_call 70; refine (vReadR (p := p + N) (hb.ext (by repeat with_reducible (first | exact Ext.refl _ | refine Ext.alloc ?_ _ | refine Ext.drew ?_ | refine Ext.drewN ?_ _ | refine Ext.setCell ?_ (by first | exact Nat.le_refl _ | omega | (simp; done) | (simp; omega)) _))) (by omega) (by omega) (by omega) Hv.out).mono ?_; rintro e w' ⟨rfl, rfl⟩))
    exact bodyPost_ret (v := .tuple #[recV Rec.zero, .int .i64 K]) (by simp [results, Tryz.results101, go_sem, recV, Rec.zero]) rfl ⟨rfl, (by repeat with_reducible (first | exact Ext.refl _ | refine Ext.alloc ?_ _ | refine Ext.drew ?_ | refine Ext.drewN ?_ _ | refine Ext.setCell ?_ (by first | exact Nat.le_refl _ | omega | (simp; done) | (simp; omega)) _))⟩
  · have hK' : (n : Int) - ((p : Int) + N) - M < W := by omega
    go_enter Tryz.func101, Tryz.ntmps101
    go_wp2_with (first | (go_at_call 124; refine (tReadR (hb.ext (by repeat with_reducible (first | exact Ext.refl _ | refine Ext.alloc ?_ _ | refine Ext.drew ?_ | refine Ext.drewN ?_ _ | refine Ext.setCell ?_ (by first | exact Nat.le_refl _ | omega | (simp; done) | (simp; omega)) _))) rfl (by omega) (by omega) Ht.out).mono ?_; rintro e w' ⟨rfl, rfl⟩) | (go_at_call 70; refine (vReadR (p := p + N) (hb.ext (by repeat with_reducible (first | exact Ext.refl _ | refine Ext.alloc ?_ _ | refine Ext.drew ?_ | refine Ext.drewN ?_ _ | refine Ext.setCell ?_ (by first | exact Nat.le_refl _ | omega | (simp; done) | (simp; omega)) _))) (by omega) (by omega) (by omega) Hv.out).mono ?_; rintro e w' ⟨rfl, rfl⟩))
    exact bodyPost_ret (v := .tuple #[recV Rec.zero, .int .i64 3]) (by simp [results, Tryz.results101, go_sem, recV, Rec.zero]) rfl ⟨rfl, (by repeat with_reducible (first | exact Ext.refl _ | refine Ext.alloc ?_ _ | refine Ext.drew ?_ | refine Ext.drewN ?_ _ | refine Ext.setCell ?_ (by first | exact Nat.le_refl _ | omega | (simp; done) | (simp; omega)) _))⟩
  · have hK' : ¬ (n : Int) - ((p : Int) + N) - M < W := by omega
    have hW' : (W : Int) ≤ 1000000000000 := by omega
    have hW2 : (p : Int) + N + M + W ≤ 1000000000000 := by omega
    go_enter Tryz.func101, Tryz.ntmps101
    go_wp2_with (first | (go_at_call 124; refine (tReadR (hb.ext (by repeat with_reducible (first | exact Ext.refl _ | refine Ext.alloc ?_ _ | refine Ext.drew ?_ | refine Ext.drewN ?_ _ | refine Ext.setCell ?_ (by first | exact Nat.le_refl _ | omega | (simp; done) | (simp; omega)) _))) rfl (by omega) (by omega) Ht.out).mono ?_; rintro e w' ⟨rfl, rfl⟩) | (go_at_call 70; refine (vReadR (p := p + N) (hb.ext (by repeat with_reducible (first | exact Ext.refl _ | refine Ext.alloc ?_ _ | refine Ext.drew ?_ | refine Ext.drewN ?_ _ | refine Ext.setCell ?_ (by first | exact Nat.le_refl _ | omega | (simp; done) | (simp; omega)) _))) (by omega) (by omega) (by omega) Hv.out).mono ?_; rintro e w' ⟨rfl, rfl⟩))
    exact bodyPost_ret (v := .tuple #[recV ⟨T, 2, p, p + N + M, p + N + M + W⟩, .int .i64 0]) (by simp [results, Tryz.results101, go_sem, recV]) rfl ⟨rfl, (by repeat with_reducible (first | exact Ext.refl _ | refine Ext.alloc ?_ _ | refine Ext.drew ?_ | refine Ext.drewN ?_ _ | refine Ext.setCell ?_ (by first | exact Nat.le_refl _ | omega | (simp; done) | (simp; omega)) _))⟩
end

theorem rNextR {A : Option Addr} {n c p : Nat} {bs : List UInt8} {w : World} {r : Rec} {C : Nat} (hb : BytesAt w A n c bs) (hp : p < n) (hn : n ≤ 1000000000000) (h : nextV bs p = (r, C)) :
    Calls Tryz.prog 101 #[.slice A n c, .int .i64 (p : Int)] w fun e w' => e = .returned (.tuple #[recV r, .int .i64 (C : Int)]) ∧ Ext w w' := by
  have hl := hb.length
  have hld : (bs.drop p).length = n - p := by rw [List.length_drop, hl]
  rcases ht : tagV (bs.drop p) with ⟨T, V, N, K⟩
  have tb := tagV_bd (bs.drop p)
  rw [ht, hld] at tb
  simp only at tb
  obtain ⟨t1, t2, t3, t4, t5, t6⟩ := tb
  unfold nextV at h
  by_cases hK : K = 0
  · subst hK
    have t7 := t6 rfl
    have hr := t7.2
    unfold rightB at hr
    have hr := of_decide_eq_true hr
    rcases hv : readV (bs.drop (p + N)) with ⟨W, M, K⟩
    have vb := readV_bd (bs.drop (p + N))
    rw [hv, List.length_drop, hl] at vb
    simp only at vb
    have hdd : (bs.drop p).drop N = bs.drop (p + N) := List.drop_drop
    rcases (show V = 0 ∨ V = 1 ∨ V = 5 ∨ V = 2 by omega) with rfl | rfl | rfl | rfl
    · have hs : sizeV 0 ((bs.drop p).drop N) = (0, M, K) := by rw [hdd]; unfold sizeV; rw [if_pos rfl, hv]
      have key := rNextR_0 hb hp hn ht t2 t4 hv vb.2.1
      by_cases hK : K = 0
      · subst hK
        rw [headV_ok ht hs (by rw [hld]; omega)] at h
        simp [shiftR] at h
        obtain ⟨rfl, rfl⟩ := h
        simpa [Nat.add_assoc] using key
      · rw [headV_size ht hs hK] at h
        simp [shiftR, hK] at h
        obtain ⟨rfl, rfl⟩ := h
        simpa [hK] using key
    · have hs : sizeV 1 ((bs.drop p).drop N) = (0, 8, 0) := by unfold sizeV; simp
      have key := rNextR_15 (g := 8) hb hp hn (.inl ⟨rfl, rfl⟩) ht t2 t4
      by_cases hg : n - (p + N) < 8
      · rw [headV_short ht hs (by rw [hld]; omega)] at h
        simp [shiftR] at h
        obtain ⟨rfl, rfl⟩ := h
        simpa [hg] using key
      · rw [headV_ok ht hs (by rw [hld]; omega)] at h
        simp [shiftR] at h
        obtain ⟨rfl, rfl⟩ := h
        simpa [hg, Nat.add_assoc] using key
    · have hs : sizeV 5 ((bs.drop p).drop N) = (0, 4, 0) := by unfold sizeV; simp
      have key := rNextR_15 (g := 4) hb hp hn (.inr ⟨rfl, rfl⟩) ht t2 t4
      by_cases hg : n - (p + N) < 4
      · rw [headV_short ht hs (by rw [hld]; omega)] at h
        simp [shiftR] at h
        obtain ⟨rfl, rfl⟩ := h
        simpa [hg] using key
      · rw [headV_ok ht hs (by rw [hld]; omega)] at h
        simp [shiftR] at h
        obtain ⟨rfl, rfl⟩ := h
        simpa [hg, Nat.add_assoc] using key
    · have hs : sizeV 2 ((bs.drop p).drop N) = (M, W, K) := by rw [hdd]; unfold sizeV; simp [hv]
      refine rNextR_2 hb hp hn ht t2 t4 hv vb.2.1 vb.2.2.1 vb.1 ?_
      by_cases hK : K = 0
      · subst hK
        by_cases hg : n - (p + N + M) < W
        · rw [headV_short ht hs (by rw [hld]; omega)] at h
          simp [shiftR] at h
          exact .inr (.inl ⟨rfl, hg, h.1.symm, h.2.symm⟩)
        · rw [headV_ok ht hs (by rw [hld]; omega)] at h
          simp [shiftR] at h
          exact .inr (.inr ⟨rfl, hg, by rw [← h.1]; simp [Nat.add_assoc], h.2.symm⟩)
      · rw [headV_size ht hs hK] at h
        simp [shiftR, hK] at h
        exact .inl ⟨hK, h.1.symm, h.2.symm⟩
  · rw [headV_tag ht hK] at h
    simp [shiftR, hK] at h
    obtain ⟨rfl, rfl⟩ := h
    exact rNextR_tag hb hp hn ht hK

end Go.Proofs.YtpicpebolghcfaaGreatDoor

/- Contracts of layer 5: all records. -/
namespace Go.Proofs.YtpicpebolghcfaaGreatDoor
open Go.RowKit
set_option linter.unusedVariables false

end Go.Proofs.YtpicpebolghcfaaGreatDoor

/- Contracts of layer 5: putting records. -/
namespace Go.Proofs.YtpicpebolghcfaaGreatDoor
open Go.RowKit
set_option linter.unusedVariables false

def fitsV (wire : Int) (v : List UInt8) : Bool := decide ((wire = 0 ∧ (readV v).2.2 = 0 ∧ (readV v).2.1 = v.length) ∨ (wire = 1 ∧ v.length = 8) ∨ (wire = 5 ∧ v.length = 4) ∨ wire = 2)

theorem rFitsR {A : Option Addr} {n c : Nat} {bs : List UInt8} {w : World} {wire : Int} (hb : BytesAt w A n c bs) (hn : n ≤ 9000000000000000000) :
    Calls Tryz.prog 67 #[.int .i64 wire, .slice A n c] w fun e w' => e = .returned (.bool (fitsV wire bs)) ∧ w = w' := by
  have hl := hb.length
  rcases hv : readV bs with ⟨W, N, K⟩
  have hbd := readV_bd bs
  rw [hv] at hbd
  simp only at hbd
  have h2 := hbd.2.2.1
  have h4 := hbd.2.2.2.1
  clear hbd
  have hf : fitsV wire bs = decide ((wire = 0 ∧ K = 0 ∧ N = n) ∨ (wire = 1 ∧ n = 8) ∨ (wire = 5 ∧ n = 4) ∨ wire = 2) := by unfold fitsV; rw [hv, hl]
  rw [hf]
  clear hf hl
  have Hv := Lib.hid hv
  clear hv
  by_cases e0 : wire = 0
  · subst e0
    by_cases hK : K = 0
    · subst hK
      go_enter Tryz.func67, Tryz.ntmps67
      go_wp2_with (go_at_call 70; refine (vReadR (p := 0) hb rfl (Nat.zero_le _) hn Hv.out).mono ?_; rintro e w' ⟨rfl, rfl⟩)
      go_ret
      exact ⟨ret_bool (by rw [Bool.eq_iff_iff]; simp; omega), rfl⟩
    · have q : ((K : Int) == 0) = false := by simp; omega
      go_enter Tryz.func67, Tryz.ntmps67
      go_wp2_with (go_at_call 70; refine (vReadR (p := 0) hb rfl (Nat.zero_le _) hn Hv.out).mono ?_; rintro e w' ⟨rfl, rfl⟩)
      go_ret
      exact ⟨ret_bool (by rw [Bool.eq_iff_iff]; simp [hK]), rfl⟩
  · have q0 : (wire == 0) = false := by simp; omega
    by_cases e2 : wire = 2
    · subst e2
      clear e0
      go_enter Tryz.func67, Tryz.ntmps67
      go_wp2
      go_ret
      exact ⟨ret_bool (by rw [Bool.eq_iff_iff]; simp), rfl⟩
    · have q2 : (wire == 2) = false := by simp; omega
      by_cases e1 : wire = 1
      · subst e1
        clear e0 e2
        by_cases h8 : n = 8
        · subst h8
          go_enter Tryz.func67, Tryz.ntmps67
          go_wp2
          go_ret
          exact ⟨ret_bool (by rw [Bool.eq_iff_iff]; simp), rfl⟩
        · have q8 : ((n : Int) == 8) = false := by simp; omega
          go_enter Tryz.func67, Tryz.ntmps67
          go_wp2
          go_ret
          exact ⟨ret_bool (by rw [Bool.eq_iff_iff]; simp [h8]), rfl⟩
      · have q1 : (wire == 1) = false := by simp; omega
        by_cases e5 : wire = 5
        · subst e5
          clear e0 e1 e2
          go_enter Tryz.func67, Tryz.ntmps67
          go_wp2
          go_ret
          exact ⟨ret_bool (by rw [Bool.eq_iff_iff]; simp; try omega), rfl⟩
        · have q5 : (wire == 5) = false := by simp; omega
          have hd : decide ((wire = 0 ∧ K = 0 ∧ N = n) ∨ (wire = 1 ∧ n = 8) ∨ (wire = 5 ∧ n = 4) ∨ wire = 2) = false := by simp [e0, e1, e2, e5]
          rw [hd]
          clear e0 e1 e2 e5 hd
          go_enter Tryz.func67, Tryz.ntmps67
          go_wp2
          go_ret
          exact ⟨rfl, rfl⟩

end Go.Proofs.YtpicpebolghcfaaGreatDoor

/- Plain laws of layer 5: a record put alone; records lie without a gap. -/
namespace Go.Proofs.YtpicpebolghcfaaGreatDoor
open Go.RowKit Go.Lib
set_option linter.unusedVariables false

def spanB (bs : List UInt8) (a t : Nat) : List UInt8 := (bs.take t).drop a

theorem spanB_length (bs : List UInt8) {a t : Nat} (h : t ≤ bs.length) : (spanB bs a t).length = t - a := by unfold spanB; rw [List.length_drop, List.length_take]; omega

end Go.Proofs.YtpicpebolghcfaaGreatDoor

/- Contracts of layer 5: a record's bytes. -/
namespace Go.Proofs.YtpicpebolghcfaaGreatDoor
open Go.RowKit
set_option linter.unusedVariables false

end Go.Proofs.YtpicpebolghcfaaGreatDoor
