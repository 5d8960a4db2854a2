/- Contracts of layer 3: the tag that bytes begin with. -/
import Derived.Test.YtlmmlmmadgcmcaaW3
namespace Go.Proofs.Ytlmmlmmadgcmcaa
open Go.RowKit
set_option linter.unusedVariables false

theorem tRead {A : Option Addr} {n c : Nat} {bs : List UInt8} {w : World} {T V N C : Nat} (hb : BytesAt w A n c bs) (ht : tagV bs = (T, V, N, C)) :
    Calls Try.prog 97 #[.slice A n c] w fun e w' => e = .returned (.tuple #[.agg #[.int .i64 T, .int .i64 V], .int .i64 N, .int .u8 C]) ∧ Ext w w' := by
  rcases hv : readV bs with ⟨W, M, E⟩
  have hbd := (readV_bd bs).1
  have hE4 := (readV_bd bs).2.2.2.1
  rw [hv] at hbd hE4
  simp only at hbd hE4
  unfold tagV at ht
  rw [hv] at ht
  simp only at ht
  have Hv := Lib.hid hv
  clear hv
  have hb' : ∀ o : Obj, BytesAt (w.alloc o) A n c bs := fun o => hb.ext ((Ext.refl _).alloc o)
  have Hb := Lib.hid hb'
  clear hb'
  by_cases hE : E = 0
  · subst hE
    rw [if_neg (by simp)] at ht
    have h7 := and7 W hbd
    by_cases hbig : (536870911 : Int) < (W : Int) / 8
    · have hr : rightB ((W / 8 : Nat) : Int) ((W % 8 : Nat) : Int) = false := by unfold rightB; exact decide_eq_false (by omega)
      rw [hr, if_neg (by simp)] at ht
      simp only [Prod.mk.injEq] at ht
      obtain ⟨rfl, rfl, rfl, rfl⟩ := ht
      clear hr
      go_enter Try.func97, Try.ntmps97
      go_wp2_with (go_at_call 80; refine (vRead (Hb.out _) Hv.out).mono ?_; rintro e w' ⟨rfl, rfl⟩)
      exact bodyPost_ret (v := .tuple #[.agg #[.int .i64 0, .int .i64 0], .int .i64 0, .int .u8 5]) (by simp [results, Try.results97, go_sem]) rfl ⟨rfl, (Ext.refl _).alloc _⟩
    · have hcell : ∀ (w1 : World) (E1 : Ext ((w.alloc (.cells #[.int .i64 0, .int .i64 0] 141)).alloc (.cells #[.int .i64 ((W : Int) / 8), .int .i64 ((W : Int) % 8)] 141)) w1),
          (w1.cell? ⟨w.heap.size, 0, none⟩ = some (.int .i64 0) ∧ w1.cell? ⟨w.heap.size, 1, none⟩ = some (.int .i64 0) ∧ w1.cell? ⟨w.heap.size + 1, 0, none⟩ = some (.int .i64 ((W : Int) / 8)) ∧ w1.cell? ⟨w.heap.size + 1, 1, none⟩ = some (.int .i64 ((W : Int) % 8))) ∧
          w1.frozen? ⟨w.heap.size, 0, none⟩ = false ∧ w1.frozen? ⟨w.heap.size, 1, none⟩ = false ∧ w.heap.size < w1.heap.size ∧ Ext w w1 := fun w1 E1 => by
        have h := two_blocks E1
        exact ⟨⟨h.1 0, h.1 1, h.2.1 0, h.2.1 1⟩, h.2.2.1 0, h.2.2.1 1, by have := h.2.2.2.2; omega, ((Ext.refl w).alloc _ |>.alloc _).trans E1⟩
      have Hc := Lib.hid hcell
      clear hcell
      by_cases hr : rightB ((W / 8 : Nat) : Int) ((W % 8 : Nat) : Int) = true
      · rw [if_pos hr] at ht
        simp only [Prod.mk.injEq] at ht
        obtain ⟨rfl, rfl, rfl, rfl⟩ := ht
        have hr' : rightB ((W : Int) / 8) ((W : Int) % 8) = true := hr
        clear hr
        go_enter Try.func97, Try.ntmps97
        go_wp2_with (first | (go_at_call 80; refine (vRead (Hb.out _) Hv.out).mono ?_; rintro e w' ⟨rfl, rfl⟩) | (go_at_call 110; refine (tRight _ _ _).mono ?_; rintro e w1 ⟨rfl, E1⟩; obtain ⟨⟨c1, c2, c3, c4⟩, f1, f2, hlt, E2⟩ := Hc.out w1 E1))
        exact bodyPost_ret (v := .tuple #[.agg #[.int .i64 ((W : Int) / 8), .int .i64 ((W : Int) % 8)], .int .i64 M, .int .u8 0]) (by simp [results, Try.results97, go_sem, c1, c2]) rfl ⟨rfl, (E2.setCell (Nat.le_refl _) _).setCell (Nat.le_refl _) _⟩
      · have hr0 : rightB ((W / 8 : Nat) : Int) ((W % 8 : Nat) : Int) = false := by simpa using hr
        rw [if_neg hr] at ht
        simp only [Prod.mk.injEq] at ht
        obtain ⟨rfl, rfl, rfl, rfl⟩ := ht
        have hr' : rightB ((W : Int) / 8) ((W : Int) % 8) = false := hr0
        clear hr hr0
        go_enter Try.func97, Try.ntmps97
        go_wp2_with (first | (go_at_call 80; refine (vRead (Hb.out _) Hv.out).mono ?_; rintro e w' ⟨rfl, rfl⟩) | (go_at_call 110; refine (tRight _ _ _).mono ?_; rintro e w1 ⟨rfl, E1⟩; obtain ⟨⟨c1, c2, c3, c4⟩, f1, f2, hlt, E2⟩ := Hc.out w1 E1))
        exact bodyPost_ret (v := .tuple #[.agg #[.int .i64 0, .int .i64 0], .int .i64 0, .int .u8 5]) (by simp [results, Try.results97, go_sem, c1, c2]) rfl ⟨rfl, (E2.setCell (Nat.le_refl _) _).setCell (Nat.le_refl _) _⟩
  · have q : ((E : Int) != 0) = true := by simp; omega
    rw [if_pos hE] at ht
    simp only [Prod.mk.injEq] at ht
    obtain ⟨rfl, rfl, rfl, rfl⟩ := ht
    go_enter Try.func97, Try.ntmps97
    go_wp2_with (go_at_call 80; refine (vRead (Hb.out _) Hv.out).mono ?_; rintro e w' ⟨rfl, rfl⟩)
    exact bodyPost_ret (v := .tuple #[.agg #[.int .i64 0, .int .i64 0], .int .i64 0, .int .u8 E]) (by simp [results, Try.results97, go_sem]) rfl ⟨rfl, (Ext.refl _).alloc _⟩

theorem tReadR {A : Option Addr} {n c p : Nat} {bs : List UInt8} {w : World} {T V N C : Nat} {at_ : Int} (hb : BytesAt w A n c bs) (hat : at_ = p) (hp : p ≤ n) (hn : n ≤ 9000000000000000000) (ht : tagV (bs.drop p) = (T, V, N, C)) :
    Calls Try.prog 101 #[.slice A n c, .int .i64 at_] w fun e w' => e = .returned (.tuple #[.int .i64 T, .int .i64 V, .int .i64 N, .int .i64 C]) ∧ w = w' := by
  rcases hv : readV (bs.drop p) with ⟨W, M, E⟩
  have hbd := (readV_bd (bs.drop p)).1
  have hE4 := (readV_bd (bs.drop p)).2.2.2.1
  rw [hv] at hbd hE4
  simp only at hbd hE4
  unfold tagV at ht
  rw [hv] at ht
  simp only at ht
  have Hv := Lib.hid hv
  have Hat := Lib.hid hat
  clear hv hat
  by_cases hE : E = 0
  · subst hE
    rw [if_neg (by simp)] at ht
    by_cases hbig : (4294967295 : Int) < (W : Int)
    · have hr : rightB ((W / 8 : Nat) : Int) ((W % 8 : Nat) : Int) = false := by unfold rightB; exact decide_eq_false (by omega)
      rw [hr, if_neg (by simp)] at ht
      simp only [Prod.mk.injEq] at ht
      obtain ⟨rfl, rfl, rfl, rfl⟩ := ht
      clear hr
      go_enter Try.func101, Try.ntmps101
      go_wp2_with (go_at_call 83; refine (vReadR hb Hat.out hp hn Hv.out).mono ?_; rintro e w' ⟨rfl, rfl⟩)
      exact bodyPost_ret (v := .tuple #[.int .i64 0, .int .i64 0, .int .i64 0, .int .i64 5]) (by simp [results, Try.results101, go_sem]) rfl ⟨rfl, rfl⟩
    · by_cases hr : rightB ((W / 8 : Nat) : Int) ((W % 8 : Nat) : Int) = true
      · rw [if_pos hr] at ht
        simp only [Prod.mk.injEq] at ht
        obtain ⟨rfl, rfl, rfl, rfl⟩ := ht
        have hr' : rightB ((W : Int) / 8) ((W : Int) % 8) = true := hr
        clear hr
        go_enter Try.func101, Try.ntmps101
        go_wp2_with (first | (go_at_call 83; refine (vReadR hb Hat.out hp hn Hv.out).mono ?_; rintro e w' ⟨rfl, rfl⟩) | (go_at_call 112; refine (tRightR _ _ _).mono ?_; rintro e w' ⟨rfl, rfl⟩))
        exact bodyPost_ret (v := .tuple #[.int .i64 ((W : Int) / 8), .int .i64 ((W : Int) % 8), .int .i64 M, .int .i64 0]) (by simp [results, Try.results101, go_sem]) rfl ⟨rfl, rfl⟩
      · have hr0 : rightB ((W / 8 : Nat) : Int) ((W % 8 : Nat) : Int) = false := by simpa using hr
        rw [if_neg hr] at ht
        simp only [Prod.mk.injEq] at ht
        obtain ⟨rfl, rfl, rfl, rfl⟩ := ht
        have hr' : rightB ((W : Int) / 8) ((W : Int) % 8) = false := hr0
        clear hr hr0
        go_enter Try.func101, Try.ntmps101
        go_wp2_with (first | (go_at_call 83; refine (vReadR hb Hat.out hp hn Hv.out).mono ?_; rintro e w' ⟨rfl, rfl⟩) | (go_at_call 112; refine (tRightR _ _ _).mono ?_; rintro e w' ⟨rfl, rfl⟩))
        exact bodyPost_ret (v := .tuple #[.int .i64 0, .int .i64 0, .int .i64 0, .int .i64 5]) (by simp [results, Try.results101, go_sem]) rfl ⟨rfl, rfl⟩
  · have q : ((E : Int) != 0) = true := by simp; omega
    rw [if_pos hE] at ht
    simp only [Prod.mk.injEq] at ht
    obtain ⟨rfl, rfl, rfl, rfl⟩ := ht
    go_enter Try.func101, Try.ntmps101
    go_wp2_with (go_at_call 83; refine (vReadR hb Hat.out hp hn Hv.out).mono ?_; rintro e w' ⟨rfl, rfl⟩)
    exact bodyPost_ret (v := .tuple #[.int .i64 0, .int .i64 0, .int .i64 0, .int .i64 E]) (by simp [results, Try.results101, go_sem]) rfl ⟨rfl, rfl⟩

end Go.Proofs.Ytlmmlmmadgcmcaa
