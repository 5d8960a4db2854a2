/- Contracts of layer 5. -/
import Derived.Test.YtnnphodgegcddaaQeWA
import Derived.Test.YtnnphodgegcddaaQeSA
import Derived.Test.YtnnphodgegcddaaQeLib
import Derived.Deep.QuietTactic
import Derived.BigQuiet

/- Contracts of layer 5: the record at a place. -/
namespace Go.Proofs.Ytnnphodgegcddaa
open Go.RowKit
set_option linter.unusedVariables false

theorem rSize {A : Option Addr} {n c : Nat} {bs : List UInt8} {w : World} {V a g C : Nat} (hb : BytesAt w A n c bs) (hV : V ≤ 5) (hs : sizeV V bs = (a, g, C)) :
    Calls Try.prog 72 #[.slice A n c, .int .i64 (V : Int)] w fun e w' => e = .returned (.tuple #[.int .i64 (a : Int), .int .u64 (g : Int), .int .u8 (C : Int)]) ∧ w = w' := by
  rcases hv : readV bs with ⟨W, N, K⟩
  have hbd := readV_bd bs
  rw [hv] at hbd
  simp only at hbd
  have h1 := hbd.1
  have h2 := hbd.2.2.1
  have h4 := hbd.2.2.2.1
  clear hbd
  unfold sizeV at hs
  rw [hv] at hs
  have Hv := Lib.hid hv
  clear hv
  by_cases e0 : V = 0
  · subst e0
    simp only [if_true, Prod.mk.injEq] at hs
    obtain ⟨rfl, rfl, rfl⟩ := hs
    go_enter Try.func72, Try.ntmps72
    go_wp2_with (go_at_call 49; refine (vSkip hb Hv.out).mono ?_; rintro e w' ⟨rfl, rfl⟩)
    go_ret3
    exact ⟨rfl, rfl⟩
  · by_cases e1 : V = 1
    · subst e1
      simp only [if_true, if_neg e0, Prod.mk.injEq] at hs
      obtain ⟨rfl, rfl, rfl⟩ := hs
      go_enter Try.func72, Try.ntmps72
      go_wp2
      go_ret3
      exact ⟨rfl, rfl⟩
    · by_cases e5 : V = 5
      · subst e5
        simp only [if_true, if_neg e0, if_neg e1, Prod.mk.injEq] at hs
        obtain ⟨rfl, rfl, rfl⟩ := hs
        go_enter Try.func72, Try.ntmps72
        go_wp2
        go_ret3
        exact ⟨rfl, rfl⟩
      · rw [if_neg e0, if_neg e1, if_neg e5] at hs
        simp only [Prod.mk.injEq] at hs
        obtain ⟨rfl, rfl, rfl⟩ := hs
        have q0 : ((V : Int) == 0) = false := by simp; omega
        have q1 : ((V : Int) == 1) = false := by simp; omega
        have q5 : ((V : Int) == 5) = false := by simp; omega
        clear e0 e1 e5
        go_enter Try.func72, Try.ntmps72
        go_wp2_with (go_at_call 28; refine (vRead hb Hv.out).mono ?_; rintro e w' ⟨rfl, rfl⟩)
        go_ret3
        exact ⟨rfl, rfl⟩

def recV (r : Rec) : Value := .agg #[.int .i64 (r.n : Int), .int .i64 (r.w : Int), .int .i64 (r.f : Int), .int .i64 (r.a : Int), .int .i64 (r.t : Int)]

theorem rNext_arg {A : Option Addr} {n c : Nat} {w : World} {p : Int} (hp : p < 0 ∨ (n : Int) ≤ p) :
    Calls Try.prog 62 #[.slice A n c, .int .i64 p] w fun e w' => e = .returned (.tuple #[recV Rec.zero, .int .u8 2]) ∧ Ext w w' := by
  rcases hp with hp | hp
  · go_enter Try.func62, Try.ntmps62
    go_wp2
    exact bodyPost_ret (v := .tuple #[recV Rec.zero, .int .u8 2]) (by simp [results, Try.results62, go_sem, recV, Rec.zero]) rfl ⟨rfl, (by repeat with_reducible (first | exact Ext.refl _ | refine Ext.alloc ?_ _ | refine Ext.drew ?_ | refine Ext.drewN ?_ _ | refine Ext.setCell ?_ (by first | exact Nat.le_refl _ | omega | (simp; done) | (simp; omega)) _))⟩
  · have h0 : ¬ p < 0 := by omega
    go_enter Try.func62, Try.ntmps62
    go_wp2
    exact bodyPost_ret (v := .tuple #[recV Rec.zero, .int .u8 2]) (by simp [results, Try.results62, go_sem, recV, Rec.zero]) rfl ⟨rfl, (by repeat with_reducible (first | exact Ext.refl _ | refine Ext.alloc ?_ _ | refine Ext.drew ?_ | refine Ext.drewN ?_ _ | refine Ext.setCell ?_ (by first | exact Nat.le_refl _ | omega | (simp; done) | (simp; omega)) _))⟩

set_option maxHeartbeats 1000000 in
theorem rNext {A : Option Addr} {n c p : Nat} {bs : List UInt8} {w : World} {r : Rec} {C : Nat} (hb : BytesAt w A n c bs) (hp : p < n) (hn : n ≤ 1000000000000) (h : nextV bs p = (r, C)) :
    Calls Try.prog 62 #[.slice A n c, .int .i64 (p : Int)] w fun e w' => e = .returned (.tuple #[recV r, .int .u8 (C : Int)]) ∧ Ext w w' := by
  have hl := hb.length
  obtain ⟨A3, hcut, hr3⟩ := cut_from elemB hb .i64 (l := p) (by omega)
  have hb3 : BytesAt w A3 (n - p) (c - p) (bs.drop p) := by simpa [BytesAt, List.map_drop] using hr3
  have hl3 := hb3.length
  rcases ht : tagV (bs.drop p) with ⟨T, V, N, K⟩
  have tb := tagV_bd (bs.drop p)
  rw [ht, hl3] at tb
  simp only at tb
  obtain ⟨t1, t2, t3, t4, t5, t6⟩ := tb
  unfold nextV at h
  clear hr3 hl3
  by_cases hK : K = 0
  · subst hK
    have t7 := (t6 rfl).1
    clear t6
    rcases hs : sizeV V ((bs.drop p).drop N) with ⟨a, g, D⟩
    have hs' := hs
    rw [List.drop_drop] at hs'
    obtain ⟨A4, hcut4, hr4⟩ := cut_from elemB hb .i64 (l := p + N) (by omega)
    have hb4 : BytesAt w A4 (n - (p + N)) (c - (p + N)) (bs.drop (p + N)) := by simpa [BytesAt, List.map_drop] using hr4
    have sb := sizeV_bd V ((bs.drop p).drop N)
    rw [hs, List.drop_drop, hb4.length] at sb
    simp only at sb
    obtain ⟨s1, s2, s3, s4⟩ := sb
    rw [Int.natCast_add] at hcut4
    clear hr4
    by_cases hD : D = 0
    · subst hD
      by_cases hg : n - p - (N + a) < g
      · rw [headV_short ht hs (by rw [List.length_drop, hl]; omega)] at h
        simp [shiftR] at h
        obtain ⟨rfl, rfl⟩ := h
        have hg' : ((n : Int) - ((p : Int) + N + a)) < (g : Int) := by omega
        have Ht := Lib.hid ht
        have Hs := Lib.hid hs'
        clear ht hs hs' hl hg
        go_enter Try.func62, Try.ntmps62
        go_wp2_with (first | (go_at_call 71; refine (tRead (hb3.ext (by repeat with_reducible (first | exact Ext.refl _ | refine Ext.alloc ?_ _ | refine Ext.drew ?_ | refine Ext.drewN ?_ _ | refine Ext.setCell ?_ (by first | exact Nat.le_refl _ | omega | (simp; done) | (simp; omega)) _))) Ht.out).mono ?_; rintro e w1 ⟨rfl, E1⟩; obtain ⟨f1, f2, f3⟩ := E1.new_cells; have X_ : Ext w w1 := Ext.trans (by repeat with_reducible (first | exact Ext.refl _ | refine Ext.alloc ?_ _ | refine Ext.drew ?_ | refine Ext.drewN ?_ _ | refine Ext.setCell ?_ (by first | exact Nat.le_refl _ | omega | (simp; done) | (simp; omega)) _)) E1; replace hb4 := hb4.up X_; have hE := X_; clear X_))
        have hw : IntKind.i64.wrap ((p : Int) + N) = (p : Int) + N := by rw [IntKind.wrap_i64]; omega
        go_quiet ((go_at_call 72; exact Calls.quiet_of_same ((rSize (hb4.up (by repeat with_reducible (first | exact Ext.refl _ | refine Ext.alloc ?_ _ | refine Ext.drew ?_ | refine Ext.drewN ?_ _ | refine Ext.setCell ?_ (by first | exact Nat.le_refl _ | omega | (simp; done) | (simp; omega)) _))) t5 Hs.out).mono fun _ _ h => ⟨h.1, h.2.symm⟩)))
        go_wp2
        exact bodyPost_ret (v := .tuple #[recV Rec.zero, .int .u8 3]) (by simp [results, Try.results62, go_sem, recV, Rec.zero, f1, f3]) rfl ⟨rfl, (by repeat with_reducible (first | exact hE | exact Ext.refl _ | refine Ext.alloc ?_ _ | refine Ext.drew ?_ | refine Ext.drewN ?_ _ | refine Ext.setCell ?_ (by first | exact Nat.le_refl _ | omega | (simp; done) | (simp; omega)) _))⟩
      · rw [headV_ok ht hs (by rw [List.length_drop, hl]; omega)] at h
        simp [shiftR] at h
        obtain ⟨rfl, rfl⟩ := h
        have hg' : ¬ ((n : Int) - ((p : Int) + N + a)) < (g : Int) := by omega
        have hg2 : (g : Int) ≤ 1000000000000 := by omega
        have hg3 : (p : Int) + N + a + g ≤ 1000000000000 := by omega
        have Ht := Lib.hid ht
        have Hs := Lib.hid hs'
        clear ht hs hs' hl
        go_enter Try.func62, Try.ntmps62
        go_wp2_with (first | (go_at_call 71; refine (tRead (hb3.ext (by repeat with_reducible (first | exact Ext.refl _ | refine Ext.alloc ?_ _ | refine Ext.drew ?_ | refine Ext.drewN ?_ _ | refine Ext.setCell ?_ (by first | exact Nat.le_refl _ | omega | (simp; done) | (simp; omega)) _))) Ht.out).mono ?_; rintro e w1 ⟨rfl, E1⟩; obtain ⟨f1, f2, f3⟩ := E1.new_cells; have X_ : Ext w w1 := Ext.trans (by repeat with_reducible (first | exact Ext.refl _ | refine Ext.alloc ?_ _ | refine Ext.drew ?_ | refine Ext.drewN ?_ _ | refine Ext.setCell ?_ (by first | exact Nat.le_refl _ | omega | (simp; done) | (simp; omega)) _)) E1; replace hb4 := hb4.up X_; have hE := X_; clear X_))
        have hw : IntKind.i64.wrap ((p : Int) + N) = (p : Int) + N := by rw [IntKind.wrap_i64]; omega
        go_quiet ((go_at_call 72; exact Calls.quiet_of_same ((rSize (hb4.up (by repeat with_reducible (first | exact Ext.refl _ | refine Ext.alloc ?_ _ | refine Ext.drew ?_ | refine Ext.drewN ?_ _ | refine Ext.setCell ?_ (by first | exact Nat.le_refl _ | omega | (simp; done) | (simp; omega)) _))) t5 Hs.out).mono fun _ _ h => ⟨h.1, h.2.symm⟩)))
        go_wp2
        exact bodyPost_ret (v := .tuple #[recV ⟨T, V, p, p + N + a, p + N + a + g⟩, .int .u8 0]) (by simp [results, Try.results62, go_sem, recV, f1, f3]) rfl ⟨by simp [recV, Nat.add_assoc], (by repeat with_reducible (first | exact hE | exact Ext.refl _ | refine Ext.alloc ?_ _ | refine Ext.drew ?_ | refine Ext.drewN ?_ _ | refine Ext.setCell ?_ (by first | exact Nat.le_refl _ | omega | (simp; done) | (simp; omega)) _))⟩
    · rw [headV_size ht hs hD] at h
      simp [shiftR, hD] at h
      obtain ⟨rfl, rfl⟩ := h
      have q : ((D : Int) != 0) = true := by simp; omega
      have Ht := Lib.hid ht
      have Hs := Lib.hid hs'
      clear ht hs hs' hl
      go_enter Try.func62, Try.ntmps62
      go_wp2_with (first | (go_at_call 71; refine (tRead (hb3.ext (by repeat with_reducible (first | exact Ext.refl _ | refine Ext.alloc ?_ _ | refine Ext.drew ?_ | refine Ext.drewN ?_ _ | refine Ext.setCell ?_ (by first | exact Nat.le_refl _ | omega | (simp; done) | (simp; omega)) _))) Ht.out).mono ?_; rintro e w1 ⟨rfl, E1⟩; obtain ⟨f1, f2, f3⟩ := E1.new_cells; have X_ : Ext w w1 := Ext.trans (by repeat with_reducible (first | exact Ext.refl _ | refine Ext.alloc ?_ _ | refine Ext.drew ?_ | refine Ext.drewN ?_ _ | refine Ext.setCell ?_ (by first | exact Nat.le_refl _ | omega | (simp; done) | (simp; omega)) _)) E1; replace hb4 := hb4.up X_; have hE := X_; clear X_))
      have hw : IntKind.i64.wrap ((p : Int) + N) = (p : Int) + N := by rw [IntKind.wrap_i64]; omega
      go_quiet ((go_at_call 72; exact Calls.quiet_of_same ((rSize (hb4.up (by repeat with_reducible (first | exact Ext.refl _ | refine Ext.alloc ?_ _ | refine Ext.drew ?_ | refine Ext.drewN ?_ _ | refine Ext.setCell ?_ (by first | exact Nat.le_refl _ | omega | (simp; done) | (simp; omega)) _))) t5 Hs.out).mono fun _ _ h => ⟨h.1, h.2.symm⟩)))
      go_wp2
      exact bodyPost_ret (v := .tuple #[recV Rec.zero, .int .u8 D]) (by simp [results, Try.results62, go_sem, recV, Rec.zero, f1, f3]) rfl ⟨rfl, (by repeat with_reducible (first | exact hE | exact Ext.refl _ | refine Ext.alloc ?_ _ | refine Ext.drew ?_ | refine Ext.drewN ?_ _ | refine Ext.setCell ?_ (by first | exact Nat.le_refl _ | omega | (simp; done) | (simp; omega)) _))⟩
  · rw [headV_tag ht hK] at h
    simp [shiftR, hK] at h
    obtain ⟨rfl, rfl⟩ := h
    have q : ((K : Int) != 0) = true := by simp; omega
    have Ht := Lib.hid ht
    clear ht hl t6
    go_enter Try.func62, Try.ntmps62
    go_wp2_with (first | (go_at_call 71; refine (tRead (hb3.ext (by repeat with_reducible (first | exact Ext.refl _ | refine Ext.alloc ?_ _ | refine Ext.drew ?_ | refine Ext.drewN ?_ _ | refine Ext.setCell ?_ (by first | exact Nat.le_refl _ | omega | (simp; done) | (simp; omega)) _))) Ht.out).mono ?_; rintro e w1 ⟨rfl, E1⟩; obtain ⟨f1, f2, f3⟩ := E1.new_cells; have X_ : Ext w w1 := Ext.trans (by repeat with_reducible (first | exact Ext.refl _ | refine Ext.alloc ?_ _ | refine Ext.drew ?_ | refine Ext.drewN ?_ _ | refine Ext.setCell ?_ (by first | exact Nat.le_refl _ | omega | (simp; done) | (simp; omega)) _)) E1; have hE := X_; clear X_))
    exact bodyPost_ret (v := .tuple #[recV Rec.zero, .int .u8 K]) (by simp [results, Try.results62, go_sem, recV, Rec.zero, f1, f3]) rfl ⟨rfl, (by repeat with_reducible (first | exact hE | exact Ext.refl _ | refine Ext.alloc ?_ _ | refine Ext.drew ?_ | refine Ext.drewN ?_ _ | refine Ext.setCell ?_ (by first | exact Nat.le_refl _ | omega | (simp; done) | (simp; omega)) _))⟩

end Go.Proofs.Ytnnphodgegcddaa

/- Contracts of layer 5: the record at a place, as the reference has it. -/
namespace Go.Proofs.Ytnnphodgegcddaa
open Go.RowKit
set_option linter.unusedVariables false

section
variable {A : Option Addr} {n c p : Nat} {bs : List UInt8} {w : World} {T V N W M K : Nat}

end

end Go.Proofs.Ytnnphodgegcddaa

/- Contracts of layer 5: all records. -/
namespace Go.Proofs.Ytnnphodgegcddaa
open Go.RowKit
set_option linter.unusedVariables false

end Go.Proofs.Ytnnphodgegcddaa

/- Contracts of layer 5: putting records. -/
namespace Go.Proofs.Ytnnphodgegcddaa
open Go.RowKit
set_option linter.unusedVariables false

def fitsV (wire : Int) (v : List UInt8) : Bool := decide ((wire = 0 ∧ (readV v).2.2 = 0 ∧ (readV v).2.1 = v.length) ∨ (wire = 1 ∧ v.length = 8) ∨ (wire = 5 ∧ v.length = 4) ∨ wire = 2)

end Go.Proofs.Ytnnphodgegcddaa

/- Plain laws of layer 5: a record put alone; records lie without a gap. -/
namespace Go.Proofs.Ytnnphodgegcddaa
open Go.RowKit Go.Lib
set_option linter.unusedVariables false

def spanB (bs : List UInt8) (a t : Nat) : List UInt8 := (bs.take t).drop a

theorem spanB_length (bs : List UInt8) {a t : Nat} (h : t ≤ bs.length) : (spanB bs a t).length = t - a := by unfold spanB; rw [List.length_drop, List.length_take]; omega

end Go.Proofs.Ytnnphodgegcddaa

/- Contracts of layer 5: a record's bytes. -/
namespace Go.Proofs.Ytnnphodgegcddaa
open Go.RowKit
set_option linter.unusedVariables false

theorem spanB_at {w : World} {A : Option Addr} {n c : Nat} {bs : List UInt8} (hb : BytesAt w A n c bs) {l m : Nat} (hl : l ≤ m) (hm : m ≤ n) :
    ∃ A', (∀ W : World, (Instr.slice 26 (.slice A n c) (some (.int .i64 (l : Int))) (some (.int .i64 (m : Int))) none).run Try.prog W = .ok (.slice A' (m - l) (c - l)) W) ∧ BytesAt w A' (m - l) (c - l) (spanB bs l m) := by
  obtain ⟨A', h1, h2⟩ := cut_both elemB hb .i64 .i64 hl hm
  exact ⟨A', h1, by simpa [BytesAt, spanB, List.map_drop, List.map_take] using h2⟩

theorem rSpan {A : Option Addr} {n c a t : Nat} {bs : List UInt8} {w : World} (hb : BytesAt w A n c bs) (hn : n ≤ 1000000000) (ha : a ≤ t) (ht : t ≤ n) :
    Calls Try.prog 53 #[.slice A n c, .int .i64 (a : Int), .int .i64 (t : Int)] w fun e w' => ∃ A' c', e = .returned (.slice A' (t - a) c') ∧ Own w w' 5 1 A' (t - a) c' ((spanB bs a t).map bv) := by
  obtain ⟨A2, hcut, hb2⟩ := spanB_at hb ha ht
  have h0 : ¬ (a : Int) < 0 := by omega
  have h1 : ¬ (t : Int) < a := by omega
  have h2 : ¬ (n : Int) < t := by omega
  go_enter Try.func53, Try.ntmps53
  go_wp2_with (go_at_call 64; refine (clone hb2 (by omega)).mono ?_; rintro e w' ⟨A3, c3, rfl, own3⟩)
  go_ret
  exact ⟨A3, c3, rfl, own3⟩

theorem rWhole {A : Option Addr} {n c : Nat} {bs : List UInt8} {w : World} {r : Rec} (hb : BytesAt w A n c bs) (hn : n ≤ 1000000000) (ha : r.f ≤ r.t) (ht : r.t ≤ n) :
    Calls Try.prog 43 #[.slice A n c, recV r] w fun e w' => ∃ A' c', e = .returned (.slice A' (r.t - r.f) c') ∧ Own w w' 5 1 A' (r.t - r.f) c' ((spanB bs r.f r.t).map bv) := by
  unfold recV
  go_enter Try.func43, Try.ntmps43
  go_wp2_with (go_at_call 53; refine (rSpan (hb.up (by repeat with_reducible (first | exact Ext.refl _ | refine Ext.alloc ?_ _ | refine Ext.drew ?_ | refine Ext.drewN ?_ _ | refine Ext.setCell ?_ (by first | exact Nat.le_refl _ | omega | (simp; done) | (simp; omega)) _))) hn ha ht).mono ?_; rintro e w' ⟨A3, c3, rfl, own3⟩)
  go_ret
  exact ⟨A3, c3, rfl, own3.since (by repeat with_reducible (first | exact Ext.refl _ | refine Ext.alloc ?_ _ | refine Ext.drew ?_ | refine Ext.drewN ?_ _ | refine Ext.setCell ?_ (by first | exact Nat.le_refl _ | omega | (simp; done) | (simp; omega)) _))⟩

end Go.Proofs.Ytnnphodgegcddaa
