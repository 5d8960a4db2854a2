/- The walk of the law RecordSplits, out of its callees' contracts. -/
import Derived.Test.YtcipokmklkognaaW5c
namespace Go.Proofs.Ytcipokmklkognaa
open Go.RowKit
set_option linter.unusedVariables false

/-- The cells of the k-th record of a slice of records. -/
theorem Reads.record {w : World} {A : Option Addr} {n c : Nat} {l : List Rec} (h : Reads w A n c 5 (l.flatMap recC)) {k : Nat} (hk : k < n) :
    ∃ b off r, A = some ⟨b, off, none⟩ ∧ l[k]? = some r ∧ b < w.heap.size ∧ w.cell? ⟨b, off + k * 5, none⟩ = some (.int .i64 (r.n : Int)) ∧ w.cell? ⟨b, off + k * 5 + 1, none⟩ = some (.int .i64 (r.w : Int)) ∧
      w.cell? ⟨b, off + k * 5 + 2, none⟩ = some (.int .i64 (r.f : Int)) ∧ w.cell? ⟨b, off + k * 5 + 3, none⟩ = some (.int .i64 (r.a : Int)) ∧ w.cell? ⟨b, off + k * 5 + 4, none⟩ = some (.int .i64 (r.t : Int)) := by
  obtain ⟨b, off, r, e, hx, hb, hj⟩ := h.elem (size := 5) (fun _ => rfl) (by omega) hk
  exact ⟨b, off, r, e, hx, hb, hj 0 _ rfl, hj 1 _ rfl, hj 2 _ rfl, hj 3 _ rfl, hj 4 _ rfl⟩

theorem splitV_alive : splitV [8, 1, 18, 1, 97] = ([⟨1, 0, 0, 1, 2⟩, ⟨2, 2, 2, 4, 5⟩], 0, 0) := by decide +kernel

theorem alive05 (w : World) : Calls Try.prog 46 #[] w fun e w' => e = .returned (.bool true) ∧ Ext w w' := by
  have hs := fun (W : World) (h : BytesAt (W.alloc (.cells #[.int .u8 8, .int .u8 1, .int .u8 18, .int .u8 1, .int .u8 97] 5)) (some ⟨W.heap.size, 0, none⟩) 5 5 [8, 1, 18, 1, 97]) => rSplit h (by omega)
  rw [splitV_alive] at hs
  simp only [List.length_cons, List.length_nil] at hs
  have Hs := Lib.hid hs
  clear hs
  go_enter Try.func46, Try.ntmps46
  go_wp2_with fail
  refine (Hs.out _ (bytes_lit _ _ _ [8, 1, 18, 1, 97] 5 rfl (by simp [bv]) rfl (by simp [maxLen]))).mono ?_
  rintro e w1 ⟨A1, c1, rfl, own⟩
  obtain ⟨b, off, r, rfl, hr, hb, c0, c1', c2, c3, c4⟩ := own.reads.record (k := 0) (by omega)
  obtain ⟨b', off', r', hA, hr', _, d0, d1, d2, d3, d4⟩ := own.reads.record (k := 1) (by omega)
  cases hA
  simp at hr hr'
  subst hr hr'
  simp at c0 c1' c2 c3 c4 d0 d1 d2 d3 d4
  go_wp2
  go_ret
  exact ⟨rfl, Ext.trans (by repeat with_reducible (first | exact Ext.refl _ | refine Ext.alloc ?_ _ | refine Ext.drew ?_ | refine Ext.drewN ?_ _ | refine Ext.setCell ?_ (by first | exact Nat.le_refl _ | omega | (simp; done) | (simp; omega)) _)) own.ext⟩

theorem rNextI {A : Option Addr} {n c : Nat} {p : Int} {bs : List UInt8} {w : World} {r : Rec} {C : Nat} (hb : BytesAt w A n c bs) (hn : n ≤ 1000000000000) (h : nextI bs p = (r, C)) :
    Calls Try.prog 47 #[.slice A n c, .int .i64 p] w fun e w' => e = .returned (.tuple #[recV r, .int .u8 (C : Int)]) ∧ Ext w w' := by
  unfold nextI at h
  rw [hb.length] at h
  by_cases hp : p < 0 ∨ (n : Int) ≤ p
  · rw [if_pos hp] at h
    cases h
    exact rNext_arg hp
  · rw [if_neg hp] at h
    have := rNext hb (p := p.toNat) (by omega) hn h
    rwa [show ((p.toNat : Nat) : Int) = p by omega] at this

theorem rNextRI {A : Option Addr} {n c : Nat} {p : Int} {bs : List UInt8} {w : World} {r : Rec} {C : Nat} (hb : BytesAt w A n c bs) (hn : n ≤ 1000000000000) (h : nextI bs p = (r, C)) :
    Calls Try.prog 48 #[.slice A n c, .int .i64 p] w fun e w' => e = .returned (.tuple #[recV r, .int .i64 (C : Int)]) ∧ Ext w w' := by
  unfold nextI at h
  rw [hb.length] at h
  by_cases hp : p < 0 ∨ (n : Int) ≤ p
  · rw [if_pos hp] at h
    cases h
    exact rNextR_arg hp
  · rw [if_neg hp] at h
    have := rNextR hb (p := p.toNat) (by omega) hn h
    rwa [show ((p.toNat : Nat) : Int) = p by omega] at this

theorem nextI_le (bs : List UInt8) (p : Int) : (nextI bs p).2 ≤ 5 := by
  unfold nextI
  split
  · simp
  · exact nextV_le bs _

theorem splitV_bd (bs : List UInt8) : (splitV bs).2.1 ≤ bs.length ∧ (splitV bs).1.length ≤ bs.length ∧ ((splitV bs).2.2 ≠ 0 → (splitV bs).1 = []) ∧ ((splitV bs).2.2 = 0 → (splitV bs).2.1 = 0) := by
  have h := scan_code (nextV_onward bs) bs.length 0 (by omega)
  unfold splitV
  exact ⟨h.2.2.2 (by omega), by have := h.2.2.1 (by omega); omega, h.1, h.2.1⟩

theorem scan_le {α : Type} {step : Nat → α × Nat} {to : α → Nat} {len m : Nat} (hO : Onward step to len) (h : ∀ p, (step p).2 ≤ m) : ∀ (k p : Nat), len - p ≤ k → (scan step to len p).2.2 ≤ m
  | 0, p, hk => by rw [scan_end (by omega)]; simp
  | k + 1, p, hk => by
    by_cases hp : len ≤ p
    · rw [scan_end hp]; simp
    · rcases hs : step p with ⟨x, C⟩
      have hC := h p
      rw [hs] at hC
      by_cases h0 : C = 0
      · subst h0
        have h1 := hO p (by omega) (by rw [hs])
        rw [hs] at h1
        rw [scan_ok hO (by omega) hs]
        have ih := scan_le hO h k (to x) (by simp only at h1; omega)
        unfold pre
        split
        · simp
        · exact ih
      · rw [scan_fail (by omega) hs h0]
        exact hC

theorem splitV_le (bs : List UInt8) : (splitV bs).2.2 ≤ 5 := scan_le (nextV_onward bs) (nextV_le bs) bs.length 0 (by omega)

set_option maxHeartbeats 1000000 in
theorem recordSplits_walk {A : Option Addr} {n c : Nat} {bs : List UInt8} {p : Int} {w : World} (hb : BytesAt w A n c bs) (hp : -9223372036854775808 ≤ p ∧ p < 9223372036854775808) :
    Calls Try.prog 11 #[.slice A n c, .int .i64 p] w fun e w' => e = .returned (.bool true) ∧ Ext w w' := by
  have hmax := Reads.max hb
  have hcap := Reads.cap hb
  unfold maxLen at hmax
  have hE := Ext.refl w
  by_cases hn : (3000 : Int) < n
  · go_enter Try.func11, Try.ntmps11
    go_wp2_with (go_at_call 46; refine (alive05 _).mono ?_; rintro e w1 ⟨rfl, E1⟩; have X_ : Ext w w1 := Ext.trans (by repeat with_reducible (first | exact Ext.refl _ | refine Ext.alloc ?_ _ | refine Ext.drew ?_ | refine Ext.drewN ?_ _ | refine Ext.setCell ?_ (by first | exact Nat.le_refl _ | omega | (simp; done) | (simp; omega)) _)) E1; replace hb := hb.up X_; replace hE := hE.up X_; clear X_)
    go_ret
    exact ⟨rfl, hE⟩
  · rcases hx : nextI bs p with ⟨r, C⟩
    have hC := nextI_le bs p
    rw [hx] at hC
    obtain ⟨rn, rw_, rf, ra, rt⟩ := r
    have hS := splitV_le bs
    have hSl : (splitV bs).1.length ≤ 3000 := by have := (splitV_bd bs).2.1; rw [hb.length] at this; omega
    have Hx := Lib.hid hx
    clear hx
    go_enter Try.func11, Try.ntmps11
    go_wp2_with (first | (go_at_call 46; refine (alive05 _).mono ?_; rintro e w1 ⟨rfl, E1⟩; have X_ : Ext w w1 := Ext.trans (by repeat with_reducible (first | exact Ext.refl _ | refine Ext.alloc ?_ _ | refine Ext.drew ?_ | refine Ext.drewN ?_ _ | refine Ext.setCell ?_ (by first | exact Nat.le_refl _ | omega | (simp; done) | (simp; omega)) _)) E1; replace hb := hb.up X_; replace hE := hE.up X_; clear X_) | (go_at_call 47; refine (rNextI hb (by omega) Hx.out).mono ?_; rintro e w2 ⟨rfl, E2⟩; unfold recV; have X_ : Ext w1 w2 := Ext.trans (by repeat with_reducible (first | exact Ext.refl _ | refine Ext.alloc ?_ _ | refine Ext.drew ?_ | refine Ext.drewN ?_ _ | refine Ext.setCell ?_ (by first | exact Nat.le_refl _ | omega | (simp; done) | (simp; omega)) _)) E2; replace hb := hb.up X_; replace hE := hE.up X_; clear X_) | (go_at_call 48; refine (rNextRI (hb.up (by repeat with_reducible (first | exact Ext.refl _ | refine Ext.alloc ?_ _ | refine Ext.drew ?_ | refine Ext.drewN ?_ _ | refine Ext.setCell ?_ (by first | exact Nat.le_refl _ | omega | (simp; done) | (simp; omega)) _))) (by omega) Hx.out).mono ?_; rintro e w3 ⟨rfl, E3⟩; unfold recV; have B1 := E3.new_blk; have X_ : Ext w2 w3 := Ext.trans (by repeat with_reducible (first | exact Ext.refl _ | refine Ext.alloc ?_ _ | refine Ext.drew ?_ | refine Ext.drewN ?_ _ | refine Ext.setCell ?_ (by first | exact Nat.le_refl _ | omega | (simp; done) | (simp; omega)) _)) E3; replace hb := hb.up X_; replace hE := hE.up X_; clear X_) | (go_at_call 49; refine (rSplit (hb.up (by repeat with_reducible (first | exact Ext.refl _ | refine Ext.alloc ?_ _ | refine Ext.drew ?_ | refine Ext.drewN ?_ _ | refine Ext.setCell ?_ (by first | exact Nat.le_refl _ | omega | (simp; done) | (simp; omega)) _))) (by omega)).mono ?_; rintro e w4 ⟨A4, c4, rfl, own4⟩; have B2 := own4.ext.new_blk; have X_ : Ext w3 w4 := Ext.trans (by repeat with_reducible (first | exact Ext.refl _ | refine Ext.alloc ?_ _ | refine Ext.drew ?_ | refine Ext.drewN ?_ _ | refine Ext.setCell ?_ (by first | exact Nat.le_refl _ | omega | (simp; done) | (simp; omega)) _)) own4.ext; replace hb := hb.up X_; replace hE := hE.up X_; replace B1 := B1.up X_; clear X_) | (go_at_call 50; refine (rSplitR hb (by omega)).mono ?_; rintro e w5 ⟨A5, c5, rfl, own5⟩; have X_ : Ext w4 w5 := Ext.trans (by repeat with_reducible (first | exact Ext.refl _ | refine Ext.alloc ?_ _ | refine Ext.drew ?_ | refine Ext.drewN ?_ _ | refine Ext.setCell ?_ (by first | exact Nat.le_refl _ | omega | (simp; done) | (simp; omega)) _)) own5.ext; replace hb := hb.up X_; replace hE := hE.up X_; replace B1 := B1.up X_; replace B2 := B2.up X_; replace own4 := own4.up X_; clear X_; obtain ⟨f1, f2, f3⟩ := B1;  obtain ⟨g1, g2, g3⟩ := B2))
    go_loopw [15] (fun i wr => ∃ k : Nat, k ≤ (splitV bs).1.length ∧ i = .int .i64 k ∧ Ext w5 wr) (fun i _ => (splitV bs).1.length - (intOf i).toNat)
    case atStart => exact ⟨0, Nat.zero_le _, rfl, (by repeat with_reducible (first | exact Ext.refl _ | refine Ext.alloc ?_ _ | refine Ext.drew ?_ | refine Ext.drewN ?_ _ | refine Ext.setCell ?_ (by first | exact Nat.le_refl _ | omega | (simp; done) | (simp; omega)) _))⟩
    case round =>
      obtain ⟨k, hk, rfl, hW⟩ := hrel
      by_cases hlt : k < (splitV bs).1.length
      · obtain ⟨b, off, r, rfl, hr, hb1, c0, c1, c2, c3, c4⟩ := (own4.up hW).reads.record hlt
        obtain ⟨b', off', r', rfl, hr', hb2, d0, d1, d2, d3, d4⟩ := (own5.up hW).reads.record hlt
        rw [hr] at hr'
        cases hr'
        have Hr := Lib.hid hr
        clear hr own4 own5
        go_wp2
        go_quiet (fail)
        go_wp2
        go_roundw
        case rel => exact ⟨k + 1, by omega, by go_num, (by repeat with_reducible (first | exact hW | exact Ext.refl _ | refine Ext.alloc ?_ _ | refine Ext.drew ?_ | refine Ext.drewN ?_ _ | refine Ext.setCell ?_ (by first | exact Nat.le_refl _ | omega | (simp; done) | (simp; omega)) _))⟩
        case measure => simp [intOf]; omega
      · have e : k = (splitV bs).1.length := by omega
        subst e
        go_wp2
        go_ret
        exact ⟨rfl, hE.trans hW⟩

end Go.Proofs.Ytcipokmklkognaa
