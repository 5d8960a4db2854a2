/- Contracts of layer 5. -/
import Derived.Test.YtlhbllaojjelcaaDoorWA
import Derived.Test.YtlhbllaojjelcaaDoorSA
import Derived.Test.YtlhbllaojjelcaaDoorLib
import Derived.Deep.QuietTactic
import Derived.BigQuiet

/- Contracts of layer 5: the record at a place. -/
namespace Go.Proofs.YtlhbllaojjelcaaDoor
open Go.RowKit
set_option linter.unusedVariables false

theorem rSize {A : Option Addr} {n c : Nat} {bs : List UInt8} {w : World} {V a g C : Nat} (hb : BytesAt w A n c bs) (hV : V ≤ 5) (hs : sizeV V bs = (a, g, C)) :
    Calls Tryd.prog 86 #[.slice A n c, .int .i64 (V : Int)] w fun e w' => e = .returned (.tuple #[.int .i64 (a : Int), .int .u64 (g : Int), .int .u8 (C : Int)]) ∧ w = w' := by
  rcases hv : readV bs with ⟨W, N, K⟩
  have hbd := readV_bd bs
  rw [hv] at hbd
  simp only at hbd
  have h1 := hbd.1
  have h2 := hbd.2.2.1
  have h4 := hbd.2.2.2.1
  clear hbd
  unfold sizeV at hs
  rw [hv] at hs
  have Hv := Lib.hid hv
  clear hv
  by_cases e0 : V = 0
  · subst e0
    simp only [if_true, Prod.mk.injEq] at hs
    obtain ⟨rfl, rfl, rfl⟩ := hs
    go_enter Tryd.func86, Tryd.ntmps86
    go_wp2_with (go_at_call 62; refine (vSkip hb Hv.out).mono ?_; rintro e w' ⟨rfl, rfl⟩)
    go_ret3
    exact ⟨rfl, rfl⟩
  · by_cases e1 : V = 1
    · subst e1
      simp only [if_true, if_neg e0, Prod.mk.injEq] at hs
      obtain ⟨rfl, rfl, rfl⟩ := hs
      go_enter Tryd.func86, Tryd.ntmps86
      go_wp2
      go_ret3
      exact ⟨rfl, rfl⟩
    · by_cases e5 : V = 5
      · subst e5
        simp only [if_true, if_neg e0, if_neg e1, Prod.mk.injEq] at hs
        obtain ⟨rfl, rfl, rfl⟩ := hs
        go_enter Tryd.func86, Tryd.ntmps86
        go_wp2
        go_ret3
        exact ⟨rfl, rfl⟩
      · rw [if_neg e0, if_neg e1, if_neg e5] at hs
        simp only [Prod.mk.injEq] at hs
        obtain ⟨rfl, rfl, rfl⟩ := hs
        have q0 : ((V : Int) == 0) = false := by simp; omega
        have q1 : ((V : Int) == 1) = false := by simp; omega
        have q5 : ((V : Int) == 5) = false := by simp; omega
        clear e0 e1 e5
        go_enter Tryd.func86, Tryd.ntmps86
        go_wp2_with (go_at_call 27; refine (vRead hb Hv.out).mono ?_; rintro e w' ⟨rfl, rfl⟩)
        go_ret3
        exact ⟨rfl, rfl⟩

def recV (r : Rec) : Value := .agg #[.int .i64 (r.n : Int), .int .i64 (r.w : Int), .int .i64 (r.f : Int), .int .i64 (r.a : Int), .int .i64 (r.t : Int)]

theorem rNext_arg {A : Option Addr} {n c : Nat} {w : World} {p : Int} (hp : p < 0 ∨ (n : Int) ≤ p) :
    Calls Tryd.prog 79 #[.slice A n c, .int .i64 p] w fun e w' => e = .returned (.tuple #[recV Rec.zero, .int .u8 2]) ∧ Ext w w' := by
  rcases hp with hp | hp
  · go_enter Tryd.func79, Tryd.ntmps79
    go_wp2
    exact bodyPost_ret (v := .tuple #[recV Rec.zero, .int .u8 2]) (by simp [results, Tryd.results79, go_sem, recV, Rec.zero]) rfl ⟨rfl, (by repeat with_reducible (first | exact Ext.refl _ | refine Ext.alloc ?_ _ | refine Ext.drew ?_ | refine Ext.drewN ?_ _ | refine Ext.setCell ?_ (by first | exact Nat.le_refl _ | omega | (simp; done) | (simp; omega)) _))⟩
  · have h0 : ¬ p < 0 := by omega
    go_enter Tryd.func79, Tryd.ntmps79
    go_wp2
    exact bodyPost_ret (v := .tuple #[recV Rec.zero, .int .u8 2]) (by simp [results, Tryd.results79, go_sem, recV, Rec.zero]) rfl ⟨rfl, (by repeat with_reducible (first | exact Ext.refl _ | refine Ext.alloc ?_ _ | refine Ext.drew ?_ | refine Ext.drewN ?_ _ | refine Ext.setCell ?_ (by first | exact Nat.le_refl _ | omega | (simp; done) | (simp; omega)) _))⟩

set_option maxHeartbeats 1000000 in
theorem rNext {A : Option Addr} {n c p : Nat} {bs : List UInt8} {w : World} {r : Rec} {C : Nat} (hb : BytesAt w A n c bs) (hp : p < n) (hn : n ≤ 1000000000000) (h : nextV bs p = (r, C)) :
    Calls Tryd.prog 79 #[.slice A n c, .int .i64 (p : Int)] w fun e w' => e = .returned (.tuple #[recV r, .int .u8 (C : Int)]) ∧ Ext w w' := by
  have hl := hb.length
  obtain ⟨A3, hcut, hr3⟩ := cut_from elemB hb .i64 (l := p) (by omega)
  have hb3 : BytesAt w A3 (n - p) (c - p) (bs.drop p) := by simpa [BytesAt, List.map_drop] using hr3
  have hl3 := hb3.length
  rcases ht : tagV (bs.drop p) with ⟨T, V, N, K⟩
  have tb := tagV_bd (bs.drop p)
  rw [ht, hl3] at tb
  simp only at tb
  obtain ⟨t1, t2, t3, t4, t5, t6⟩ := tb
  unfold nextV at h
  clear hr3 hl3
  by_cases hK : K = 0
  · subst hK
    have t7 := (t6 rfl).1
    clear t6
    rcases hs : sizeV V ((bs.drop p).drop N) with ⟨a, g, D⟩
    have hs' := hs
    rw [List.drop_drop] at hs'
    obtain ⟨A4, hcut4, hr4⟩ := cut_from elemB hb .i64 (l := p + N) (by omega)
    have hb4 : BytesAt w A4 (n - (p + N)) (c - (p + N)) (bs.drop (p + N)) := by simpa [BytesAt, List.map_drop] using hr4
    have sb := sizeV_bd V ((bs.drop p).drop N)
    rw [hs, List.drop_drop, hb4.length] at sb
    simp only at sb
    obtain ⟨s1, s2, s3, s4⟩ := sb
    rw [Int.natCast_add] at hcut4
    clear hr4
    by_cases hD : D = 0
    · subst hD
      by_cases hg : n - p - (N + a) < g
      · rw [headV_short ht hs (by rw [List.length_drop, hl]; omega)] at h
        simp [shiftR] at h
        obtain ⟨rfl, rfl⟩ := h
        have hg' : ((n : Int) - ((p : Int) + N + a)) < (g : Int) := by omega
        have Ht := Lib.hid ht
        have Hs := Lib.hid hs'
        clear ht hs hs' hl hg
        go_enter Tryd.func79, Tryd.ntmps79
        go_wp2_with (first | (go_at_call 85; refine (tRead (hb3.ext (by repeat with_reducible (first | exact Ext.refl _ | refine Ext.alloc ?_ _ | refine Ext.drew ?_ | refine Ext.drewN ?_ _ | refine Ext.setCell ?_ (by first | exact Nat.le_refl _ | omega | (simp; done) | (simp; omega)) _))) Ht.out).mono ?_; rintro e w1 ⟨rfl, E1⟩; obtain ⟨f1, f2, f3⟩ := E1.new_cells; have X_ : Ext w w1 := Ext.trans (by repeat with_reducible (first | exact Ext.refl _ | refine Ext.alloc ?_ _ | refine Ext.drew ?_ | refine Ext.drewN ?_ _ | refine Ext.setCell ?_ (by first | exact Nat.le_refl _ | omega | (simp; done) | (simp; omega)) _)) E1; replace hb4 := hb4.up X_; have hE := X_; clear X_))
        have hw : IntKind.i64.wrap ((p : Int) + N) = (p : Int) + N := by rw [IntKind.wrap_i64]; omega
        go_quiet ((go_at_call 86; exact Calls.quiet_of_same ((rSize (hb4.up (by repeat with_reducible (first | exact Ext.refl _ | refine Ext.alloc ?_ _ | refine Ext.drew ?_ | refine Ext.drewN ?_ _ | refine Ext.setCell ?_ (by first | exact Nat.le_refl _ | omega | (simp; done) | (simp; omega)) _))) t5 Hs.out).mono fun _ _ h => ⟨h.1, h.2.symm⟩)))
        go_wp2
        exact bodyPost_ret (v := .tuple #[recV Rec.zero, .int .u8 3]) (by simp [results, Tryd.results79, go_sem, recV, Rec.zero, f1, f3]) rfl ⟨rfl, (by repeat with_reducible (first | exact hE | exact Ext.refl _ | refine Ext.alloc ?_ _ | refine Ext.drew ?_ | refine Ext.drewN ?_ _ | refine Ext.setCell ?_ (by first | exact Nat.le_refl _ | omega | (simp; done) | (simp; omega)) _))⟩
      · rw [headV_ok ht hs (by rw [List.length_drop, hl]; omega)] at h
        simp [shiftR] at h
        obtain ⟨rfl, rfl⟩ := h
        have hg' : ¬ ((n : Int) - ((p : Int) + N + a)) < (g : Int) := by omega
        have hg2 : (g : Int) ≤ 1000000000000 := by omega
        have hg3 : (p : Int) + N + a + g ≤ 1000000000000 := by omega
        have Ht := Lib.hid ht
        have Hs := Lib.hid hs'
        clear ht hs hs' hl
        go_enter Tryd.func79, Tryd.ntmps79
        go_wp2_with (first | (go_at_call 85; refine (tRead (hb3.ext (by repeat with_reducible (first | exact Ext.refl _ | refine Ext.alloc ?_ _ | refine Ext.drew ?_ | refine Ext.drewN ?_ _ | refine Ext.setCell ?_ (by first | exact Nat.le_refl _ | omega | (simp; done) | (simp; omega)) _))) Ht.out).mono ?_; rintro e w1 ⟨rfl, E1⟩; obtain ⟨f1, f2, f3⟩ := E1.new_cells; have X_ : Ext w w1 := Ext.trans (by repeat with_reducible (first | exact Ext.refl _ | refine Ext.alloc ?_ _ | refine Ext.drew ?_ | refine Ext.drewN ?_ _ | refine Ext.setCell ?_ (by first | exact Nat.le_refl _ | omega | (simp; done) | (simp; omega)) _)) E1; replace hb4 := hb4.up X_; have hE := X_; clear X_))
        have hw : IntKind.i64.wrap ((p : Int) + N) = (p : Int) + N := by rw [IntKind.wrap_i64]; omega
        go_quiet ((go_at_call 86; exact Calls.quiet_of_same ((rSize (hb4.up (by repeat with_reducible (first | exact Ext.refl _ | refine Ext.alloc ?_ _ | refine Ext.drew ?_ | refine Ext.drewN ?_ _ | refine Ext.setCell ?_ (by first | exact Nat.le_refl _ | omega | (simp; done) | (simp; omega)) _))) t5 Hs.out).mono fun _ _ h => ⟨h.1, h.2.symm⟩)))
        go_wp2
        exact bodyPost_ret (v := .tuple #[recV ⟨T, V, p, p + N + a, p + N + a + g⟩, .int .u8 0]) (by simp [results, Tryd.results79, go_sem, recV, f1, f3]) rfl ⟨by simp [recV, Nat.add_assoc], (by repeat with_reducible (first | exact hE | exact Ext.refl _ | refine Ext.alloc ?_ _ | refine Ext.drew ?_ | refine Ext.drewN ?_ _ | refine Ext.setCell ?_ (by first | exact Nat.le_refl _ | omega | (simp; done) | (simp; omega)) _))⟩
    · rw [headV_size ht hs hD] at h
      simp [shiftR, hD] at h
      obtain ⟨rfl, rfl⟩ := h
      have q : ((D : Int) != 0) = true := by simp; omega
      have Ht := Lib.hid ht
      have Hs := Lib.hid hs'
      clear ht hs hs' hl
      go_enter Tryd.func79, Tryd.ntmps79
      go_wp2_with (first | (go_at_call 85; refine (tRead (hb3.ext (by repeat with_reducible (first | exact Ext.refl _ | refine Ext.alloc ?_ _ | refine Ext.drew ?_ | refine Ext.drewN ?_ _ | refine Ext.setCell ?_ (by first | exact Nat.le_refl _ | omega | (simp; done) | (simp; omega)) _))) Ht.out).mono ?_; rintro e w1 ⟨rfl, E1⟩; obtain ⟨f1, f2, f3⟩ := E1.new_cells; have X_ : Ext w w1 := Ext.trans (by repeat with_reducible (first | exact Ext.refl _ | refine Ext.alloc ?_ _ | refine Ext.drew ?_ | refine Ext.drewN ?_ _ | refine Ext.setCell ?_ (by first | exact Nat.le_refl _ | omega | (simp; done) | (simp; omega)) _)) E1; replace hb4 := hb4.up X_; have hE := X_; clear X_))
      have hw : IntKind.i64.wrap ((p : Int) + N) = (p : Int) + N := by rw [IntKind.wrap_i64]; omega
      go_quiet ((go_at_call 86; exact Calls.quiet_of_same ((rSize (hb4.up (by repeat with_reducible (first | exact Ext.refl _ | refine Ext.alloc ?_ _ | refine Ext.drew ?_ | refine Ext.drewN ?_ _ | refine Ext.setCell ?_ (by first | exact Nat.le_refl _ | omega | (simp; done) | (simp; omega)) _))) t5 Hs.out).mono fun _ _ h => ⟨h.1, h.2.symm⟩)))
      go_wp2
      exact bodyPost_ret (v := .tuple #[recV Rec.zero, .int .u8 D]) (by simp [results, Tryd.results79, go_sem, recV, Rec.zero, f1, f3]) rfl ⟨rfl, (by repeat with_reducible (first | exact hE | exact Ext.refl _ | refine Ext.alloc ?_ _ | refine Ext.drew ?_ | refine Ext.drewN ?_ _ | refine Ext.setCell ?_ (by first | exact Nat.le_refl _ | omega | (simp; done) | (simp; omega)) _))⟩
  · rw [headV_tag ht hK] at h
    simp [shiftR, hK] at h
    obtain ⟨rfl, rfl⟩ := h
    have q : ((K : Int) != 0) = true := by simp; omega
    have Ht := Lib.hid ht
    clear ht hl t6
    go_enter Tryd.func79, Tryd.ntmps79
    go_wp2_with (first | (go_at_call 85; refine (tRead (hb3.ext (by repeat with_reducible (first | exact Ext.refl _ | refine Ext.alloc ?_ _ | refine Ext.drew ?_ | refine Ext.drewN ?_ _ | refine Ext.setCell ?_ (by first | exact Nat.le_refl _ | omega | (simp; done) | (simp; omega)) _))) Ht.out).mono ?_; rintro e w1 ⟨rfl, E1⟩; obtain ⟨f1, f2, f3⟩ := E1.new_cells; have X_ : Ext w w1 := Ext.trans (by repeat with_reducible (first | exact Ext.refl _ | refine Ext.alloc ?_ _ | refine Ext.drew ?_ | refine Ext.drewN ?_ _ | refine Ext.setCell ?_ (by first | exact Nat.le_refl _ | omega | (simp; done) | (simp; omega)) _)) E1; have hE := X_; clear X_))
    exact bodyPost_ret (v := .tuple #[recV Rec.zero, .int .u8 K]) (by simp [results, Tryd.results79, go_sem, recV, Rec.zero, f1, f3]) rfl ⟨rfl, (by repeat with_reducible (first | exact hE | exact Ext.refl _ | refine Ext.alloc ?_ _ | refine Ext.drew ?_ | refine Ext.drewN ?_ _ | refine Ext.setCell ?_ (by first | exact Nat.le_refl _ | omega | (simp; done) | (simp; omega)) _))⟩

end Go.Proofs.YtlhbllaojjelcaaDoor

/- Contracts of layer 5: the record at a place, as the reference has it. -/
namespace Go.Proofs.YtlhbllaojjelcaaDoor
open Go.RowKit
set_option linter.unusedVariables false

section
variable {A : Option Addr} {n c p : Nat} {bs : List UInt8} {w : World} {T V N W M K : Nat}

end

end Go.Proofs.YtlhbllaojjelcaaDoor

/- Contracts of layer 5: all records. -/
namespace Go.Proofs.YtlhbllaojjelcaaDoor
open Go.RowKit
set_option linter.unusedVariables false

def recC (r : Rec) : List Value := [.int .i64 (r.n : Int), .int .i64 (r.w : Int), .int .i64 (r.f : Int), .int .i64 (r.a : Int), .int .i64 (r.t : Int)]

theorem recC_length (l : List Rec) : (l.flatMap recC).length = l.length * 5 := by
  induction l with
  | nil => rfl
  | cons r l ih => rw [List.flatMap_cons, List.length_append, ih, List.length_cons]; simp [recC]; omega

theorem recC_one (r : Rec) : ∀ u ∈ recC r, u.oneCell' = true := by
  intro u hu
  simp only [recC, List.mem_cons, List.not_mem_nil, or_false] at hu
  rcases hu with rfl | rfl | rfl | rfl | rfl <;> rfl

end Go.Proofs.YtlhbllaojjelcaaDoor

/- Contracts of layer 5: putting records. -/
namespace Go.Proofs.YtlhbllaojjelcaaDoor
open Go.RowKit
set_option linter.unusedVariables false

/-- May bytes be a value of a wire type? -/
def fitsV (wire : Int) (v : List UInt8) : Bool := decide ((wire = 0 ∧ (readV v).2.2 = 0 ∧ (readV v).2.1 = v.length) ∨ (wire = 1 ∧ v.length = 8) ∨ (wire = 5 ∧ v.length = 4) ∨ wire = 2)

/-- A record's bytes. -/
def putB (number wire : Int) (v : List UInt8) : List UInt8 := tagB number wire ++ ((if wire = 2 then Lib.uvarint v.length else []) ++ v)

theorem putB_length {number wire : Int} (h : rightB number wire = true) {v : List UInt8} (hv : v.length ≤ 100000000000) : (putB number wire v).length ≤ v.length + 15 := by
  have h1 := tagB_length h
  have h2 := Lib.uvarint_length64 (x := v.length) (by omega)
  unfold putB
  rw [List.length_append, List.length_append]
  split
  · omega
  · simp; omega

/-- What 'Len' puts behind bytes. -/
def lenB (number : Int) (v : List UInt8) : List UInt8 := if rightB number 2 = true then putB number 2 v else []

theorem fits_2 (v : List UInt8) : fitsV 2 v = true := by unfold fitsV; simp

end Go.Proofs.YtlhbllaojjelcaaDoor

/- Plain laws of layer 5: a record put alone; records lie without a gap. -/
namespace Go.Proofs.YtlhbllaojjelcaaDoor
open Go.RowKit Go.Lib
set_option linter.unusedVariables false

theorem tagV_putB {T V : Nat} (h : rightB (T : Int) (V : Int) = true) (more : List UInt8) : tagV (tagB (T : Int) (V : Int) ++ more) = (T, V, (tagB (T : Int) (V : Int)).length, 0) := by
  obtain ⟨h1, h2, h3, h4⟩ := right_bd h
  have e : (8 * (T : Int) + (V : Int)).toNat = 8 * T + V := by omega
  have hv : readV (tagB (T : Int) (V : Int) ++ more) = (8 * T + V, (tagB (T : Int) (V : Int)).length, 0) := by
    unfold tagB; rw [e]; exact readV_uvarint _ _ (by omega)
  have e1 : (8 * T + V) / 8 = T := by omega
  have e2 : (8 * T + V) % 8 = V := by omega
  have := tagV_of hv (by rw [e1, e2]; exact h)
  rwa [e1, e2] at this

/-- One behind the other, from p to q. -/
def Linked : Nat → List Rec → Nat → Prop
  | p, [], q => p = q
  | p, r :: l, q => r.f = p ∧ Linked r.t l q

theorem scan_linked (bs : List UInt8) : ∀ (m p : Nat), bs.length - p ≤ m → p ≤ bs.length → (scan (nextV bs) Rec.t bs.length p).2.2 = 0 → Linked p (scan (nextV bs) Rec.t bs.length p).1 bs.length := by
  intro m
  induction m with
  | zero =>
    intro p hm hp h0
    rw [scan_end (by omega)]
    show p = bs.length
    omega
  | succ m ih =>
    intro p hm hp h0
    by_cases he : p = bs.length
    · rw [scan_end (by omega)]; exact he
    · rcases hs : nextV bs p with ⟨r, C⟩
      have hlt : p < bs.length := by omega
      by_cases hC : C = 0
      · subst hC
        have h1 := nextV_ok hs
        have hok := scan_ok (nextV_onward bs) hlt hs
        rw [hok] at h0 ⊢
        unfold pre at h0 ⊢
        by_cases h : (scan (nextV bs) Rec.t bs.length r.t).2.2 = 0
        · rw [if_pos h]
          exact ⟨h1.2.1, ih r.t (by omega) (by omega) h⟩
        · rw [if_neg h] at h0
          exact absurd h0 h
      · rw [scan_fail hlt hs hC] at h0
        exact absurd h0 hC

/-- What each record of a whole split is. -/
theorem splitV_each (bs : List UInt8) : ∀ r ∈ (splitV bs).1, nextV bs r.f = (r, 0) :=
  scan_all (nextV_onward bs) (fun p x hp h => by rw [(nextV_ok h).2.1]; exact h) bs.length 0 (by omega)

/-- The bytes between two places. -/
def spanB (bs : List UInt8) (a t : Nat) : List UInt8 := (bs.take t).drop a

theorem spanB_length (bs : List UInt8) {a t : Nat} (h : t ≤ bs.length) : (spanB bs a t).length = t - a := by unfold spanB; rw [List.length_drop, List.length_take]; omega

theorem spanB_drop (bs : List UInt8) (p k g : Nat) : spanB bs (p + k) (p + k + g) = ((bs.drop p).drop k).take g := by
  unfold spanB
  rw [List.drop_drop, List.drop_take]
  congr 1
  omega

theorem splitV_one {c : List UInt8} {T V a : Nat} (h : headV c = (T, V, a, c.length, 0)) : splitV c = ([⟨T, V, 0, a, c.length⟩], 0, 0) := by
  have hb := headV_bd h
  have hn : nextV c 0 = (⟨T, V, 0, a, c.length⟩, 0) := by unfold nextV; rw [List.drop_zero, h]; simp [shiftR]
  unfold splitV
  rw [scan_ok (nextV_onward c) (by omega) hn, scan_end (Nat.le_refl _), pre_end]

/-- A record, put alone, is split to one of the same number, wire type and value, and has no more bytes. -/
theorem record_alone {bs : List UInt8} {p : Nat} {r : Rec} (h : nextV bs p = (r, 0)) (hl : bs.length ≤ 100000) :
    rightB (r.n : Int) (r.w : Int) = true ∧ fitsV (r.w : Int) (spanB bs r.a r.t) = true ∧ (putB (r.n : Int) (r.w : Int) (spanB bs r.a r.t)).length ≤ r.t - r.f ∧
      ∃ q, splitV (putB (r.n : Int) (r.w : Int) (spanB bs r.a r.t)) = ([⟨r.n, r.w, 0, q, (putB (r.n : Int) (r.w : Int) (spanB bs r.a r.t)).length⟩], 0, 0) ∧ q ≤ (putB (r.n : Int) (r.w : Int) (spanB bs r.a r.t)).length ∧
        spanB (putB (r.n : Int) (r.w : Int) (spanB bs r.a r.t)) q (putB (r.n : Int) (r.w : Int) (spanB bs r.a r.t)).length = spanB bs r.a r.t := by
  obtain ⟨h1, hf, h2, h3, h4⟩ := nextV_ok h
  rcases headV_cases (bs.drop p) with ⟨C, c1, c2, _⟩ | ⟨T, V, N, a, g, c1, c2, c3, c4, c5⟩
  · rw [c1] at h1; simp only [Prod.mk.injEq] at h1; exact absurd h1.2.2.2.2 c2
  · rw [c5] at h1
    simp only [Prod.mk.injEq, and_true] at h1
    obtain ⟨e1, e2, e3, e4⟩ := h1
    have ea : r.a = p + (N + a) := by omega
    have et : r.t = p + (N + a) + g := by omega
    rw [List.length_drop] at c3
    rw [← e1, ← e2, ea, et, hf]
    rw [spanB_drop, ← List.drop_drop]
    obtain ⟨W, w1, w2, w3, w4⟩ := tagV_inv c1
    have hmin := readV_minimal w1
    have htag : tagB (T : Int) (V : Int) = uvarint W := by unfold tagB; congr 1; omega
    generalize hD : (bs.drop p).drop N = D at *
    have hDl : D.length = bs.length - p - N := by rw [← hD, List.length_drop, List.length_drop]
    have hvl : ((D.drop a).take g).length = g := by rw [List.length_take, List.length_drop]; omega
    generalize hv : (D.drop a).take g = v at *
    have hw := w4
    unfold rightB at hw
    have hw := of_decide_eq_true hw
    -- the piece ahead of the value
    have key : ∃ a', (if (V : Int) = 2 then uvarint v.length else []).length = a' ∧ a' ≤ a ∧ fitsV (V : Int) v = true ∧ sizeV V ((if (V : Int) = 2 then uvarint v.length else []) ++ v) = (a', g, 0) := by
      unfold sizeV at c2
      rcases (show V = 0 ∨ V = 1 ∨ V = 5 ∨ V = 2 by omega) with rfl | rfl | rfl | rfl
      · rw [if_pos rfl] at c2
        simp only [Prod.mk.injEq] at c2
        obtain ⟨rfl, hg, hc⟩ := c2
        rcases hr : readV D with ⟨W', M, C'⟩
        rw [hr] at hg hc
        simp only at hg hc
        subst hg hc
        have ht := readV_take hr
        rw [List.drop_zero] at hv
        rw [hv] at ht
        refine ⟨0, by simp, Nat.le_refl _, ?_, ?_⟩
        · unfold fitsV; rw [ht]; simp [hvl]
        · simp; unfold sizeV; rw [if_pos rfl, ht]
      · rw [if_neg (by decide), if_pos rfl] at c2
        simp only [Prod.mk.injEq, and_true] at c2
        obtain ⟨rfl, rfl⟩ := c2
        refine ⟨0, by simp, Nat.le_refl _, ?_, ?_⟩
        · unfold fitsV; simp [hvl]
        · unfold sizeV; simp
      · rw [if_neg (by decide), if_neg (by decide), if_pos rfl] at c2
        simp only [Prod.mk.injEq, and_true] at c2
        obtain ⟨rfl, rfl⟩ := c2
        refine ⟨0, by simp, Nat.le_refl _, ?_, ?_⟩
        · unfold fitsV; simp [hvl]
        · unfold sizeV; simp
      · rw [if_neg (by decide), if_neg (by decide), if_neg (by decide)] at c2
        simp only [Prod.mk.injEq] at c2
        rcases hr : readV D with ⟨W', M, C'⟩
        rw [hr] at c2
        simp only at c2
        obtain ⟨rfl, rfl, rfl⟩ := c2
        have hm := readV_minimal hr
        refine ⟨(uvarint v.length).length, by simp, by rw [hvl]; exact hm, ?_, ?_⟩
        · unfold fitsV; simp
        · have hru := readV_uvarint v.length v (by omega)
          rw [hvl] at hru
          unfold sizeV
          simp [hru, hvl]
    obtain ⟨a', k1, k2, k3, k4⟩ := key
    have hput : putB (T : Int) (V : Int) v = tagB (T : Int) (V : Int) ++ ((if (V : Int) = 2 then uvarint v.length else []) ++ v) := rfl
    have hlen : (putB (T : Int) (V : Int) v).length = (tagB (T : Int) (V : Int)).length + a' + g := by rw [hput, List.length_append, List.length_append, k1, hvl]; omega
    have hhead : headV (putB (T : Int) (V : Int) v) = (T, V, (tagB (T : Int) (V : Int)).length + a', (putB (T : Int) (V : Int) v).length, 0) := by
      rw [hlen]
      refine headV_ok (by rw [hput]; exact tagV_putB w4 _) ?_ (by rw [hlen]; omega)
      rw [hput, List.drop_left]
      exact k4
    refine ⟨w4, k3, by rw [hlen, htag]; omega, (tagB (T : Int) (V : Int)).length + a', splitV_one hhead, by rw [hlen]; omega, ?_⟩
    unfold spanB
    rw [List.take_length, hput, ← List.drop_drop, List.drop_left, ← k1, List.drop_left]

end Go.Proofs.YtlhbllaojjelcaaDoor

/- Contracts of layer 5: a record's bytes. -/
namespace Go.Proofs.YtlhbllaojjelcaaDoor
open Go.RowKit
set_option linter.unusedVariables false

theorem spanB_at {w : World} {A : Option Addr} {n c : Nat} {bs : List UInt8} (hb : BytesAt w A n c bs) {l m : Nat} (hl : l ≤ m) (hm : m ≤ n) :
    ∃ A', (∀ W : World, (Instr.slice 24 (.slice A n c) (some (.int .i64 (l : Int))) (some (.int .i64 (m : Int))) none).run Tryd.prog W = .ok (.slice A' (m - l) (c - l)) W) ∧ BytesAt w A' (m - l) (c - l) (spanB bs l m) := by
  obtain ⟨A', h1, h2⟩ := cut_both elemB hb .i64 .i64 hl hm
  exact ⟨A', h1, by simpa [BytesAt, spanB, List.map_drop, List.map_take] using h2⟩

end Go.Proofs.YtlhbllaojjelcaaDoor
