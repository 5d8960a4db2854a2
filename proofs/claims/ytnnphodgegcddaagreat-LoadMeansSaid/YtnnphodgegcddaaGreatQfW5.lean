/- Contracts of layer 5. -/
import Derived.Test.YtnnphodgegcddaaGreatQfWA
import Derived.Test.YtnnphodgegcddaaGreatQfSA
import Derived.Test.YtnnphodgegcddaaGreatQfLib
import Derived.Deep.QuietTactic
import Derived.BigQuiet

/- Contracts of layer 5: the record at a place. -/
namespace Go.Proofs.YtnnphodgegcddaaGreat
open Go.RowKit
set_option linter.unusedVariables false

theorem rSize {A : Option Addr} {n c : Nat} {bs : List UInt8} {w : World} {V a g C : Nat} (hb : BytesAt w A n c bs) (hV : V ≤ 5) (hs : sizeV V bs = (a, g, C)) :
  Calls Tryz.prog 208 #[.slice A n c, .int .i64 (V : Int)] w fun e w' => e = .returned (.tuple #[.int .i64 (a : Int), .int .u64 (g : Int), .int .u8 (C : Int)]) ∧ w = w' := by
 rcases hv : readV bs with ⟨W, N, K⟩
 have hbd := readV_bd bs
 rw [hv] at hbd
 simp only at hbd
 have h1 := hbd.1
 have h2 := hbd.2.2.1
 have h4 := hbd.2.2.2.1
 clear hbd
 unfold sizeV at hs
 rw [hv] at hs
 have Hv := Lib.hid hv
 clear hv
 by_cases e0 : V = 0
 · subst e0
   simp only [if_true, Prod.mk.injEq] at hs
   obtain ⟨rfl, rfl, rfl⟩ := hs
   go_enter Tryz.func208, Tryz.ntmps208
   go_wp2_with (go_at_call 186; refine (vSkip hb Hv.out).mono ?_; rintro e w' ⟨rfl, rfl⟩)
   go_ret3
   exact ⟨rfl, rfl⟩
 · by_cases e1 : V = 1
   · subst e1
     simp only [if_true, if_neg e0, Prod.mk.injEq] at hs
     obtain ⟨rfl, rfl, rfl⟩ := hs
     go_enter Tryz.func208, Tryz.ntmps208
     go_wp2
     go_ret3
     exact ⟨rfl, rfl⟩
   · by_cases e5 : V = 5
     · subst e5
       simp only [if_true, if_neg e0, if_neg e1, Prod.mk.injEq] at hs
       obtain ⟨rfl, rfl, rfl⟩ := hs
       go_enter Tryz.func208, Tryz.ntmps208
       go_wp2
       go_ret3
       exact ⟨rfl, rfl⟩
     · rw [if_neg e0, if_neg e1, if_neg e5] at hs
       simp only [Prod.mk.injEq] at hs
       obtain ⟨rfl, rfl, rfl⟩ := hs
       have q0 : ((V : Int) == 0) = false := by simp; omega
       have q1 : ((V : Int) == 1) = false := by simp; omega
       have q5 : ((V : Int) == 5) = false := by simp; omega
       clear e0 e1 e5
       go_enter Tryz.func208, Tryz.ntmps208
       go_wp2_with (go_at_call 143; refine (vRead hb Hv.out).mono ?_; rintro e w' ⟨rfl, rfl⟩)
       go_ret3
       exact ⟨rfl, rfl⟩

def recV (r : Rec) : Value := .agg #[.int .i64 (r.n : Int), .int .i64 (r.w : Int), .int .i64 (r.f : Int), .int .i64 (r.a : Int), .int .i64 (r.t : Int)]

theorem rNext_arg {A : Option Addr} {n c : Nat} {w : World} {p : Int} (hp : p < 0 ∨ (n : Int) ≤ p) :
  Calls Tryz.prog 189 #[.slice A n c, .int .i64 p] w fun e w' => e = .returned (.tuple #[recV Rec.zero, .int .u8 2]) ∧ Ext w w' := by
 rcases hp with hp | hp
 · go_enter Tryz.func189, Tryz.ntmps189
   go_wp2
   exact bodyPost_ret (v := .tuple #[recV Rec.zero, .int .u8 2]) (by simp [results, Tryz.results189, go_sem, recV, Rec.zero]) rfl ⟨rfl, (by repeat with_reducible (first | exact Ext.refl _ | refine Ext.alloc ?_ _ | refine Ext.drew ?_ | refine Ext.drewN ?_ _ | refine Ext.setCell ?_ (by first | omega | (simp <;> omega)) _))⟩
 · have h0 : ¬ p < 0 := by omega
   go_enter Tryz.func189, Tryz.ntmps189
   go_wp2
   exact bodyPost_ret (v := .tuple #[recV Rec.zero, .int .u8 2]) (by simp [results, Tryz.results189, go_sem, recV, Rec.zero]) rfl ⟨rfl, (by repeat with_reducible (first | exact Ext.refl _ | refine Ext.alloc ?_ _ | refine Ext.drew ?_ | refine Ext.drewN ?_ _ | refine Ext.setCell ?_ (by first | omega | (simp <;> omega)) _))⟩

set_option maxHeartbeats 1000000 in
theorem rNext {A : Option Addr} {n c p : Nat} {bs : List UInt8} {w : World} {r : Rec} {C : Nat} (hb : BytesAt w A n c bs) (hp : p < n) (hn : n ≤ 1000000000000) (h : nextV bs p = (r, C)) :
  Calls Tryz.prog 189 #[.slice A n c, .int .i64 (p : Int)] w fun e w' => e = .returned (.tuple #[recV r, .int .u8 (C : Int)]) ∧ Ext w w' := by
 have hl := hb.length
 obtain ⟨A3, hcut, hr3⟩ := cut_from elemB hb .i64 (l := p) (by omega)
 have hb3 : BytesAt w A3 (n - p) (c - p) (bs.drop p) := by simpa [BytesAt, List.map_drop] using hr3
 have hl3 := hb3.length
 rcases ht : tagV (bs.drop p) with ⟨T, V, N, K⟩
 have tb := tagV_bd (bs.drop p)
 rw [ht, hl3] at tb
 simp only at tb
 obtain ⟨t1, t2, t3, t4, t5, t6⟩ := tb
 unfold nextV at h
 clear hr3 hl3
 by_cases hK : K = 0
 · subst hK
   have t7 := (t6 rfl).1
   clear t6
   rcases hs : sizeV V ((bs.drop p).drop N) with ⟨a, g, D⟩
   have hs' := hs
   rw [List.drop_drop] at hs'
   obtain ⟨A4, hcut4, hr4⟩ := cut_from elemB hb .i64 (l := p + N) (by omega)
   have hb4 : BytesAt w A4 (n - (p + N)) (c - (p + N)) (bs.drop (p + N)) := by simpa [BytesAt, List.map_drop] using hr4
   have sb := sizeV_bd V ((bs.drop p).drop N)
   rw [hs, List.drop_drop, hb4.length] at sb
   simp only at sb
   obtain ⟨s1, s2, s3, s4⟩ := sb
   rw [Int.natCast_add] at hcut4
   clear hr4
   by_cases hD : D = 0
   · subst hD
     by_cases hg : n - p - (N + a) < g
     · rw [headV_short ht hs (by rw [List.length_drop, hl]; omega)] at h
       simp [shiftR] at h
       obtain ⟨rfl, rfl⟩ := h
       have hg' : ((n : Int) - ((p : Int) + N + a)) < (g : Int) := by omega
       have Ht := Lib.hid ht
       have Hs := Lib.hid hs'
       clear ht hs hs' hl hg
       go_enter Tryz.func189, Tryz.ntmps189
       go_wp2_with (first | (go_at_call 207; refine (tRead (hb3.ext (by repeat with_reducible (first | exact Ext.refl _ | refine Ext.alloc ?_ _ | refine Ext.drew ?_ | refine Ext.drewN ?_ _ | refine Ext.setCell ?_ (by first | omega | (simp <;> omega)) _))) Ht.out).mono ?_; rintro e w1 ⟨rfl, E1⟩; obtain ⟨f1, f2, f3⟩ := E1.new_cells; have X_ : Ext w w1 := Ext.trans (by repeat with_reducible (first | exact Ext.refl _ | refine Ext.alloc ?_ _ | refine Ext.drew ?_ | refine Ext.drewN ?_ _ | refine Ext.setCell ?_ (by first | omega | (simp <;> omega)) _)) E1; replace hb4 := hb4.up X_; have hE := X_; clear X_))
       have hw : IntKind.i64.wrap ((p : Int) + N) = (p : Int) + N := by rw [IntKind.wrap_i64]; omega
       go_quiet ((go_at_call 208; exact Calls.quiet_of_same ((rSize (hb4.up (by repeat with_reducible (first | exact Ext.refl _ | refine Ext.alloc ?_ _ | refine Ext.drew ?_ | refine Ext.drewN ?_ _ | refine Ext.setCell ?_ (by first | omega | (simp <;> omega)) _))) t5 Hs.out).mono fun _ _ h => ⟨h.1, h.2.symm⟩)))
       go_wp2
       exact bodyPost_ret (v := .tuple #[recV Rec.zero, .int .u8 3]) (by simp [results, Tryz.results189, go_sem, recV, Rec.zero, f1, f3]) rfl ⟨rfl, (by repeat with_reducible (first | exact hE | exact Ext.refl _ | refine Ext.alloc ?_ _ | refine Ext.drew ?_ | refine Ext.drewN ?_ _ | refine Ext.setCell ?_ (by first | omega | (simp <;> omega)) _))⟩
     · rw [headV_ok ht hs (by rw [List.length_drop, hl]; omega)] at h
       simp [shiftR] at h
       obtain ⟨rfl, rfl⟩ := h
       have hg' : ¬ ((n : Int) - ((p : Int) + N + a)) < (g : Int) := by omega
       have hg2 : (g : Int) ≤ 1000000000000 := by omega
       have hg3 : (p : Int) + N + a + g ≤ 1000000000000 := by omega
       have Ht := Lib.hid ht
       have Hs := Lib.hid hs'
       clear ht hs hs' hl
       go_enter Tryz.func189, Tryz.ntmps189
       go_wp2_with (first | (go_at_call 207; refine (tRead (hb3.ext (by repeat with_reducible (first | exact Ext.refl _ | refine Ext.alloc ?_ _ | refine Ext.drew ?_ | refine Ext.drewN ?_ _ | refine Ext.setCell ?_ (by first | omega | (simp <;> omega)) _))) Ht.out).mono ?_; rintro e w1 ⟨rfl, E1⟩; obtain ⟨f1, f2, f3⟩ := E1.new_cells; have X_ : Ext w w1 := Ext.trans (by repeat with_reducible (first | exact Ext.refl _ | refine Ext.alloc ?_ _ | refine Ext.drew ?_ | refine Ext.drewN ?_ _ | refine Ext.setCell ?_ (by first | omega | (simp <;> omega)) _)) E1; replace hb4 := hb4.up X_; have hE := X_; clear X_))
       have hw : IntKind.i64.wrap ((p : Int) + N) = (p : Int) + N := by rw [IntKind.wrap_i64]; omega
       go_quiet ((go_at_call 208; exact Calls.quiet_of_same ((rSize (hb4.up (by repeat with_reducible (first | exact Ext.refl _ | refine Ext.alloc ?_ _ | refine Ext.drew ?_ | refine Ext.drewN ?_ _ | refine Ext.setCell ?_ (by first | omega | (simp <;> omega)) _))) t5 Hs.out).mono fun _ _ h => ⟨h.1, h.2.symm⟩)))
       go_wp2
       exact bodyPost_ret (v := .tuple #[recV ⟨T, V, p, p + N + a, p + N + a + g⟩, .int .u8 0]) (by simp [results, Tryz.results189, go_sem, recV, f1, f3]) rfl ⟨by simp [recV, Nat.add_assoc], (by repeat with_reducible (first | exact hE | exact Ext.refl _ | refine Ext.alloc ?_ _ | refine Ext.drew ?_ | refine Ext.drewN ?_ _ | refine Ext.setCell ?_ (by first | omega | (simp <;> omega)) _))⟩
   · rw [headV_size ht hs hD] at h
     simp [shiftR, hD] at h
     obtain ⟨rfl, rfl⟩ := h
     have q : ((D : Int) != 0) = true := by simp; omega
     have Ht := Lib.hid ht
     have Hs := Lib.hid hs'
     clear ht hs hs' hl
     go_enter Tryz.func189, Tryz.ntmps189
     go_wp2_with (first | (go_at_call 207; refine (tRead (hb3.ext (by repeat with_reducible (first | exact Ext.refl _ | refine Ext.alloc ?_ _ | refine Ext.drew ?_ | refine Ext.drewN ?_ _ | refine Ext.setCell ?_ (by first | omega | (simp <;> omega)) _))) Ht.out).mono ?_; rintro e w1 ⟨rfl, E1⟩; obtain ⟨f1, f2, f3⟩ := E1.new_cells; have X_ : Ext w w1 := Ext.trans (by repeat with_reducible (first | exact Ext.refl _ | refine Ext.alloc ?_ _ | refine Ext.drew ?_ | refine Ext.drewN ?_ _ | refine Ext.setCell ?_ (by first | omega | (simp <;> omega)) _)) E1; replace hb4 := hb4.up X_; have hE := X_; clear X_))
     have hw : IntKind.i64.wrap ((p : Int) + N) = (p : Int) + N := by rw [IntKind.wrap_i64]; omega
     go_quiet ((go_at_call 208; exact Calls.quiet_of_same ((rSize (hb4.up (by repeat with_reducible (first | exact Ext.refl _ | refine Ext.alloc ?_ _ | refine Ext.drew ?_ | refine Ext.drewN ?_ _ | refine Ext.setCell ?_ (by first | omega | (simp <;> omega)) _))) t5 Hs.out).mono fun _ _ h => ⟨h.1, h.2.symm⟩)))
     go_wp2
     exact bodyPost_ret (v := .tuple #[recV Rec.zero, .int .u8 D]) (by simp [results, Tryz.results189, go_sem, recV, Rec.zero, f1, f3]) rfl ⟨rfl, (by repeat with_reducible (first | exact hE | exact Ext.refl _ | refine Ext.alloc ?_ _ | refine Ext.drew ?_ | refine Ext.drewN ?_ _ | refine Ext.setCell ?_ (by first | omega | (simp <;> omega)) _))⟩
 · rw [headV_tag ht hK] at h
   simp [shiftR, hK] at h
   obtain ⟨rfl, rfl⟩ := h
   have q : ((K : Int) != 0) = true := by simp; omega
   have Ht := Lib.hid ht
   clear ht hl t6
   go_enter Tryz.func189, Tryz.ntmps189
   go_wp2_with (first | (go_at_call 207; refine (tRead (hb3.ext (by repeat with_reducible (first | exact Ext.refl _ | refine Ext.alloc ?_ _ | refine Ext.drew ?_ | refine Ext.drewN ?_ _ | refine Ext.setCell ?_ (by first | omega | (simp <;> omega)) _))) Ht.out).mono ?_; rintro e w1 ⟨rfl, E1⟩; obtain ⟨f1, f2, f3⟩ := E1.new_cells; have X_ : Ext w w1 := Ext.trans (by repeat with_reducible (first | exact Ext.refl _ | refine Ext.alloc ?_ _ | refine Ext.drew ?_ | refine Ext.drewN ?_ _ | refine Ext.setCell ?_ (by first | omega | (simp <;> omega)) _)) E1; have hE := X_; clear X_))
   exact bodyPost_ret (v := .tuple #[recV Rec.zero, .int .u8 K]) (by simp [results, Tryz.results189, go_sem, recV, Rec.zero, f1, f3]) rfl ⟨rfl, (by repeat with_reducible (first | exact hE | exact Ext.refl _ | refine Ext.alloc ?_ _ | refine Ext.drew ?_ | refine Ext.drewN ?_ _ | refine Ext.setCell ?_ (by first | omega | (simp <;> omega)) _))⟩

end Go.Proofs.YtnnphodgegcddaaGreat

/- Contracts of layer 5: the record at a place, as the reference has it. -/
namespace Go.Proofs.YtnnphodgegcddaaGreat
open Go.RowKit
set_option linter.unusedVariables false

section
variable {A : Option Addr} {n c p : Nat} {bs : List UInt8} {w : World} {T V N W M K : Nat}

end

end Go.Proofs.YtnnphodgegcddaaGreat

/- Contracts of layer 5: all records. -/
namespace Go.Proofs.YtnnphodgegcddaaGreat
open Go.RowKit
set_option linter.unusedVariables false

def recC (r : Rec) : List Value := [.int .i64 (r.n : Int), .int .i64 (r.w : Int), .int .i64 (r.f : Int), .int .i64 (r.a : Int), .int .i64 (r.t : Int)]

theorem recC_one (r : Rec) : ∀ u ∈ recC r, u.oneCell' = true := by
 intro u hu
 simp only [recC, List.mem_cons, List.not_mem_nil, or_false] at hu
 rcases hu with rfl | rfl | rfl | rfl | rfl <;> rfl

theorem elemRec : Elem Tryz.prog 289 159 5 40 := Elem.mk' (z := .agg #[.int .i64 0, .int .i64 0, .int .i64 0, .int .i64 0, .int .i64 0]) Tryz.underlying289 (by kernel_rfl) rfl (by omega)

set_option maxHeartbeats 1000000 in
theorem rSplit {A : Option Addr} {n c : Nat} {bs : List UInt8} {w : World} (hb : BytesAt w A n c bs) (hn : n ≤ 1000000000) :
  Calls Tryz.prog 198 #[.slice A n c] w fun e w' => ∃ A' c', e = .returned (.tuple #[.slice A' (splitV bs).1.length c', .int .i64 ((splitV bs).2.1 : Int), .int .u8 ((splitV bs).2.2 : Int)]) ∧ Own w w' 159 5 A' (splitV bs).1.length c' ((splitV bs).1.flatMap recC) := by
 have hlen := hb.length
 have hO := nextV_onward bs
 rw [hlen] at hO
 have hS : splitV bs = scan (nextV bs) Rec.t n 0 := by unfold splitV; rw [hlen]
 have HO := Lib.hid hO
 have HS := Lib.hid hS
 clear hlen hO hS
 go_enter Tryz.func198, Tryz.ntmps198
 go_wp2
 go_loopw [5, 6] (fun u i wr => ∃ (p : Nat) (A2 : Option Addr) (c2 : Nat) (l : List Rec), p ≤ n ∧ i = .int .i64 p ∧ u = .slice A2 l.length c2 ∧ Own w wr 159 5 A2 l.length c2 (l.flatMap recC) ∧
   l.length ≤ p ∧ Hid (splitV bs = pre l (scan (nextV bs) Rec.t n p))) (fun _ i _ => n - (intOf i).toNat)
 case atStart => exact ⟨0, none, 0, [], Nat.zero_le _, rfl, rfl, Own.nil (Ext.refl _) 159 5, Nat.zero_le _, by rw [pre_scan HO.out]; exact HS.out⟩
 case round =>
  obtain ⟨p, A2, c2, l, hp, rfl, rfl, own, hlp, hA⟩ := hrel
  by_cases hm : (p : Int) < n
  · rcases hv : nextV bs p with ⟨r, C⟩
    by_cases hC : C = 0
    · subst hC
      have h2 := HO.out p (by omega) (by rw [hv])
      rw [hv] at h2
      simp only at h2
      have hsc := scan_ok HO.out (show p < n by omega) hv
      obtain ⟨rn, rw_, rf, ra, rt⟩ := r
      simp only at h2
      have Hv := Lib.hid hv
      have Hsc := Lib.hid hsc
      clear hv hsc
      go_wp2_with (first | (go_at_call 189; refine (rNext (hb.ext (own.ext.trans (by repeat with_reducible (first | exact Ext.refl _ | refine Ext.alloc ?_ _ | refine Ext.drew ?_ | refine Ext.drewN ?_ _ | refine Ext.setCell ?_ (by first | omega | (simp <;> omega)) _)))) (by omega) (by omega) Hv.out).mono ?_; rintro e w1 ⟨rfl, E1⟩; unfold recV; have X_ : Ext wr w1 := Ext.trans (by repeat with_reducible (first | exact Ext.refl _ | refine Ext.alloc ?_ _ | refine Ext.drew ?_ | refine Ext.drewN ?_ _ | refine Ext.setCell ?_ (by first | omega | (simp <;> omega)) _)) E1; replace own := own.up X_; have hE := X_; clear X_))
      go_region_law ((refine step_oneN (cs := recC ⟨rn, rw_, rf, ra, rt⟩) elemRec rfl (.tmp 23) (.tmp 25) rfl rfl (own.up (by repeat with_reducible (first | exact Ext.refl _ | refine Ext.alloc ?_ _ | refine Ext.drew ?_ | refine Ext.drewN ?_ _ | refine Ext.setCell ?_ (by first | omega | (simp <;> omega)) _))) rfl (by first | rfl | simp) rfl (recC_one _) (by omega) (by unfold maxLen; omega) ?_; intro A4 c4 w4 own4 g4; have k4 : w4.cell? ⟨w1.heap.size, 4, none⟩ = some (.int .i64 (rt : Int)) := (grown_cell own g4 (Nat.le_refl _) (by simp <;> omega)).trans (by simp)))
      all_goals
       go_simp
       go_wp2
       go_roundw
       case rel =>
        refine ⟨rt, A4, c4, l ++ [⟨rn, rw_, rf, ra, rt⟩], by omega, rfl, ret_len (by simp), by simpa using own4, by simp; omega, ?_⟩
        have e := hA.out
        rw [Hsc.out, pre_pre] at e
        exact e
       case measure => simp [intOf]; omega
    · have q : ((C : Int) != 0) = true := by simp; omega
      have fin := scan_fail (to := Rec.t) (show p < n by omega) hv hC
      have hA' := hA.out
      rw [fin, pre_fail _ hC] at hA'
      have Hf := Lib.hid hA'
      have Hv := Lib.hid hv
      clear hA' fin hv
      go_wp2_with (first | (go_at_call 189; refine (rNext (hb.ext (own.ext.trans (by repeat with_reducible (first | exact Ext.refl _ | refine Ext.alloc ?_ _ | refine Ext.drew ?_ | refine Ext.drewN ?_ _ | refine Ext.setCell ?_ (by first | omega | (simp <;> omega)) _)))) (by omega) (by omega) Hv.out).mono ?_; rintro e w1 ⟨rfl, E1⟩; unfold recV; have X_ : Ext wr w1 := Ext.trans (by repeat with_reducible (first | exact Ext.refl _ | refine Ext.alloc ?_ _ | refine Ext.drew ?_ | refine Ext.drewN ?_ _ | refine Ext.setCell ?_ (by first | omega | (simp <;> omega)) _)) E1; replace own := own.up X_; have hE := X_; clear X_))
      go_ret3
      rw [Hf.out]
      exact ⟨none, 0, rfl, Own.nil (own.ext.trans (by repeat with_reducible (first | exact Ext.refl _ | refine Ext.alloc ?_ _ | refine Ext.drew ?_ | refine Ext.drewN ?_ _ | refine Ext.setCell ?_ (by first | omega | (simp <;> omega)) _))) 159 5⟩
  · have hA' := hA.out
    rw [scan_end (by omega), pre_end] at hA'
    have Hf := Lib.hid hA'
    clear hA'
    go_wp2
    go_ret3
    rw [Hf.out]
    exact ⟨A2, c2, rfl, own⟩

theorem rSplitE {A : Option Addr} {n c : Nat} {bs : List UInt8} {w : World} {l : List Rec} {p C : Nat} (hb : BytesAt w A n c bs) (hn : n ≤ 1000000000) (h : splitV bs = (l, p, C)) :
  Calls Tryz.prog 198 #[.slice A n c] w fun e w' => ∃ A' c', e = .returned (.tuple #[.slice A' l.length c', .int .i64 (p : Int), .int .u8 (C : Int)]) ∧ Own w w' 159 5 A' l.length c' (l.flatMap recC) := by
 have := rSplit hb hn
 rw [h] at this
 exact this

end Go.Proofs.YtnnphodgegcddaaGreat

/- Contracts of layer 5: putting records. -/
namespace Go.Proofs.YtnnphodgegcddaaGreat
open Go.RowKit
set_option linter.unusedVariables false

def fitsV (wire : Int) (v : List UInt8) : Bool := decide ((wire = 0 ∧ (readV v).2.2 = 0 ∧ (readV v).2.1 = v.length) ∨ (wire = 1 ∧ v.length = 8) ∨ (wire = 5 ∧ v.length = 4) ∨ wire = 2)

theorem rFits {A : Option Addr} {n c : Nat} {bs : List UInt8} {w : World} {wire : Int} (hb : BytesAt w A n c bs) :
  Calls Tryz.prog 146 #[.int .i64 wire, .slice A n c] w fun e w' => e = .returned (.bool (fitsV wire bs)) ∧ w = w' := by
 have hl := hb.length
 rcases hv : readV bs with ⟨W, N, K⟩
 have hbd := readV_bd bs
 rw [hv] at hbd
 simp only at hbd
 have h2 := hbd.2.2.1
 have h4 := hbd.2.2.2.1
 clear hbd
 have hf : fitsV wire bs = decide ((wire = 0 ∧ K = 0 ∧ N = n) ∨ (wire = 1 ∧ n = 8) ∨ (wire = 5 ∧ n = 4) ∨ wire = 2) := by unfold fitsV; rw [hv, hl]
 rw [hf]
 clear hf hl
 have Hv := Lib.hid hv
 clear hv
 by_cases e0 : wire = 0
 · subst e0
   by_cases hK : K = 0
   · subst hK
     go_enter Tryz.func146, Tryz.ntmps146
     go_wp2_with (go_at_call 186; refine (vSkip hb Hv.out).mono ?_; rintro e w' ⟨rfl, rfl⟩)
     go_ret
     exact ⟨ret_bool (by rw [Bool.eq_iff_iff]; simp; omega), rfl⟩
   · have q : ((K : Int) == 0) = false := by simp; omega
     go_enter Tryz.func146, Tryz.ntmps146
     go_wp2_with (go_at_call 186; refine (vSkip hb Hv.out).mono ?_; rintro e w' ⟨rfl, rfl⟩)
     go_ret
     exact ⟨ret_bool (by rw [Bool.eq_iff_iff]; simp [hK]), rfl⟩
 · by_cases e1 : wire = 1
   · subst e1
     go_enter Tryz.func146, Tryz.ntmps146
     go_wp2
     go_ret
     exact ⟨ret_bool (by rw [Bool.eq_iff_iff]; simp; try omega), rfl⟩
   · by_cases e5 : wire = 5
     · subst e5
       go_enter Tryz.func146, Tryz.ntmps146
       go_wp2
       go_ret
       exact ⟨ret_bool (by rw [Bool.eq_iff_iff]; simp; try omega), rfl⟩
     · have q0 : (wire == 0) = false := by simp; omega
       have q1 : (wire == 1) = false := by simp; omega
       have q5 : (wire == 5) = false := by simp; omega
       have hd : decide ((wire = 0 ∧ K = 0 ∧ N = n) ∨ (wire = 1 ∧ n = 8) ∨ (wire = 5 ∧ n = 4) ∨ wire = 2) = decide (wire = 2) := by simp [e0, e1, e5]
       rw [hd]
       clear e0 e1 e5 hd
       go_enter Tryz.func146, Tryz.ntmps146
       go_wp2
       go_ret
       exact ⟨ret_bool (by rw [Bool.eq_iff_iff]; simp), rfl⟩

def putB (number wire : Int) (v : List UInt8) : List UInt8 := tagB number wire ++ ((if wire = 2 then Lib.uvarint v.length else []) ++ v)

theorem putB_length {number wire : Int} (h : rightB number wire = true) {v : List UInt8} (hv : v.length ≤ 100000000000) : (putB number wire v).length ≤ v.length + 15 := by
 have h1 := tagB_length h
 have h2 := Lib.uvarint_length64 (x := v.length) (by omega)
 unfold putB
 rw [List.length_append, List.length_append]
 split
 · omega
 · simp; omega

theorem rPut_no {A B : Option Addr} {n c m d : Nat} {bs vs : List UInt8} {number wire : Int} {w : World} (hb : BytesAt w A n c bs) (hn : n ≤ 1000000000) (hv : BytesAt w B m d vs) (h : (rightB number wire && fitsV wire vs) = false) :
  Calls Tryz.prog 91 #[.slice A n c, .int .i64 number, .int .i64 wire, .slice B m d] w fun e w' => e = .returned (.tuple #[.slice none 0 0, .int .u8 2]) ∧ Ext w w' := by
 rcases hr : rightB number wire with _ | _
 · go_enter Tryz.func91, Tryz.ntmps91
   go_wp2_with (go_at_call 145; refine (tPut_no hr).mono ?_; rintro e w1 ⟨rfl, E1⟩; have X_ : Ext w w1 := Ext.trans (by repeat with_reducible (first | exact Ext.refl _ | refine Ext.alloc ?_ _ | refine Ext.drew ?_ | refine Ext.drewN ?_ _ | refine Ext.setCell ?_ (by first | omega | (simp <;> omega)) _)) E1; have hE := X_; clear X_)
   go_ret2
   exact ⟨rfl, hE⟩
 · rw [hr, Bool.true_and] at h
   go_enter Tryz.func91, Tryz.ntmps91
   go_wp2_with (first | (go_at_call 145; refine (tPut hb hn hr).mono ?_; rintro e w1 ⟨A1, c1, rfl, own1⟩; have X_ : Ext w w1 := Ext.trans (by repeat with_reducible (first | exact Ext.refl _ | refine Ext.alloc ?_ _ | refine Ext.drew ?_ | refine Ext.drewN ?_ _ | refine Ext.setCell ?_ (by first | omega | (simp <;> omega)) _)) own1.ext; replace hv := hv.up X_; have hE := X_; clear X_) | (go_at_call 146; refine (rFits hv).mono ?_; rintro e w' ⟨rfl, rfl⟩))
   go_ret2
   exact ⟨rfl, hE⟩

theorem rPut {A B : Option Addr} {n c m d : Nat} {bs vs : List UInt8} {number wire : Int} {w : World} (hb : BytesAt w A n c bs) (hn : n ≤ 1000000000) (hv : BytesAt w B m d vs) (hm : m ≤ 1000000000) (h : (rightB number wire && fitsV wire vs) = true) :
  Calls Tryz.prog 91 #[.slice A n c, .int .i64 number, .int .i64 wire, .slice B m d] w fun e w' => ∃ A' c', e = .returned (.tuple #[.slice A' (n + (putB number wire vs).length) c', .int .u8 0]) ∧ Own w w' 5 1 A' (n + (putB number wire vs).length) c' ((bs ++ putB number wire vs).map bv) := by
 rw [Bool.and_eq_true] at h
 obtain ⟨hr, hf⟩ := h
 have hl := hv.length
 have htl := tagB_length hr
 have hul := Lib.uvarint_length64 (x := m) (by omega)
 by_cases e2 : wire = 2
 · subst e2
   have hp : putB number 2 vs = tagB number 2 ++ (Lib.uvarint m ++ vs) := by unfold putB; rw [if_pos rfl, hl]
   have hpl : (putB number 2 vs).length = (tagB number 2).length + (Lib.uvarint m).length + m := by rw [hp]; simp [hl]; omega
   have Hp := Lib.hid hp
   have Hpl := Lib.hid hpl
   clear hp hpl hl
   go_enter Tryz.func91, Tryz.ntmps91
   go_wp2_with (first | (go_at_call 145; refine (tPut hb hn hr).mono ?_; rintro e w1 ⟨A1, c1, rfl, own1⟩; have X_ : Ext w w1 := Ext.trans (by repeat with_reducible (first | exact Ext.refl _ | refine Ext.alloc ?_ _ | refine Ext.drew ?_ | refine Ext.drewN ?_ _ | refine Ext.setCell ?_ (by first | omega | (simp <;> omega)) _)) own1.ext; replace hv := hv.up X_; have hE := X_; clear X_) | (go_at_call 146; refine (rFits hv).mono ?_; rintro e w' ⟨rfl, rfl⟩) | (go_at_call 65; refine (vPut own1.bytes (by omega) (by omega) (by omega)).mono ?_; rintro e w2 ⟨A2, c2, rfl, own2⟩; have X_ : Ext w1 w2 := Ext.trans (by repeat with_reducible (first | exact Ext.refl _ | refine Ext.alloc ?_ _ | refine Ext.drew ?_ | refine Ext.drewN ?_ _ | refine Ext.setCell ?_ (by first | omega | (simp <;> omega)) _)) own2.ext; replace hv := hv.up X_; clear X_; rw [Int.toNat_natCast] at own2) | (at_builtin; refine wpList_more elemB rfl (.tmp 35) (.tmp 36) rfl rfl (own2.since own1.ext) rfl hv (bv_one _) (by omega) (by unfold maxLen; omega) ?_; intro A3 c3 w3 own3 _))
   go_ret2
   rw [Hpl.out, Hp.out]
   exact ⟨A3, c3, by simp [Nat.add_assoc], by simpa [Nat.add_assoc] using own3⟩
 · have q : (wire == 2) = false := by simp; omega
   have hp : putB number wire vs = tagB number wire ++ vs := by unfold putB; rw [if_neg e2]; rfl
   have hpl : (putB number wire vs).length = (tagB number wire).length + m := by rw [hp]; simp [hl]
   have Hp := Lib.hid hp
   have Hpl := Lib.hid hpl
   clear hp hpl hl e2
   go_enter Tryz.func91, Tryz.ntmps91
   go_wp2_with (first | (go_at_call 145; refine (tPut hb hn hr).mono ?_; rintro e w1 ⟨A1, c1, rfl, own1⟩; have X_ : Ext w w1 := Ext.trans (by repeat with_reducible (first | exact Ext.refl _ | refine Ext.alloc ?_ _ | refine Ext.drew ?_ | refine Ext.drewN ?_ _ | refine Ext.setCell ?_ (by first | omega | (simp <;> omega)) _)) own1.ext; replace hv := hv.up X_; have hE := X_; clear X_) | (go_at_call 146; refine (rFits hv).mono ?_; rintro e w' ⟨rfl, rfl⟩) | (at_builtin; refine wpList_more elemB rfl (.tmp 35) (.tmp 36) rfl rfl own1 rfl hv (bv_one _) (by omega) (by unfold maxLen; omega) ?_; intro A3 c3 w3 own3 _))
   go_ret2
   rw [Hpl.out, Hp.out]
   exact ⟨A3, c3, by simp [Nat.add_assoc], by simpa [Nat.add_assoc] using own3⟩

def lenB (number : Int) (v : List UInt8) : List UInt8 := if rightB number 2 = true then putB number 2 v else []

theorem fits_2 (v : List UInt8) : fitsV 2 v = true := by unfold fitsV; simp

theorem rLen {A B : Option Addr} {n c m d : Nat} {bs vs : List UInt8} {number : Int} {w : World} (hb : BytesAt w A n c bs) (hn : n ≤ 1000000000) (hv : BytesAt w B m d vs) (hm : m ≤ 1000000000) :
  Calls Tryz.prog 89 #[.slice A n c, .int .i64 number, .slice B m d] w fun e w' => ∃ A' c', e = .returned (.slice A' (n + (lenB number vs).length) c') ∧ Own w w' 5 1 A' (n + (lenB number vs).length) c' ((bs ++ lenB number vs).map bv) := by
 rcases hr : rightB number 2 with _ | _
 · have hlb : lenB number vs = [] := by unfold lenB; rw [hr]; rfl
   rw [hlb]
   clear hlb
   go_enter Tryz.func89, Tryz.ntmps89
   go_wp2_with (first | (go_at_call 91; refine (rPut_no hb hn hv (by rw [hr]; rfl)).mono ?_; rintro e w1 ⟨rfl, E1⟩; have X_ : Ext w w1 := Ext.trans (by repeat with_reducible (first | exact Ext.refl _ | refine Ext.alloc ?_ _ | refine Ext.drew ?_ | refine Ext.drewN ?_ _ | refine Ext.setCell ?_ (by first | omega | (simp <;> omega)) _)) E1; replace hb := hb.up X_; have hE := X_; clear X_) | (go_at_call 124; refine (clone hb (by omega)).mono ?_; rintro e w2 ⟨A2, c2, rfl, own2⟩; have X_ : Ext w1 w2 := Ext.trans (by repeat with_reducible (first | exact Ext.refl _ | refine Ext.alloc ?_ _ | refine Ext.drew ?_ | refine Ext.drewN ?_ _ | refine Ext.setCell ?_ (by first | omega | (simp <;> omega)) _)) own2.ext; clear X_))
   go_ret
   exact ⟨A2, c2, rfl, by simpa using own2.since hE⟩
 · have hlb : lenB number vs = putB number 2 vs := by unfold lenB; rw [hr]; rfl
   rw [hlb]
   clear hlb
   go_enter Tryz.func89, Tryz.ntmps89
   go_wp2_with (go_at_call 91; refine (rPut hb hn hv hm (by rw [hr, fits_2]; rfl)).mono ?_; rintro e w' ⟨A1, c1, rfl, own1⟩)
   go_ret
   exact ⟨A1, c1, rfl, own1⟩

end Go.Proofs.YtnnphodgegcddaaGreat

/- Plain laws of layer 5: a record put alone; records lie without a gap. -/
namespace Go.Proofs.YtnnphodgegcddaaGreat
open Go.RowKit Go.Lib
set_option linter.unusedVariables false

theorem tagV_putB {T V : Nat} (h : rightB (T : Int) (V : Int) = true) (more : List UInt8) : tagV (tagB (T : Int) (V : Int) ++ more) = (T, V, (tagB (T : Int) (V : Int)).length, 0) := by
 obtain ⟨h1, h2, h3, h4⟩ := right_bd h
 have e : (8 * (T : Int) + (V : Int)).toNat = 8 * T + V := by omega
 have hv : readV (tagB (T : Int) (V : Int) ++ more) = (8 * T + V, (tagB (T : Int) (V : Int)).length, 0) := by
  unfold tagB; rw [e]; exact readV_uvarint _ _ (by omega)
 have e1 : (8 * T + V) / 8 = T := by omega
 have e2 : (8 * T + V) % 8 = V := by omega
 have := tagV_of hv (by rw [e1, e2]; exact h)
 rwa [e1, e2] at this

def Linked : Nat → List Rec → Nat → Prop
 | p, [], q => p = q
 | p, r :: l, q => r.f = p ∧ Linked r.t l q

theorem scan_linked (bs : List UInt8) : ∀ (m p : Nat), bs.length - p ≤ m → p ≤ bs.length → (scan (nextV bs) Rec.t bs.length p).2.2 = 0 → Linked p (scan (nextV bs) Rec.t bs.length p).1 bs.length := by
 intro m
 induction m with
 | zero =>
   intro p hm hp h0
   rw [scan_end (by omega)]
   show p = bs.length
   omega
 | succ m ih =>
   intro p hm hp h0
   by_cases he : p = bs.length
   · rw [scan_end (by omega)]; exact he
   · rcases hs : nextV bs p with ⟨r, C⟩
     have hlt : p < bs.length := by omega
     by_cases hC : C = 0
     · subst hC
       have h1 := nextV_ok hs
       have hok := scan_ok (nextV_onward bs) hlt hs
       rw [hok] at h0 ⊢
       unfold pre at h0 ⊢
       by_cases h : (scan (nextV bs) Rec.t bs.length r.t).2.2 = 0
       · rw [if_pos h]
         exact ⟨h1.2.1, ih r.t (by omega) (by omega) h⟩
       · rw [if_neg h] at h0
         exact absurd h0 h
     · rw [scan_fail hlt hs hC] at h0
       exact absurd h0 hC

theorem splitV_each (bs : List UInt8) : ∀ r ∈ (splitV bs).1, nextV bs r.f = (r, 0) :=
 scan_all (nextV_onward bs) (fun p x hp h => by rw [(nextV_ok h).2.1]; exact h) bs.length 0 (by omega)

def spanB (bs : List UInt8) (a t : Nat) : List UInt8 := (bs.take t).drop a

theorem spanB_length (bs : List UInt8) {a t : Nat} (h : t ≤ bs.length) : (spanB bs a t).length = t - a := by unfold spanB; rw [List.length_drop, List.length_take]; omega

theorem splitV_one {c : List UInt8} {T V a : Nat} (h : headV c = (T, V, a, c.length, 0)) : splitV c = ([⟨T, V, 0, a, c.length⟩], 0, 0) := by
 have hb := headV_bd h
 have hn : nextV c 0 = (⟨T, V, 0, a, c.length⟩, 0) := by unfold nextV; rw [List.drop_zero, h]; simp [shiftR]
 unfold splitV
 rw [scan_ok (nextV_onward c) (by omega) hn, scan_end (Nat.le_refl _), pre_end]

end Go.Proofs.YtnnphodgegcddaaGreat

/- Contracts of layer 5: a record's bytes. -/
namespace Go.Proofs.YtnnphodgegcddaaGreat
open Go.RowKit
set_option linter.unusedVariables false

theorem spanB_at {w : World} {A : Option Addr} {n c : Nat} {bs : List UInt8} (hb : BytesAt w A n c bs) {l m : Nat} (hl : l ≤ m) (hm : m ≤ n) :
  ∃ A', (∀ W : World, (Instr.slice 24 (.slice A n c) (some (.int .i64 (l : Int))) (some (.int .i64 (m : Int))) none).run Tryz.prog W = .ok (.slice A' (m - l) (c - l)) W) ∧ BytesAt w A' (m - l) (c - l) (spanB bs l m) := by
 obtain ⟨A', h1, h2⟩ := cut_both elemB hb .i64 .i64 hl hm
 exact ⟨A', h1, by simpa [BytesAt, spanB, List.map_drop, List.map_take] using h2⟩

theorem rSpan {A : Option Addr} {n c a t : Nat} {bs : List UInt8} {w : World} (hb : BytesAt w A n c bs) (hn : n ≤ 1000000000) (ha : a ≤ t) (ht : t ≤ n) :
  Calls Tryz.prog 155 #[.slice A n c, .int .i64 (a : Int), .int .i64 (t : Int)] w fun e w' => ∃ A' c', e = .returned (.slice A' (t - a) c') ∧ Own w w' 5 1 A' (t - a) c' ((spanB bs a t).map bv) := by
 obtain ⟨A2, hcut, hb2⟩ := spanB_at hb ha ht
 have h0 : ¬ (a : Int) < 0 := by omega
 have h1 : ¬ (t : Int) < a := by omega
 have h2 : ¬ (n : Int) < t := by omega
 go_enter Tryz.func155, Tryz.ntmps155
 go_wp2_with (go_at_call 124; refine (clone hb2 (by omega)).mono ?_; rintro e w' ⟨A3, c3, rfl, own3⟩)
 go_ret
 exact ⟨A3, c3, rfl, own3⟩

theorem rWhole {A : Option Addr} {n c : Nat} {bs : List UInt8} {w : World} {r : Rec} (hb : BytesAt w A n c bs) (hn : n ≤ 1000000000) (ha : r.f ≤ r.t) (ht : r.t ≤ n) :
  Calls Tryz.prog 103 #[.slice A n c, recV r] w fun e w' => ∃ A' c', e = .returned (.slice A' (r.t - r.f) c') ∧ Own w w' 5 1 A' (r.t - r.f) c' ((spanB bs r.f r.t).map bv) := by
 unfold recV
 go_enter Tryz.func103, Tryz.ntmps103
 go_wp2_with (go_at_call 155; refine (rSpan (hb.up (by repeat with_reducible (first | exact Ext.refl _ | refine Ext.alloc ?_ _ | refine Ext.drew ?_ | refine Ext.drewN ?_ _ | refine Ext.setCell ?_ (by first | omega | (simp <;> omega)) _))) hn ha ht).mono ?_; rintro e w' ⟨A3, c3, rfl, own3⟩)
 go_ret
 exact ⟨A3, c3, rfl, own3.since (by repeat with_reducible (first | exact Ext.refl _ | refine Ext.alloc ?_ _ | refine Ext.drew ?_ | refine Ext.drewN ?_ _ | refine Ext.setCell ?_ (by first | omega | (simp <;> omega)) _))⟩

end Go.Proofs.YtnnphodgegcddaaGreat
