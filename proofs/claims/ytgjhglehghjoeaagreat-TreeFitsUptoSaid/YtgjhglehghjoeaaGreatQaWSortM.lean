/- Contracts of Go's stable sort of whole numbers: merging in place. -/
import Derived.Test.YtgjhglehghjoeaaGreatQaWSort

namespace Go.Proofs.YtgjhglehghjoeaaGreat
open Go.RowKit
set_option linter.unusedVariables false

set_option maxRecDepth 100000 in
set_option maxHeartbeats 2000000 in
theorem zMerge1 {w0 wS w : World} {g n c a b N : Nat} {xs : List Nat} {key : Nat → Int} {gf : FuncId} {lb : Array Value} (eg : ∀ args w, (callFunc gf args).run Tryz.prog w = .ok (.enter gf args) w) (hcmp : CmpF gf lb key N g wS)
    (own : Own w0 w 3 1 (some ⟨g, 0, none⟩) n c (xs.map iv)) (hS : Only g wS w) (hx : ∀ u, u < n → atL xs u < N) (hp : MgP key xs a (a + 1) b) (hb : b ≤ n) (hn : n ≤ 1000000000000) :
    Calls Tryz.prog 223 #[.slice (some ⟨g, 0, none⟩) n c, .int .i64 (a : Int), .int .i64 ((a + 1 : Nat) : Int), .int .i64 (b : Int), .func (.func gf) #[] lb] w fun e w' => e = .returned (.tuple #[]) ∧ ∃ ys, MgD key xs ys a b ∧ Own w0 w' 3 1 (some ⟨g, 0, none⟩) n c (ys.map iv) ∧ Only g w w' := by
  have hxl := own.numL
  have hmb := hp.mb
  have Hx := Lib.hid hx
  have Hcmp := Lib.hid hcmp
  have Hp := Lib.hid hp
  have q1 : (a : Int) + 1 - a = 1 := by omega
  clear hx hcmp hp
  go_enter Tryz.func223, Tryz.ntmps223
  go_wp2
  go_loopw [10, 11] (fun u v wr => ∃ (i j : Nat), a + 1 ≤ i ∧ i ≤ j ∧ j ≤ b ∧ u = .int .i64 i ∧ v = .int .i64 j ∧ Hid (∀ q, a + 1 ≤ q → q < i → key (atL xs q) < key (atL xs a)) ∧ Hid (∀ q, j ≤ q → q < b → ¬ key (atL xs q) < key (atL xs a)) ∧ Ext w wr) (fun u v _ => (intOf v).toNat - (intOf u).toNat)
  case atStart => exact ⟨a + 1, b, by omega, by omega, by omega, by go_num, rfl, fun q h1 h2 => by omega, fun q h1 h2 => by omega, Ext.refl w⟩
  case round =>
    obtain ⟨i, j, hi, hij, hjb, rfl, rfl, hL, hU, hE⟩ := hrel
    by_cases hlt : i < j
    · have hltI : (i : Int) < j := by omega
      obtain ⟨h, hh⟩ : ∃ h, h = (i + j) / 2 := ⟨_, rfl⟩
      have hhI : ((i : Int) + j) / 2 = (h : Int) := by omega
      have hih : i ≤ h := by omega
      have hhj : h < j := by omega
      have z1 : (h : Int) < n := by omega
      have z2 : (a : Int) < n := by omega
      have z3 : (0 : Int) ≤ h := by omega
      have z4 : (0 : Int) ≤ a := by omega
      have ownR := own.up hE
      have c1 := ownR.numAt (k := h) (by omega)
      have c2 := ownR.numAt (k := a) (by omega)
      have hc := fun W h' => Hcmp.out W (atL xs h) (atL xs a) h' (Hx.out h (by omega)) (Hx.out a (by omega))
      have hS' := hS.ext hE
      have hlq : g < wr.heap.size := ownR.base.2
      clear hh
      by_cases hk : key (atL xs h) < key (atL xs a)
      · rw [cmpI_lt hk] at hc
        have Hc := Lib.hid hc
        have Hk := Lib.hid hk
        clear hc hk
        go_wp2_with fail
        go_region_held3 (fun W => Ext wr W ∧ ∀ b o, b < wr.heap.size → W.cell? ⟨b, o, none⟩ = wr.cell? ⟨b, o, none⟩) ((refine Ext.keep ?_; repeat with_reducible (first | assumption | exact Ext.refl _ | refine Ext.alloc ?_ _ | refine Ext.drew ?_ | refine Ext.drewN ?_ _ | refine Ext.setCell ?_ (by first | exact Nat.le_refl _ | omega | (simp; done) | (simp; omega)) _))) (first | (go_split_ands; go_at_fn gf; refine (Hc.out _ (hS'.ext (by with_reducible assumption))).mono ?_; rintro e w1 ⟨rfl, E1⟩; have q0 : Ext wr w1 := Ext.trans (by with_reducible assumption) E1))
        rename Ext wr w1 ∧ _ => hh
        clear hh c1 c2
        go_wp2
        go_roundw
        case rel =>
          refine ⟨h + 1, by omega, j, by omega, hjb, by omega, rfl, fun q h1 h2 => ?_, hU, hE.trans q0⟩
          have := srt_key Hp.out.right (u := q) (v := h) h1 (by omega) (by omega)
          have := Hk.out
          omega
        case measure => simp [intOf]; omega
      · have hr := cmpI_ge hk
        generalize cmpI (key (atL xs h)) (key (atL xs a)) = r at hc hr
        have hrd : decide (r < 0) = false := decide_eq_false hr
        have Hc := Lib.hid hc
        have Hk := Lib.hid hk
        clear hc hk hr
        go_wp2_with fail
        go_region_held3 (fun W => Ext wr W ∧ ∀ b o, b < wr.heap.size → W.cell? ⟨b, o, none⟩ = wr.cell? ⟨b, o, none⟩) ((refine Ext.keep ?_; repeat with_reducible (first | assumption | exact Ext.refl _ | refine Ext.alloc ?_ _ | refine Ext.drew ?_ | refine Ext.drewN ?_ _ | refine Ext.setCell ?_ (by first | exact Nat.le_refl _ | omega | (simp; done) | (simp; omega)) _))) (first | (go_split_ands; go_at_fn gf; refine (Hc.out _ (hS'.ext (by with_reducible assumption))).mono ?_; rintro e w1 ⟨rfl, E1⟩; have q0 : Ext wr w1 := Ext.trans (by with_reducible assumption) E1))
        rename Ext wr w1 ∧ _ => hh
        clear hh c1 c2
        go_wp2
        go_roundw
        case rel =>
          refine ⟨i, by omega, h, by omega, by omega, rfl, rfl, hL, fun q h1 h2 => ?_, hE.trans q0⟩
          have := srt_key Hp.out.right (u := h) (v := q) (by omega) h1 h2
          have := Hk.out
          omega
        case measure => simp [intOf]; omega
    · obtain rfl : i = j := by omega
      obtain ⟨i0, rfl⟩ : ∃ i0, i = i0 + 1 := ⟨i - 1, by omega⟩
      have z0 : (i0 : Int) + 1 - 1 = i0 := by omega
      go_wp2
      go_loopw [13] (fun v wq => ∃ (k : Nat) (zs : List Nat), a ≤ k ∧ k ≤ i0 ∧ v = .int .i64 k ∧ Hid (ShL xs zs a k) ∧ Own w0 wq 3 1 (some ⟨g, 0, none⟩) n c (zs.map iv) ∧ Only g w wq) (fun v _ => i0 - (intOf v).toNat)
      case atStart => exact ⟨a, xs, by omega, by omega, rfl, ShL.start xs a, own.up hE, (Only.refl g w).ext hE⟩
      case round =>
        obtain ⟨k, zs, hak, hki, rfl, hZ, ownZ, hO⟩ := hrel
        rename World => wq
        by_cases hlt2 : k < i0
        · have hlt2I : (k : Int) < i0 := by omega
          have c1 := ownZ.numAt (k := k + 1) (by omega)
          have c2 := ownZ.numAt (k := k) (by omega)
          have f1 := ownZ.free (k + 1)
          have f2 := ownZ.free k
          have z1 : (k : Int) < n := by omega
          have z2 : (k : Int) + 1 < n := by omega
          have z3 : ((k : Int) + 1).toNat = k + 1 := by omega
          go_wp2
          go_region
          go_wp2
          go_roundw
          case rel => exact ⟨k + 1, _, by omega, by omega, by go_num, hZ.out.step hak (by omega), (ownZ.swapN k (k + 1)).drew, ((hO.set _ _).set _ _).ext (Ext.refl _).drew⟩
          case measure => simp [intOf]; omega
        · obtain rfl : k = i0 := by omega
          go_wp2
          ((try simp only [Exit.inBlock, Exit.then]); refine bodyPost_ret (results_none rfl _ _ _) rfl ?_)
          refine ⟨rfl, zs, ShL.merged Hp.out (i := k + 1) (by omega) (by omega) (by simpa using hZ.out) hL.out (fun u h1 h2 => by have := hU.out u h1 h2; omega), ownZ, hO⟩

set_option maxRecDepth 100000 in
set_option maxHeartbeats 2000000 in
theorem zMerge2 {w0 wS w : World} {g n c a m N : Nat} {xs : List Nat} {key : Nat → Int} {gf : FuncId} {lb : Array Value} (eg : ∀ args w, (callFunc gf args).run Tryz.prog w = .ok (.enter gf args) w) (hcmp : CmpF gf lb key N g wS)
    (own : Own w0 w 3 1 (some ⟨g, 0, none⟩) n c (xs.map iv)) (hS : Only g wS w) (hx : ∀ u, u < n → atL xs u < N) (hp : MgP key xs a m (m + 1)) (h1 : a + 1 < m) (hb : m + 1 ≤ n) (hn : n ≤ 1000000000000) :
    Calls Tryz.prog 223 #[.slice (some ⟨g, 0, none⟩) n c, .int .i64 (a : Int), .int .i64 (m : Int), .int .i64 ((m + 1 : Nat) : Int), .func (.func gf) #[] lb] w fun e w' => e = .returned (.tuple #[]) ∧ ∃ ys, MgD key xs ys a (m + 1) ∧ Own w0 w' 3 1 (some ⟨g, 0, none⟩) n c (ys.map iv) ∧ Only g w w' := by
  have hxl := own.numL
  have Hx := Lib.hid hx
  have Hcmp := Lib.hid hcmp
  have Hp := Lib.hid hp
  have q0 : (((m : Int) - a) == 1) = false := by rw [beq_eq_false_iff_ne]; omega
  have q1 : (m : Int) + 1 - m = 1 := by omega
  clear hx hcmp hp
  go_enter Tryz.func223, Tryz.ntmps223
  go_wp2
  go_loopw [14, 15] (fun u v wr => ∃ (i j : Nat), a ≤ i ∧ i ≤ j ∧ j ≤ m ∧ u = .int .i64 i ∧ v = .int .i64 j ∧ Hid (∀ q, a ≤ q → q < i → ¬ key (atL xs m) < key (atL xs q)) ∧ Hid (∀ q, j ≤ q → q < m → key (atL xs m) < key (atL xs q)) ∧ Ext w wr) (fun u v _ => (intOf v).toNat - (intOf u).toNat)
  case atStart => exact ⟨a, m, by omega, by omega, by omega, rfl, rfl, fun q h1 h2 => by omega, fun q h1 h2 => by omega, Ext.refl w⟩
  case round =>
    obtain ⟨i, j, hi, hij, hjb, rfl, rfl, hL, hU, hE⟩ := hrel
    by_cases hlt : i < j
    · have hltI : (i : Int) < j := by omega
      obtain ⟨h, hh⟩ : ∃ h, h = (i + j) / 2 := ⟨_, rfl⟩
      have hhI : ((i : Int) + j) / 2 = (h : Int) := by omega
      have hih : i ≤ h := by omega
      have hhj : h < j := by omega
      have z1 : (h : Int) < n := by omega
      have z2 : (m : Int) < n := by omega
      have z3 : (0 : Int) ≤ h := by omega
      have z4 : (0 : Int) ≤ m := by omega
      have ownR := own.up hE
      have c1 := ownR.numAt (k := h) (by omega)
      have c2 := ownR.numAt (k := m) (by omega)
      have hc := fun W h' => Hcmp.out W (atL xs m) (atL xs h) h' (Hx.out m (by omega)) (Hx.out h (by omega))
      have hS' := hS.ext hE
      have hlq : g < wr.heap.size := ownR.base.2
      clear hh
      by_cases hk : key (atL xs m) < key (atL xs h)
      · rw [cmpI_lt hk] at hc
        have Hc := Lib.hid hc
        have Hk := Lib.hid hk
        clear hc hk
        go_wp2_with fail
        go_region_held3 (fun W => Ext wr W ∧ ∀ b o, b < wr.heap.size → W.cell? ⟨b, o, none⟩ = wr.cell? ⟨b, o, none⟩) ((refine Ext.keep ?_; repeat with_reducible (first | assumption | exact Ext.refl _ | refine Ext.alloc ?_ _ | refine Ext.drew ?_ | refine Ext.drewN ?_ _ | refine Ext.setCell ?_ (by first | exact Nat.le_refl _ | omega | (simp; done) | (simp; omega)) _))) (first | (go_split_ands; go_at_fn gf; refine (Hc.out _ (hS'.ext (by with_reducible assumption))).mono ?_; rintro e w1 ⟨rfl, E1⟩; have q0 : Ext wr w1 := Ext.trans (by with_reducible assumption) E1))
        rename Ext wr w1 ∧ _ => hh
        clear hh c1 c2
        go_wp2
        go_roundw
        case rel =>
          refine ⟨i, by omega, h, by omega, by omega, rfl, rfl, hL, fun q h1 h2 => ?_, hE.trans q0⟩
          have := srt_key Hp.out.left (u := h) (v := q) (by omega) h1 h2
          have := Hk.out
          omega
        case measure => simp [intOf]; omega
      · have hr := cmpI_ge hk
        generalize cmpI (key (atL xs m)) (key (atL xs h)) = r at hc hr
        have hrd : decide (r < 0) = false := decide_eq_false hr
        have Hc := Lib.hid hc
        have Hk := Lib.hid hk
        clear hc hk hr
        go_wp2_with fail
        go_region_held3 (fun W => Ext wr W ∧ ∀ b o, b < wr.heap.size → W.cell? ⟨b, o, none⟩ = wr.cell? ⟨b, o, none⟩) ((refine Ext.keep ?_; repeat with_reducible (first | assumption | exact Ext.refl _ | refine Ext.alloc ?_ _ | refine Ext.drew ?_ | refine Ext.drewN ?_ _ | refine Ext.setCell ?_ (by first | exact Nat.le_refl _ | omega | (simp; done) | (simp; omega)) _))) (first | (go_split_ands; go_at_fn gf; refine (Hc.out _ (hS'.ext (by with_reducible assumption))).mono ?_; rintro e w1 ⟨rfl, E1⟩; have q0 : Ext wr w1 := Ext.trans (by with_reducible assumption) E1))
        rename Ext wr w1 ∧ _ => hh
        clear hh c1 c2
        go_wp2
        go_roundw
        case rel =>
          refine ⟨h + 1, by omega, j, by omega, hjb, by omega, rfl, fun q h1 h2 => ?_, hU, hE.trans q0⟩
          have := srt_key Hp.out.left (u := q) (v := h) h1 (by omega) (by omega)
          have := Hk.out
          omega
        case measure => simp [intOf]; omega
    · obtain rfl : i = j := by omega
      go_wp2
      go_loopw [17] (fun v wq => ∃ (k : Nat) (zs : List Nat), i ≤ k ∧ k ≤ m ∧ v = .int .i64 k ∧ Hid (ShR xs zs k m) ∧ Own w0 wq 3 1 (some ⟨g, 0, none⟩) n c (zs.map iv) ∧ Only g w wq) (fun v _ => (intOf v).toNat)
      case atStart => exact ⟨m, xs, by omega, by omega, rfl, ShR.start xs m, own.up hE, (Only.refl g w).ext hE⟩
      case round =>
        obtain ⟨k, zs, hak, hki, rfl, hZ, ownZ, hO⟩ := hrel
        rename World => wq
        by_cases hlt2 : i < k
        · obtain ⟨p, rfl⟩ : ∃ p, k = p + 1 := ⟨k - 1, by omega⟩
          have hlt2I : (i : Int) < p + 1 := by omega
          have c1 := ownZ.numAt (k := p + 1) (by omega)
          have c2 := ownZ.numAt (k := p) (by omega)
          have f1 := ownZ.free (p + 1)
          have f2 := ownZ.free p
          have z1 : (p : Int) < n := by omega
          have z2 : (p : Int) + 1 < n := by omega
          have z3 : ((p : Int) + 1).toNat = p + 1 := by omega
          go_wp2
          go_region
          go_wp2
          go_roundw
          case rel =>
            refine ⟨p, swapL zs (p + 1) p, by omega, by omega, rfl, ?_, (ownZ.swapN (p + 1) p).drew, ((hO.set _ _).set _ _).ext (Ext.refl _).drew⟩
            show ShR _ _ _ _
            have := hZ.out.step (by omega) (by omega) (by omega)
            simpa using this
          case measure => simp [intOf]
        · obtain rfl : k = i := by omega
          go_wp2
          ((try simp only [Exit.inBlock, Exit.then]); refine bodyPost_ret (results_none rfl _ _ _) rfl ?_)
          refine ⟨rfl, zs, ShR.merged Hp.out (i := k) (by omega) (by omega) hZ.out (fun u h1 h2 => by have := hL.out u h1 h2; omega) hU.out, ownZ, hO⟩

end Go.Proofs.YtgjhglehghjoeaaGreat
