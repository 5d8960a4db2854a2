/- Contracts of Go's stable sort of whole numbers, in place. -/
import Derived.Test.YtgjhglehghjoeaaGreatQaW6
import Derived.Test.YtgjhglehghjoeaaGreatQaSortB
import Derived.Test.YtgjhglehghjoeaaGreatQaW7

namespace Go.Proofs.YtgjhglehghjoeaaGreat
open Go.RowKit
set_option linter.unusedVariables false

section
variable {w0 w w' : World} {e : TypeId} {g n c : Nat} {ys : List Nat}

theorem Own.numL (h : Own w0 w e 1 (some ⟨g, 0, none⟩) n c (ys.map iv)) : ys.length = n := by have := h.reads.len; simpa using this

theorem Own.numAt (h : Own w0 w e 1 (some ⟨g, 0, none⟩) n c (ys.map iv)) {k : Nat} (hk : k < n) : w.cell? ⟨g, k, none⟩ = some (.int .i64 (atL ys k : Int)) := by
  obtain ⟨b, off, hA, _, hc⟩ := h.reads.at_ (by omega)
  cases hA
  have := hc k _ (by rw [List.getElem?_map, atL_eq (by have := h.numL; omega)]; rfl)
  simpa [iv] using this

theorem Own.free (h : Own w0 w e 1 (some ⟨g, 0, none⟩) n c (ys.map iv)) (k : Nat) : w.frozen? ⟨g, k, none⟩ = false := by
  rcases h.row.2 with ⟨hv, _⟩ | ⟨g', cap, cur, hv, _, hh, _⟩
  · cases hv
  · cases hv
    simp [World.frozen?, hh]

theorem Own.swapN (h : Own w0 w e 1 (some ⟨g, 0, none⟩) n c (ys.map iv)) (i j : Nat) :
    Own w0 ((w.setCell ⟨g, i, none⟩ (.int .i64 (atL ys j : Int))).setCell ⟨g, j, none⟩ (.int .i64 (atL ys i : Int))) e 1 (some ⟨g, 0, none⟩) n c ((swapL ys i j).map iv) := by
  have := (h.put i (.int .i64 (atL ys j : Int))).put j (.int .i64 (atL ys i : Int))
  unfold swapL
  rw [List.map_set, List.map_set]
  exact this
end

set_option maxRecDepth 100000 in
theorem zSwapRange {w0 w : World} {g n c a b m : Nat} {xs : List Nat} {f : Value} (own : Own w0 w 3 1 (some ⟨g, 0, none⟩) n c (xs.map iv)) (hab : a + m ≤ b) (hb : b + m ≤ n) (hn : n ≤ 1000000000000) :
    Calls Tryz.prog 226 #[.slice (some ⟨g, 0, none⟩) n c, .int .i64 (a : Int), .int .i64 (b : Int), .int .i64 (m : Int), f] w fun e w' => e = .returned (.tuple #[]) ∧ ∃ ys, SwR xs ys a b m m ∧ Own w0 w' 3 1 (some ⟨g, 0, none⟩) n c (ys.map iv) ∧ Only g w w' := by
  have hxl := own.numL
  go_enter Tryz.func226, Tryz.ntmps226
  go_wp2
  go_loopw [10] (fun i wr => ∃ (k : Nat) (ys : List Nat), k ≤ m ∧ i = .int .i64 k ∧ Hid (SwR xs ys a b m k) ∧ Own w0 wr 3 1 (some ⟨g, 0, none⟩) n c (ys.map iv) ∧ Only g w wr) (fun i _ => m - (intOf i).toNat)
  case atStart => exact ⟨0, xs, Nat.zero_le _, rfl, SwR.start xs a b m, own, Only.refl g w⟩
  case round =>
    obtain ⟨k, ys, hk, rfl, hS, ownY, hO⟩ := hrel
    by_cases hlt : k < m
    · have hltI : (k : Int) < m := by omega
      have c1 := ownY.numAt (k := a + k) (by omega)
      have c2 := ownY.numAt (k := b + k) (by omega)
      have f1 := ownY.free (a + k)
      have f2 := ownY.free (b + k)
      go_wp2
      go_region
      go_wp2
      go_roundw
      case rel =>
        refine ⟨k + 1, _, by omega, by go_num, hS.out.step hlt hab (by omega), (ownY.swapN (a + k) (b + k)).drew, ?_⟩
        exact ((hO.set _ _).set _ _).ext (Ext.refl _).drew
      case measure => simp [intOf]; omega
    · obtain rfl : k = m := by omega
      go_wp2
      go_end0
      exact ⟨rfl, ys, hS.out, ownY, hO⟩

set_option maxRecDepth 100000 in
theorem zRotate {w0 w : World} {g n c a m b : Nat} {xs : List Nat} {f : Value} (own : Own w0 w 3 1 (some ⟨g, 0, none⟩) n c (xs.map iv)) (ham : a < m) (hmb : m < b) (hb : b ≤ n) (hn : n ≤ 1000000000000) :
    Calls Tryz.prog 225 #[.slice (some ⟨g, 0, none⟩) n c, .int .i64 (a : Int), .int .i64 (m : Int), .int .i64 (b : Int), f] w fun e w' => e = .returned (.tuple #[]) ∧ ∃ ys, Rotd xs ys a m b ∧ Own w0 w' 3 1 (some ⟨g, 0, none⟩) n c (ys.map iv) ∧ Only g w w' := by
  have hxl := own.numL
  have h1 : IntKind.i64.wrap ((m : Int) - a) = ((m - a : Nat) : Int) := by rw [IntWalk.i64_in _ (by omega)]; omega
  have h2 : IntKind.i64.wrap ((b : Int) - m) = ((b - m : Nat) : Int) := by rw [IntWalk.i64_in _ (by omega)]; omega
  have k1 : (m : Int) - a = ((m - a : Nat) : Int) := by omega
  have k2 : (b : Int) - m = ((b - m : Nat) : Int) := by omega
  go_enter Tryz.func225, Tryz.ntmps225
  go_wp2
  go_loopw [10, 11] (fun u v wr => ∃ (i j : Nat) (ys : List Nat), 0 < i ∧ 0 < j ∧ u = .int .i64 i ∧ v = .int .i64 j ∧ Hid (Rot xs ys a m b i j) ∧ Own w0 wr 3 1 (some ⟨g, 0, none⟩) n c (ys.map iv) ∧ Only g w wr) (fun u v _ => (intOf u).toNat + (intOf v).toNat)
  case atStart => exact ⟨m - a, b - m, xs, by omega, by omega, by go_num, by go_num, Rot.start (by omega) (by omega), own, Only.refl g w⟩
  case round =>
    obtain ⟨i, j, ys, hi, hj, rfl, rfl, hR, ownY, hO⟩ := hrel
    have hbi := hR.out.bi
    have hbj := hR.out.bj
    have q1 : (m : Int) - i = ((m - i : Nat) : Int) := by omega
    rcases Nat.lt_trichotomy i j with hij | rfl | hij
    · have q2 : (m : Int) + j - i = ((m + j - i : Nat) : Int) := by omega
      have q3 : ((i : Int) != j) = true := by rw [bne_iff_ne]; omega
      have q4 : decide ((j : Int) < i) = false := decide_eq_false (by omega)
      have hc := zSwapRange (a := m - i) (b := m + j - i) (m := i) (f := f) ownY (by omega) (by omega) hn
      rw [← q1, ← q2] at hc
      have Hc := Lib.hid hc
      clear hc q1 q2
      go_wp2_with (go_at_call 226; refine Hc.out.mono ?_; rintro e w1 ⟨rfl, zs, hS, own1, O1⟩)
      go_roundw
      case rel => exact ⟨i, j - i, zs, by omega, by omega, by go_num, by go_num, hR.out.right hij hS, own1, hO.trans O1⟩
      case measure => simp [intOf]; omega
    · have q3 : ((i : Int) != i) = false := by simp
      have hc := zSwapRange (a := m - i) (b := m) (m := i) (f := f) ownY (by omega) (by omega) hn
      rw [← q1] at hc
      have Hc := Lib.hid hc
      clear hc q1
      go_wp2_with (go_at_call 226; refine Hc.out.mono ?_; rintro e w1 ⟨rfl, zs, hS, own1, O1⟩)
      go_end0
      exact ⟨rfl, zs, hR.out.stop (by omega) (by omega) hS, own1, hO.trans O1⟩
    · have q3 : ((i : Int) != j) = true := by rw [bne_iff_ne]; omega
      have q4 : decide ((j : Int) < i) = true := decide_eq_true (by omega)
      have hc := zSwapRange (a := m - i) (b := m) (m := j) (f := f) ownY (by omega) (by omega) hn
      rw [← q1] at hc
      have Hc := Lib.hid hc
      clear hc q1
      go_wp2_with (go_at_call 226; refine Hc.out.mono ?_; rintro e w1 ⟨rfl, zs, hS, own1, O1⟩)
      go_roundw
      case rel => exact ⟨i - j, j, zs, by omega, by omega, by go_num, by go_num, hR.out.left hij hS, own1, hO.trans O1⟩
      case measure => simp [intOf]; omega

theorem Moves.all {a b n N : Nat} {xs ys : List Nat} (h : Moves a b xs ys) (hb : b ≤ n) (hx : ∀ u, u < n → atL xs u < N) : ∀ u, u < n → atL ys u < N := by
  intro u hu
  by_cases c : a ≤ u ∧ u < b
  · obtain ⟨v, v1, v2, e⟩ := h.inn u c.1 c.2
    rw [e]
    exact hx v (by omega)
  · rw [h.out u (by omega)]
    exact hx u hu

/-- What the comparison of two numbers' keys answers. -/
def cmpI (x y : Int) : Int := if x < y then -1 else if y < x then 1 else 0

theorem cmpI_lt {x y : Int} (h : x < y) : cmpI x y = -1 := if_pos h

theorem cmpI_ge {x y : Int} (h : ¬ x < y) : ¬ cmpI x y < 0 := by unfold cmpI; rw [if_neg h]; split <;> omega

/-- A function value that compares numbers below N by their keys, in every world that differs from wS in the row g alone. -/
def CmpF (gf : FuncId) (lb : Array Value) (key : Nat → Int) (N g : Nat) (wS : World) : Prop :=
  ∀ (W : World) (x y : Nat), Only g wS W → x < N → y < N → Calls Tryz.prog gf (#[.int .i64 (x : Int), .int .i64 (y : Int)] ++ lb) W fun e W' => e = .returned (.int .i64 (cmpI (key x) (key y))) ∧ Ext W W'

set_option maxRecDepth 100000 in
set_option maxHeartbeats 1000000 in
theorem zInsert {w0 wS w : World} {g n c a b N : Nat} {xs : List Nat} {key : Nat → Int} {gf : FuncId} {lb : Array Value} (eg : ∀ args w, (callFunc gf args).run Tryz.prog w = .ok (.enter gf args) w) (hcmp : CmpF gf lb key N g wS)
    (own : Own w0 w 3 1 (some ⟨g, 0, none⟩) n c (xs.map iv)) (hS : Only g wS w) (hx : ∀ u, u < n → atL xs u < N) (hab : a < b) (hb : b ≤ n) (hn : n ≤ 1000000000000) (hinc : ∀ u v, a ≤ u → u < v → v < b → atL xs u < atL xs v) :
    Calls Tryz.prog 222 #[.slice (some ⟨g, 0, none⟩) n c, .int .i64 (a : Int), .int .i64 (b : Int), .func (.func gf) #[] lb] w fun e w' => e = .returned (.tuple #[]) ∧ ∃ ys, InsO key xs ys a b ∧ Own w0 w' 3 1 (some ⟨g, 0, none⟩) n c (ys.map iv) ∧ Only g w w' := by
  have hxl := own.numL
  have Hx := Lib.hid hx
  have Hinc := Lib.hid hinc
  have Hcmp := Lib.hid hcmp
  clear hx hinc hcmp
  go_enter Tryz.func222, Tryz.ntmps222
  go_wp2
  go_loopw [8, 9] (fun u _ wr => ∃ (i : Nat) (ys : List Nat), a < i ∧ i ≤ b ∧ u = .int .i64 i ∧ Hid (InsO key xs ys a i) ∧ Own w0 wr 3 1 (some ⟨g, 0, none⟩) n c (ys.map iv) ∧ Only g w wr) (fun u _ _ => b - (intOf u).toNat)
  case atStart => exact ⟨a + 1, xs, by omega, by omega, by go_num, InsO.start xs a, own, Only.refl g w⟩
  case round =>
    obtain ⟨i, ys, hai, hib, rfl, hI, ownY, hO⟩ := hrel
    by_cases hlt : i < b
    · have hltI : (i : Int) < b := by omega
      go_wp2
      go_loopw [9] (fun v wq => ∃ (j : Nat) (zs : List Nat), a ≤ j ∧ j ≤ i ∧ v = .int .i64 j ∧ Hid (InsI key xs zs a i j) ∧ Own w0 wq 3 1 (some ⟨g, 0, none⟩) n c (zs.map iv) ∧ Only g w wq) (fun v _ => (intOf v).toNat)
      case atStart => exact ⟨i, ys, by omega, Nat.le_refl _, rfl, hI.out.inner (by omega) hlt Hinc.out, ownY, hO⟩
      case round =>
        obtain ⟨j, zs, haj, hji, rfl, hJ, ownZ, hP⟩ := hrel
        rename World => wq
        by_cases hj : a < j
        · obtain ⟨p, rfl⟩ : ∃ p, j = p + 1 := ⟨j - 1, by omega⟩
          have hjI : (a : Int) < p + 1 := by omega
          have z1 : (p : Int) + 1 < n := by omega
          have z2 : (p : Int) < n := by omega
          have z3 : ¬ (p : Int) + 1 < 0 := by omega
          have z4 : (0 : Int) ≤ p + 1 := by omega
          have z5 : ((p : Int) + 1).toNat = p + 1 := by omega
          have z6 : IntKind.i64.wrap ((p : Int) + 1 - 1) = (p : Int) := by rw [IntWalk.i64_in _ (by omega)]; omega
          have z7 : IntKind.i64.wrap (p : Int) = (p : Int) := IntWalk.i64_in _ (by omega)
          have z8 : (0 : Int) ≤ p := by omega
          have z9 : ¬ (p : Int) < 0 := by omega
          have c1 := ownZ.numAt (k := p + 1) (by omega)
          have c2 := ownZ.numAt (k := p) (by omega)
          have hall := hJ.out.mv.all (n := n) (N := N) (by omega) Hx.out
          have hc := fun W h => Hcmp.out W (atL zs (p + 1)) (atL zs p) h (hall (p + 1) (by omega)) (hall p (by omega))
          have hS' := hS.trans hP
          have hlq : g < wq.heap.size := ownZ.base.2
          by_cases hk : key (atL zs (p + 1)) < key (atL zs p)
          · rw [cmpI_lt hk] at hc
            have Hc := Lib.hid hc
            have Hk := Lib.hid hk
            clear hc hk hall
            go_wp2_with fail
            go_region_held3 (fun W => Ext wq W ∧ ∀ b o, b < wq.heap.size → W.cell? ⟨b, o, none⟩ = wq.cell? ⟨b, o, none⟩) ((refine Ext.keep ?_; repeat with_reducible (first | assumption | exact Ext.refl _ | refine Ext.alloc ?_ _ | refine Ext.drew ?_ | refine Ext.drewN ?_ _ | refine Ext.setCell ?_ (by first | exact Nat.le_refl _ | omega | (simp; done) | (simp; omega)) _))) (first | (go_split_ands; go_at_fn gf; refine (Hc.out _ (hS'.ext (by with_reducible assumption))).mono ?_; rintro e w1 ⟨rfl, E1⟩; have q0 : Ext wq w1 := Ext.trans (by with_reducible assumption) E1))
            rename Ext wq w1 ∧ _ => hh
            clear hh c1 c2
            have own1 := ownZ.up q0
            have d1 := own1.numAt (k := p + 1) (by omega)
            have d2 := own1.numAt (k := p) (by omega)
            have f1 := own1.free (p + 1)
            have f2 := own1.free p
            go_wp2
            go_region
            go_wp2
            go_roundw
            case rel =>
              refine ⟨p, _, by omega, by omega, by go_num, ?_, (own1.swapN (p + 1) p).drew, ?_⟩
              · show InsI _ _ _ _ _ _
                have := hJ.out.step (by omega) hj (by simpa using Hk.out)
                simpa using this
              · exact (((hP.ext q0).set _ _).set _ _).ext (Ext.refl _).drew
            case measure => simp [intOf]
          · have hr := cmpI_ge hk
            generalize cmpI (key (atL zs (p + 1))) (key (atL zs p)) = r at hc hr
            have hrd : decide (r < 0) = false := decide_eq_false hr
            have Hc := Lib.hid hc
            have Hk := Lib.hid hk
            clear hc hk hall hr
            go_wp2_with fail
            go_region_held3 (fun W => Ext wq W ∧ ∀ b o, b < wq.heap.size → W.cell? ⟨b, o, none⟩ = wq.cell? ⟨b, o, none⟩) ((refine Ext.keep ?_; repeat with_reducible (first | assumption | exact Ext.refl _ | refine Ext.alloc ?_ _ | refine Ext.drew ?_ | refine Ext.drewN ?_ _ | refine Ext.setCell ?_ (by first | exact Nat.le_refl _ | omega | (simp; done) | (simp; omega)) _))) (first | (go_split_ands; go_at_fn gf; refine (Hc.out _ (hS'.ext (by with_reducible assumption))).mono ?_; rintro e w1 ⟨rfl, E1⟩; have q0 : Ext wq w1 := Ext.trans (by with_reducible assumption) E1))
            rename Ext wq w1 ∧ _ => hh
            clear hh c1 c2
            go_wp2
            go_roundw
            case rel => exact ⟨i + 1, zs, by omega, by omega, by go_num, hJ.out.stop (.inr (by simpa using Hk.out)), ownZ.up q0, hP.ext q0⟩
            case measure => simp [intOf]; omega
        · obtain rfl : j = a := by omega
          go_wp2
          go_quiet (fail)
          go_wp2
          go_roundw
          case rel => exact ⟨i + 1, zs, by omega, by omega, by go_num, hJ.out.stop (.inl rfl), ownZ.up (by repeat with_reducible (first | exact Ext.refl _ | refine Ext.alloc ?_ _ | refine Ext.drew ?_ | refine Ext.drewN ?_ _ | refine Ext.setCell ?_ (by first | exact Nat.le_refl _ | omega | (simp; done) | (simp; omega)) _)), hP.ext (by repeat with_reducible (first | exact Ext.refl _ | refine Ext.alloc ?_ _ | refine Ext.drew ?_ | refine Ext.drewN ?_ _ | refine Ext.setCell ?_ (by first | exact Nat.le_refl _ | omega | (simp; done) | (simp; omega)) _))⟩
          case measure => simp [intOf]; omega
    · obtain rfl : i = b := by omega
      go_wp2
      go_end0
      exact ⟨rfl, ys, hI.out, ownY, hO⟩

end Go.Proofs.YtgjhglehghjoeaaGreat
