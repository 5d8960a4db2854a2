/- Contracts of Go's stable sort of whole numbers, and of the fields' order. -/
import Derived.Test.YtgjhglehghjoeaaGreatQaWSortN

namespace Go.Proofs.YtgjhglehghjoeaaGreat
open Go.RowKit
set_option linter.unusedVariables false

theorem zMerge {w0 wS : World} {g n c N : Nat} {key : Nat → Int} {gf : FuncId} {lb : Array Value} (eg : ∀ args w, (callFunc gf args).run Tryz.prog w = .ok (.enter gf args) w) (hcmp : CmpF gf lb key N g wS) (hn : n ≤ 1000000000000) :
    ∀ k, MrgK gf lb key N g n c w0 wS k
  | 0 => fun w a m b xs hk own hS hx hp hb => by have := hp.am; have := hp.mb; omega
  | k + 1 => fun w a m b xs hk own hS hx hp hb => by
    have h1 := hp.am
    have h2 := hp.mb
    by_cases c1 : m = a + 1
    · subst c1
      exact zMerge1 eg hcmp own hS hx hp hb hn
    · by_cases c2 : b = m + 1
      · subst c2
        exact zMerge2 eg hcmp own hS hx hp (by omega) hb hn
      · exact zMergeN eg hcmp (zMerge eg hcmp hn k) own hS hx hp hk (by omega) (by omega) hb hn

set_option maxRecDepth 100000 in
theorem zInsert0 {w : World} {A : Option Addr} {n c a : Nat} {f : Value} (ha : a ≤ 1000000000000) :
    Calls Tryz.prog 222 #[.slice A n c, .int .i64 (a : Int), .int .i64 (a : Int), f] w fun e w' => e = .returned (.tuple #[]) ∧ w' = w := by
  go_enter Tryz.func222, Tryz.ntmps222
  go_wp2
  go_loopw [8] (fun u wr => u = .int .i64 ((a : Int) + 1) ∧ wr = w) (fun _ _ => 0)
  case atStart => exact ⟨rfl, rfl⟩
  case round =>
    obtain ⟨rfl, rfl⟩ := hrel
    go_wp2
    go_end0
    exact ⟨rfl, rfl⟩

/-- The insertion sort, whether there is anything to sort or not. -/
theorem zInsertAll {w0 wS w : World} {g n c a b N : Nat} {xs : List Nat} {key : Nat → Int} {gf : FuncId} {lb : Array Value} (eg : ∀ args w, (callFunc gf args).run Tryz.prog w = .ok (.enter gf args) w) (hcmp : CmpF gf lb key N g wS)
    (own : Own w0 w 3 1 (some ⟨g, 0, none⟩) n c (xs.map iv)) (hS : Only g wS w) (hx : ∀ u, u < n → atL xs u < N) (hab : a ≤ b) (hb : b ≤ n) (hn : n ≤ 1000000000000) (hinc : ∀ u v, a ≤ u → u < v → v < b → atL xs u < atL xs v) :
    Calls Tryz.prog 222 #[.slice (some ⟨g, 0, none⟩) n c, .int .i64 (a : Int), .int .i64 (b : Int), .func (.func gf) #[] lb] w fun e w' => e = .returned (.tuple #[]) ∧ ∃ ys, InsO key xs ys a b ∧ Own w0 w' 3 1 (some ⟨g, 0, none⟩) n c (ys.map iv) ∧ Only g w w' := by
  by_cases h : a = b
  · subst h
    refine (zInsert0 (by omega)).mono ?_
    rintro e w1 ⟨rfl, rfl⟩
    exact ⟨rfl, xs, ⟨Moves.refl _ _ _, fun u v h1 h2 h3 => by omega⟩, own, Only.refl _ _⟩
  · exact zInsert eg hcmp own hS hx (by omega) hb hn hinc

set_option maxRecDepth 100000 in
set_option maxHeartbeats 2000000 in
theorem zStable {w0 w : World} {g n c : Nat} {key : Nat → Int} {gf : FuncId} {lb : Array Value} (eg : ∀ args w, (callFunc gf args).run Tryz.prog w = .ok (.enter gf args) w) (hcmp : CmpF gf lb key n g w)
    (own : Own w0 w 3 1 (some ⟨g, 0, none⟩) n c ((List.range n).map iv)) (hn : n ≤ 1000000000000) :
    Calls Tryz.prog 212 #[.slice (some ⟨g, 0, none⟩) n c, .int .i64 (n : Int), .func (.func gf) #[] lb] w fun e w' => e = .returned (.tuple #[]) ∧ Own w0 w' 3 1 (some ⟨g, 0, none⟩) n c ((sortK key n).map iv) ∧ Only g w w' := by
  have hall0 : ∀ u, u < n → atL (List.range n) u < n := fun u hu => by rw [atL_range hu]; exact hu
  have hM := zMerge (w0 := w0) (c := c) eg hcmp hn n
  have Hcmp := Lib.hid hcmp
  have HM := Lib.hid hM
  have Hall0 := Lib.hid hall0
  clear hcmp hM hall0
  go_enter Tryz.func212, Tryz.ntmps212
  go_wp2
  go_loopw [7, 8] (fun u v wr => ∃ (a : Nat) (ys : List Nat), a ≤ n ∧ u = .int .i64 a ∧ v = .int .i64 ((a : Int) + 20) ∧ Hid (20 ∣ a ∧ Cut key ys n 20 a ∧ Moves 0 n (List.range n) ys) ∧ Own w0 wr 3 1 (some ⟨g, 0, none⟩) n c (ys.map iv) ∧ Only g w wr) (fun u _ _ => n - (intOf u).toNat)
  case atStart => exact ⟨0, List.range n, by omega, rfl, rfl, ⟨Nat.dvd_zero _, Cut.start n 20, Moves.refl _ _ _⟩, own, Only.refl g w⟩
  case round =>
    obtain ⟨a, ys, ha, rfl, rfl, hC, ownY, hO⟩ := hrel
    have hall := hC.out.2.2.all (n := n) (N := n) (Nat.le_refl _) Hall0.out
    by_cases hlt : a + 20 ≤ n
    · have hltI : (a : Int) + 20 ≤ n := by omega
      have hc := zInsertAll (a := a) (b := a + 20) eg Hcmp.out ownY hO hall (by omega) hlt hn (fun u v h1 h2 h3 => by rw [hC.out.2.1.raw u h1 (by omega), hC.out.2.1.raw v (by omega) (by omega)]; exact h2)
      have Hc := Lib.hid hc
      clear hc
      go_wp2_with (go_at_call 222; refine Hc.out.mono ?_; rintro e w1 ⟨rfl, zs, hI, own1, O1⟩)
      go_roundw
      case rel => exact ⟨a + 20, zs, hlt, by go_num, by go_num, ⟨Nat.dvd_add hC.out.1 (Nat.dvd_refl _), hC.out.2.1.next hC.out.1 hlt hI, hC.out.2.2.trans (hI.mv.wide (Nat.zero_le _) hlt)⟩, own1, hO.trans O1⟩
      case measure => simp [intOf]; omega
    · have hltI : ¬ (a : Int) + 20 ≤ n := by omega
      have hc := zInsertAll (a := a) (b := n) eg Hcmp.out ownY hO hall ha (Nat.le_refl _) hn (fun u v h1 h2 h3 => by rw [hC.out.2.1.raw u h1 (by omega), hC.out.2.1.raw v (by omega) (by omega)]; exact h2)
      have Hc := Lib.hid hc
      clear hc
      go_wp2_with (go_at_call 222; refine Hc.out.mono ?_; rintro e w1 ⟨rfl, zs, hI, own1, O1⟩)
      have hB : Hid (Blocks key zs n 20 ∧ Moves 0 n (List.range n) zs) := ⟨hC.out.2.1.last hC.out.1 ha (by omega) hI, hC.out.2.2.trans (hI.mv.wide (Nat.zero_le _) (Nat.le_refl _))⟩
      have hO1 := hO.trans O1
      clear Hc hC hI hall O1
      go_loopw [6, 7, 8, 9] (fun t _ _ _ wr => ∃ (s : Nat) (ys : List Nat), 0 < s ∧ t = .int .i64 s ∧ s ≤ 2000000000000 ∧ Hid (Blocks key ys n s ∧ Moves 0 n (List.range n) ys) ∧ Own w0 wr 3 1 (some ⟨g, 0, none⟩) n c (ys.map iv) ∧ Only g w wr) (fun t _ _ _ _ => n - (intOf t).toNat)
      case atStart => exact ⟨20, zs, by omega, rfl, by omega, hB, own1, hO1⟩
      case round => as_aux_lemma =>
        obtain ⟨s, ys, hs, rfl, hs2, hB2, own2, hO2⟩ := hrel
        by_cases hlt2 : s < n
        · have hlt2I : (s : Int) < n := by omega
          go_wp2
          go_loopw [7, 8] (fun u v wq => ∃ (a : Nat) (qs : List Nat), a ≤ n ∧ u = .int .i64 a ∧ v = .int .i64 ((a : Int) + 2 * s) ∧ Hid (2 * s ∣ a ∧ Lvl key qs n s a ∧ Moves 0 n (List.range n) qs) ∧ Own w0 wq 3 1 (some ⟨g, 0, none⟩) n c (qs.map iv) ∧ Only g w wq) (fun u _ _ => n - (intOf u).toNat)
          case atStart => exact ⟨0, ys, by omega, rfl, by go_num, ⟨Nat.dvd_zero _, Lvl.start hB2.out.1, hB2.out.2⟩, own2, hO2⟩
          case round =>
            obtain ⟨a, qs, ha, rfl, rfl, hL, own3, hO3⟩ := hrel
            have hall := hL.out.2.2.all (n := n) (N := n) (Nat.le_refl _) Hall0.out
            have hql := own3.numL
            by_cases hb : a + 2 * s ≤ n
            · have hbI : (a : Int) + 2 * s ≤ n := by omega
              have hp := hL.out.2.1.pre hL.out.1 (by omega) hs hql (b := a + 2 * s) (by omega)
              have hc := HM.out _ a (a + s) (a + 2 * s) qs (by omega) own3 hO3 hall hp hb
              have Hc := Lib.hid hc
              clear hc hp
              go_wp2_with (go_at_call 223; refine Hc.out.mono ?_; rintro e w4 ⟨rfl, rs, hD, own4, O4⟩)
              go_roundw
              case rel => exact ⟨a + 2 * s, rs, hb, by go_num, by go_num, ⟨Nat.dvd_add hL.out.1 (Nat.dvd_refl _), hL.out.2.1.next hL.out.1 hb hs hD, hL.out.2.2.trans (hD.mv.wide (Nat.zero_le _) hb)⟩, own4, hO3.trans O4⟩
              case measure => simp [intOf]; omega
            · have hbI : ¬ (a : Int) + 2 * s ≤ n := by omega
              by_cases hm : a + s < n
              · have hmI : (a : Int) + s < n := by omega
                have hp := hL.out.2.1.pre hL.out.1 (by omega) hs hql (b := n) (by omega)
                have hc := HM.out _ a (a + s) n qs (by omega) own3 hO3 hall hp (Nat.le_refl _)
                have Hc := Lib.hid hc
                clear hc hp
                go_wp2_with (go_at_call 223; refine Hc.out.mono ?_; rintro e w4 ⟨rfl, rs, hD, own4, O4⟩)
                go_roundw
                case rel => exact ⟨2 * s, rs, by omega, by go_num, by omega, ⟨hL.out.2.1.last hL.out.1 (by omega) hm hD, hL.out.2.2.trans (hD.mv.wide (Nat.zero_le _) (Nat.le_refl _))⟩, own4, hO3.trans O4⟩
                case measure => simp [intOf]; omega
              · have hmI : ¬ (a : Int) + s < n := by omega
                go_wp2
                go_roundw
                case rel => exact ⟨2 * s, qs, by omega, by go_num, by omega, ⟨hL.out.2.1.stop hL.out.1 ha (by omega) hm, hL.out.2.2⟩, own3, hO3⟩
                case measure => simp [intOf]; omega
        · have hlt2I : ¬ (s : Int) < n := by omega
          go_wp2
          go_end0
          rw [← sorted_only hB2.out.2.perm (hB2.out.1.all (by omega))]
          exact ⟨rfl, own2, hO2⟩

theorem zSort {w0 w : World} {g n c : Nat} {key : Nat → Int} {gf : FuncId} {lb : Array Value} (eg : ∀ args w, (callFunc gf args).run Tryz.prog w = .ok (.enter gf args) w) (hcmp : CmpF gf lb key n g w)
    (own : Own w0 w 3 1 (some ⟨g, 0, none⟩) n c ((List.range n).map iv)) (hn : n ≤ 1000000000000) :
    Calls Tryz.prog 186 #[.slice (some ⟨g, 0, none⟩) n c, .func (.func gf) #[] lb] w fun e w' => e = .returned (.tuple #[]) ∧ Own w0 w' 3 1 (some ⟨g, 0, none⟩) n c ((sortK key n).map iv) ∧ Only g w w' := by
  have hc := zStable eg hcmp own hn
  have Hc := Lib.hid hc
  clear hc hcmp
  go_enter Tryz.func186, Tryz.ntmps186
  go_wp2_with (go_at_call 212; refine Hc.out.mono ?_; rintro e w1 ⟨rfl, own1, O1⟩)
  go_end0
  exact ⟨rfl, own1, O1⟩

/-- Nothing is to be sorted. -/
theorem zSort0 {w : World} {f : Value} :
    Calls Tryz.prog 186 #[.slice none 0 0, f] w fun e w' => e = .returned (.tuple #[]) ∧ w' = w := by
  have hc : Calls Tryz.prog 212 #[.slice none 0 0, .int .i64 ((0 : Nat) : Int), f] w fun e w' => e = .returned (.tuple #[]) ∧ w' = w := by
    have hi := zInsert0 (w := w) (A := none) (n := 0) (c := 0) (a := 0) (f := f) (by omega)
    have Hi := Lib.hid hi
    clear hi
    go_enter Tryz.func212, Tryz.ntmps212
    go_wp2
    go_loopw [7, 8] (fun u v wr => u = .int .i64 0 ∧ v = .int .i64 20 ∧ wr = w) (fun _ _ _ => 0)
    case atStart => exact ⟨rfl, rfl, rfl⟩
    case round =>
      obtain ⟨rfl, rfl, rfl⟩ := hrel
      go_wp2_with (go_at_call 222; refine Hi.out.mono ?_; rintro e w1 ⟨rfl, rfl⟩)
      rename World => wz
      go_loopw [6, 7, 8, 9] (fun t _ _ _ wq => t = .int .i64 20 ∧ wq = wz) (fun _ _ _ _ _ => 0)
      case atStart => exact ⟨rfl, rfl⟩
      case round =>
        obtain ⟨rfl, rfl⟩ := hrel
        go_wp2
        go_end0
        exact ⟨rfl, rfl⟩
  have Hc := Lib.hid hc
  clear hc
  go_enter Tryz.func186, Tryz.ntmps186
  go_wp2_with (go_at_call 212; refine Hc.out.mono ?_; rintro e w1 ⟨rfl, rfl⟩)
  go_end0
  exact ⟨rfl, rfl⟩

theorem zNaN (x : Int) (w : World) : Calls Tryz.prog 213 #[.int .i64 x] w fun e w' => e = .returned (.bool false) ∧ w' = w := by
  go_enter Tryz.func213, Tryz.ntmps213
  go_wp2
  go_ret
  exact ⟨by simp, rfl⟩

theorem zCompare (x y : Int) (w : World) : Calls Tryz.prog 188 #[.int .i64 x, .int .i64 y] w fun e w' => e = .returned (.int .i64 (cmpI x y)) ∧ w' = w := by
  have h := fun x => zNaN x w
  rcases Int.lt_trichotomy x y with hxy | hxy | hxy
  · have e : cmpI x y = -1 := if_pos hxy
    rw [e]
    go_enter Tryz.func188, Tryz.ntmps188
    go_wp2_with (go_at_call 213; refine (h _).mono ?_; rintro e w1 ⟨rfl, rfl⟩)
    go_ret
    exact ⟨rfl, rfl⟩
  · subst hxy
    have e : cmpI x x = 0 := by unfold cmpI; simp
    rw [e]
    have d : decide (x < x) = false := by simp
    go_enter Tryz.func188, Tryz.ntmps188
    go_wp2_with (go_at_call 213; refine (h _).mono ?_; rintro e w1 ⟨rfl, rfl⟩)
    go_ret
    exact ⟨rfl, rfl⟩
  · have e : cmpI x y = 1 := by unfold cmpI; rw [if_neg (by omega), if_pos hxy]
    rw [e]
    have d : ¬ x < y := by omega
    go_enter Tryz.func188, Tryz.ntmps188
    go_wp2_with (go_at_call 213; refine (h _).mono ?_; rintro e w1 ⟨rfl, rfl⟩)
    go_ret
    exact ⟨rfl, rfl⟩

/-- The number of the field at a place. -/
def keyF (fs : List FieldD) (i : Nat) : Int := ((fs[i]?).map (·.number)).getD 0

theorem keyF_at {fs : List FieldD} {i : Nat} {f : FieldD} (h : fs[i]? = some f) : keyF fs i = f.number := by unfold keyF; rw [h]; rfl

set_option maxRecDepth 100000 in
set_option maxHeartbeats 1000000 in
theorem zSorted1 {A : Option Addr} {n c b x y : Nat} {s : ByteArray} {fs : List FieldD} {w : World} (hf : FieldsAt w A n c fs) (c0 : w.cell? ⟨b, 0, none⟩ = some (.string s)) (c1 : w.cell? ⟨b, 1, none⟩ = some (.slice A n c)) (hx : x < n) (hy : y < n) (hn : n ≤ 1000000000000) :
    Calls Tryz.prog 187 #[.int .i64 (x : Int), .int .i64 (y : Int), .pointer (some ⟨b, 0, none⟩)] w fun e w' => e = .returned (.int .i64 (cmpI (keyF fs x) (keyF fs y))) ∧ Ext w w' := by
  obtain ⟨b1, off1, f1, rfl, h1, _, hb1, d0, d1, d2, d3, d4, d5⟩ := hf.field hx
  obtain ⟨b2, off2, f2, hA, h2, _, hb2, e0, e1, e2, e3, e4, e5⟩ := hf.field hy
  cases hA
  have hb := World.block_lt_of_cell? w _ c1
  simp only at hb
  rw [keyF_at h1, keyF_at h2]
  have hxI : (x : Int) < n := by omega
  have hyI : (y : Int) < n := by omega
  have hc := fun W => zCompare f1.number f2.number W
  have Hc := Lib.hid hc
  clear hc hf h1 h2 d0 d2 d3 d4 d5 e0 e2 e3 e4 e5
  go_enter Tryz.func187, Tryz.ntmps187
  go_wp2_with fail
  go_region_held3 (fun W => Ext w W ∧ ∀ b o, b < w.heap.size → W.cell? ⟨b, o, none⟩ = w.cell? ⟨b, o, none⟩) ((refine Ext.keep ?_; repeat with_reducible (first | assumption | exact Ext.refl _ | refine Ext.alloc ?_ _ | refine Ext.drew ?_ | refine Ext.drewN ?_ _ | refine Ext.setCell ?_ (by first | exact Nat.le_refl _ | omega | (simp; done) | (simp; omega)) _))) (first | (go_split_ands; go_at_call 188; refine (Hc.out _).mono ?_; rintro e w1 ⟨rfl, rfl⟩))
  all_goals
    go_wp2
    go_ret
    exact ⟨rfl, (by repeat with_reducible (first | exact Ext.refl _ | refine Ext.alloc ?_ _ | refine Ext.drew ?_ | refine Ext.drewN ?_ _ | refine Ext.setCell ?_ (by first | exact Nat.le_refl _ | omega | (simp; done) | (simp; omega)) _))⟩

set_option maxRecDepth 100000 in
set_option maxHeartbeats 1000000 in
/-- The fields' places, by their numbers. -/
theorem sSorted {A : Option Addr} {n c : Nat} {s : ByteArray} {fs : List FieldD} {w : World} (hf : FieldsAt w A n c fs) (hn : n ≤ 1000000000000) :
    Calls Tryz.prog 148 #[.agg #[.string s, .slice A n c]] w fun e w' => ∃ A' c', e = .returned (.slice A' n c') ∧ Own w w' 3 1 A' n c' ((sortK (keyF fs) n).map iv) := by
  have eg : ∀ args w, (callFunc 187 args).run Tryz.prog w = .ok (.enter 187 args) w := enters_of Tryz.func187 (by kernel_rfl) rfl
  have hz := fun W f => zSort0 (w := W) (f := f)
  go_enter Tryz.func148, Tryz.ntmps148
  go_wp2
  have B := Ext.new_blk (Ext.refl (w.alloc (.cells #[.string s, .slice A n c] 94)))
  have X1 : Ext w (w.alloc (.cells #[.string s, .slice A n c] 94)) := (by repeat with_reducible (first | exact Ext.refl _ | refine Ext.alloc ?_ _ | refine Ext.drew ?_ | refine Ext.drewN ?_ _ | refine Ext.setCell ?_ (by first | exact Nat.le_refl _ | omega | (simp; done) | (simp; omega)) _))
  generalize w.alloc (.cells #[.string s, .slice A n c] 94) = w1 at *
  generalize w.heap.size = b at *
  go_loopw [3, 8] (fun u i wr => ∃ (k : Nat) (A2 : Option Addr) (c2 : Nat), k ≤ n ∧ i = .int .i64 (k : Int) ∧ u = .slice A2 k c2 ∧ (k = 0 → A2 = none ∧ c2 = 0) ∧ Own w1 wr 3 1 A2 k c2 ((List.range k).map iv)) (fun _ i _ => n - (intOf i).toNat)
  case atStart => exact ⟨0, none, 0, by omega, rfl, rfl, fun _ => ⟨rfl, rfl⟩, Own.nil (Ext.refl _) _ _⟩
  case round =>
    obtain ⟨k, A2, c2, hk, rfl, rfl, h00, own⟩ := hrel
    by_cases hlt : k < n
    · have hltI : (k : Int) < n := by omega
      go_wp2_with (at_builtin; refine wpList_one elemI rfl (.tmp 11) (.tmp 13) rfl rfl own rfl (by simp) rfl (by omega) (by unfold maxLen; omega) ?_; intro A4 c4 w4 own4 g4)
      go_roundw
      case rel =>
        refine ⟨k + 1, A4, c4, by omega, by go_num, rfl, fun h => by omega, ?_⟩
        rw [List.range_succ, List.map_append]
        exact own4
      case measure => simp [intOf]; omega
    · obtain rfl : k = n := by omega
      by_cases h0 : k = 0
      · subst h0
        obtain ⟨rfl, rfl⟩ := h00 rfl
        go_wp2_with (go_at_call 186; refine (hz _ _).mono ?_; rintro e w2 ⟨rfl, rfl⟩)
        go_ret
        exact ⟨none, 0, rfl, own.since X1⟩
      · obtain ⟨g, rfl⟩ : ∃ g, A2 = some ⟨g, 0, none⟩ := by
          rcases own.row.2 with ⟨hv, h⟩ | ⟨g, cap, cur, hv, _⟩
          · omega
          · cases hv; exact ⟨g, rfl⟩
        have hbase := own.base
        have hcmp : CmpF 187 #[.pointer (some ⟨b, 0, none⟩)] (keyF fs) k g wr := by
          intro W x y hO hx hy
          have XW : Ext w1 W := hO.toExt own.ext hbase.1
          exact zSorted1 (hf.up (X1.trans XW)) (XW.of_cell (B.cell 0)) (XW.of_cell (B.cell 1)) hx hy hn
        have hc := zSort eg hcmp own hn
        have Hc := Lib.hid hc
        clear hc hcmp
        go_wp2_with (go_at_call 186; refine Hc.out.mono ?_; rintro e w2 ⟨rfl, own2, O2⟩)
        go_ret
        exact ⟨_, c2, rfl, own2.since X1⟩

end Go.Proofs.YtgjhglehghjoeaaGreat
