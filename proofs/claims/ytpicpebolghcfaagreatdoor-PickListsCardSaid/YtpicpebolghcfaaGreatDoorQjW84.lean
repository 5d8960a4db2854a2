/- Contracts of layer 14: a meaning as the reference has it. -/
import Derived.Test.YtpicpebolghcfaaGreatDoorQjM14
import Derived.Test.YtpicpebolghcfaaGreatDoorQjW10
import Derived.Test.YtpicpebolghcfaaGreatDoorQjWSortS
import Derived.Test.YtpicpebolghcfaaGreatDoorQjW85
import Derived.BigQuiet

namespace Go.Proofs.YtpicpebolghcfaaGreatDoor
open Go.RowKit
set_option linter.unusedVariables false

section
variable {w wr w' : World} {b3 : Nat} {A A' : Option Addr} {old : Nat → Prop} {ys : List MsgR}

end

theorem BlkT.set_far {w : World} {b : Nat} {t : TypeId} {cs : Array Value} (h : BlkT w b t cs) {b' : Nat} (o : Nat) (hb : b' ≠ b) (u : Value) : BlkT (w.setCell ⟨b', o, none⟩ u) b t cs := h.far (p := ⟨b', o, none⟩) (fun e => hb e.symm) u

theorem elemRM : Elem Tryz.prog 46 40 2 48 := Elem.mk' (z := .agg #[.slice none 0 0, .slice none 0 0]) Tryz.underlying46 (by kernel_rfl) rfl (by omega)

theorem elemRV : Elem Tryz.prog 37 48 4 80 := Elem.mk' (z := .agg #[.int .i64 0, .slice none 0 0, .slice none 0 0, .slice none 0 0]) Tryz.underlying37 (by kernel_rfl) rfl (by omega)

theorem elemStr : Elem Tryz.prog 38 9 1 16 := Elem.mk' (z := .string ⟨#[]⟩) Tryz.underlying38 (by kernel_rfl) rfl (by omega)

section
variable {w wr w' : World} {b3 : Nat} {A A' : Option Addr} {old : Nat → Prop} {U : Sl} {us : List ByteArray} {ys : List ValR}

end

end Go.Proofs.YtpicpebolghcfaaGreatDoor

/- Contracts of layer 7: the fields' order, as the reference has it; the same schemas; a copy. -/


namespace Go.Proofs.YtpicpebolghcfaaGreatDoor
open Go.RowKit
set_option linter.unusedVariables false

set_option maxRecDepth 100000 in
set_option maxHeartbeats 2000000 in
theorem sSortedR {A : Option Addr} {n c : Nat} {s : ByteArray} {fs : List FieldD} {w : World} (hf : FieldsAt w A n c fs) (hn : n ≤ 1000000000000) :
    Calls Tryz.prog 38 #[.agg #[.string s, .slice A n c]] w fun e w' => ∃ A' c', e = .returned (.slice A' n c') ∧ Own w w' 3 1 A' n c' ((sortK (keyF fs) n).map iv) := by
  have hfl := hf.length
  go_enter Tryz.func38, Tryz.ntmps38
  go_wp2
  have B := Ext.new_blk (Ext.refl (w.alloc (.cells #[.string s, .slice A n c] 77)))
  have X1 : Ext w (w.alloc (.cells #[.string s, .slice A n c] 77)) := (by repeat with_reducible (first | exact Ext.refl _ | refine Ext.alloc ?_ _ | refine Ext.drew ?_ | refine Ext.drewN ?_ _ | refine Ext.setCell ?_ (by first | exact Nat.le_refl _ | omega | (simp; done) | (simp; omega)) _))
  generalize w.alloc (.cells #[.string s, .slice A n c] 77) = w1 at *
  generalize w.heap.size = b at *
  have hb1 := B.lt
  go_loopw [3, 4, 5, 6] (fun u i _ _ wr => ∃ (k : Nat) (A2 : Option Addr) (c2 : Nat), k ≤ n ∧ i = .int .i64 (k : Int) ∧ u = .slice A2 k c2 ∧ Own w1 wr 3 1 A2 k c2 ((sortK (keyF fs) k).map iv)) (fun _ i _ _ _ => n - (intOf i).toNat)
  case atStart => exact ⟨0, none, 0, by omega, rfl, rfl, Own.nil (Ext.refl _) _ _⟩
  case round =>
    obtain ⟨k, A2, c2, hk, rfl, rfl, own⟩ := hrel
    have m1 := own.ext.of_cell (B.cell 1)
    have m0 := own.ext.of_cell (B.cell 0)
    have hbr : b < wr.heap.size := Nat.lt_of_lt_of_le hb1 own.ext.size
    by_cases hlt : k < n
    · have hltI : (k : Int) < n := by omega
      have hft := hf.up (X1.trans own.ext)
      obtain ⟨b2, off2, fk, hA, hfk, _, hb2, _, e1, _, _, _, _⟩ := hft.field hlt
      have hkk : keyF fs k = fk.number := keyF_at hfk
      have hsl := sortK_length (keyF fs) k
      go_wp2
      go_loopw [5] (fun u wq => ∃ j : Nat, j ≤ k ∧ u = .int .i64 (j : Int) ∧ Hid (∀ (i : Nat) y, i < j → (sortK (keyF fs) k)[i]? = some y → keyF fs y ≤ keyF fs k) ∧ Ext wr wq) (fun u _ => k - (intOf u).toNat)
      case atStart => exact ⟨0, by omega, rfl, fun i y h => by omega, Ext.refl _⟩
      case round =>
        obtain ⟨j, hj, rfl, hL, hE⟩ := hrel
        rename World => wq
        have z0 := hE.of_cell m0
        have z1 := hE.of_cell m1
        have ownq := own.up hE
        have hfin : ∀ (hx : ∀ y, (sortK (keyF fs) k)[j]? = some y → ¬ keyF fs y ≤ keyF fs k), sortK (keyF fs) (k + 1) = (sortK (keyF fs) k).take j ++ k :: (sortK (keyF fs) k).drop j := fun hx => insK_at (fun i y hi hy => hL.out i y hi hy) hx (by omega)
        by_cases hjk : j < k
        · have hjI : (j : Int) < k := by omega
          obtain ⟨y, hy⟩ : ∃ y, (sortK (keyF fs) k)[j]? = some y := ⟨_, List.getElem?_eq_getElem (by omega)⟩
          have hyk : y < k := sortK_mem.1 (List.mem_of_getElem? hy)
          obtain ⟨b3, off3, hA3, _, hc3⟩ := ownq.reads.at_ (by omega)
          have cj := hc3 j (iv y) (by rw [List.getElem?_map, hy]; rfl)
          unfold iv at cj
          have hft2 := hf.up (X1.trans (own.ext.trans hE))
          obtain ⟨b4, off4, fy, hA4, hfy, _, hb4, _, d1, _, _, _, _⟩ := hft2.field (k := y) (by omega)
          rw [hA] at hA4
          cases hA4
          have hky : keyF fs y = fy.number := keyF_at hfy
          have e1' := hE.of_cell e1
          subst hA hA3
          have hyI : (y : Int) < n := by omega
          have Hfin := Lib.hid hfin
          have Hy := Lib.hid hy
          have Hky := Lib.hid hky
          have Hkk := Lib.hid hkk
          have Hsl := Lib.hid hsl
          by_cases hle : fy.number ≤ fk.number
          · have hlb : decide (fy.number ≤ fk.number) = true := decide_eq_true hle
            clear hfin hy hky hkk hfk hfy hft hft2 hf hc3 hsl
            go_wp2
            go_quiet (fail)
            go_wp2
            go_roundw
            case rel =>
              refine ⟨j + 1, by omega, by go_num, fun i y hi hy => ?_, hE.trans (by repeat with_reducible (first | exact Ext.refl _ | refine Ext.alloc ?_ _ | refine Ext.drew ?_ | refine Ext.drewN ?_ _ | refine Ext.setCell ?_ (by first | exact Nat.le_refl _ | omega | (simp; done) | (simp; omega)) _))⟩
              by_cases e : i = j
              · subst e
                have := Hy.out.symm.trans hy
                cases this
                rw [Hky.out, Hkk.out]
                exact hle
              · exact hL.out i y (by omega) hy
            case measure => simp [intOf]; omega
          · have hlb : decide (fy.number ≤ fk.number) = false := decide_eq_false hle
            have hS := hfin (fun y' hy' => by rw [hy] at hy'; cases hy'; rw [hky, hkk]; exact hle)
            have HS := Lib.hid hS
            clear hfin Hfin hy hky hkk hfk hfy hft hft2 hf hc3 hsl hS
            go_wp2
            go_quiet (fail)
            have EQ : Ext wq (wq.drewN nq) := (by repeat with_reducible (first | exact Ext.refl _ | refine Ext.alloc ?_ _ | refine Ext.drew ?_ | refine Ext.drewN ?_ _ | refine Ext.setCell ?_ (by first | exact Nat.le_refl _ | omega | (simp; done) | (simp; omega)) _))
            generalize wq.drewN nq = W0 at *
            obtain ⟨A5, hrun1, hr1⟩ := cut_to elemI (ownq.up EQ).reads .i64 hj
            obtain ⟨A6, hrun2, hr2⟩ := cut_from elemI (ownq.up EQ).reads .i64 hj
            rw [Nat.mul_one, ← List.map_take] at hr1
            rw [Nat.mul_one, ← List.map_drop] at hr2
            go_wp2_with (first
              | (at_builtin; refine wpList_more elemI rfl (.tmp 38) (.tmp 41) rfl rfl (Own.empty (Ext.refl W0) 3 1) rfl (hr1.ext (Ext.alloc (Ext.refl _) _)) (iv_one _) (by omega) (by unfold maxLen; omega) ?_; intro A4 c4 w4 own4 g4; simp only [Nat.zero_add, List.nil_append] at own4; clear hr1)
              | (at_builtin; refine wpList_one elemI rfl (.tmp 43) (.tmp 45) rfl rfl own4 rfl (by simp) rfl (by omega) (by unfold maxLen; omega) ?_; intro A7 c7 w7 own7 g7; clear own4)
              | (at_builtin; refine wpList_more elemI rfl (.tmp 47) (.tmp 50) rfl rfl own7 rfl (hr2.ext own7.ext) (iv_one _) (by omega) (by unfold maxLen; omega) ?_; intro A8 c8 w8 own8 g8; clear own7))
            go_roundw
            case rel =>
              refine ⟨k + 1, A8, c8, by omega, by go_num, ?_, ?_⟩
              · refine congrArg (fun q => Value.slice A8 q c8) ?_
                omega
              · have h9 := own8.since ((own.ext.trans hE).trans EQ)
                rw [HS.out]
                have e9 : (List.map iv (List.take j (sortK (keyF fs) k) ++ k :: List.drop j (sortK (keyF fs) k))) = (List.map iv (List.take j (sortK (keyF fs) k)) ++ [Value.int .i64 (k : Int)]) ++ List.map iv (List.drop j (sortK (keyF fs) k)) := by simp [iv]
                rw [e9]
                have e8 : j + 1 + (k - j) = k + 1 := by omega
                rw [e8] at h9
                exact h9
            case measure => simp [intOf]; omega
        · obtain rfl : j = k := by omega
          have hS := hfin (fun y' hy' => by rw [List.getElem?_eq_none (by omega)] at hy'; cases hy')
          have HS := Lib.hid hS
          subst hA
          clear hfin hkk hfk hft hf hsl hS
          go_wp2
          go_quiet (fail)
          have EQ : Ext wq (wq.drewN nq) := (by repeat with_reducible (first | exact Ext.refl _ | refine Ext.alloc ?_ _ | refine Ext.drew ?_ | refine Ext.drewN ?_ _ | refine Ext.setCell ?_ (by first | exact Nat.le_refl _ | omega | (simp; done) | (simp; omega)) _))
          generalize wq.drewN nq = W0 at *
          obtain ⟨A5, hrun1, hr1⟩ := cut_to elemI (ownq.up EQ).reads .i64 hj
          obtain ⟨A6, hrun2, hr2⟩ := cut_from elemI (ownq.up EQ).reads .i64 hj
          rw [Nat.mul_one, ← List.map_take] at hr1
          rw [Nat.mul_one, ← List.map_drop] at hr2
          simp only [Nat.sub_self] at hrun2 hr2
          go_wp2_with (first
            | (at_builtin; refine wpList_more elemI rfl (.tmp 38) (.tmp 41) rfl rfl (Own.empty (Ext.refl W0) 3 1) rfl (hr1.ext (Ext.alloc (Ext.refl _) _)) (iv_one _) (by omega) (by unfold maxLen; omega) ?_; intro A4 c4 w4 own4 g4; simp only [Nat.zero_add, List.nil_append] at own4; clear hr1)
            | (at_builtin; refine wpList_one elemI rfl (.tmp 43) (.tmp 45) rfl rfl own4 rfl (by simp) rfl (by omega) (by unfold maxLen; omega) ?_; intro A7 c7 w7 own7 g7; clear own4)
            | (at_builtin; refine wpList_more elemI rfl (.tmp 47) (.tmp 50) rfl rfl own7 rfl (hr2.ext own7.ext) (iv_one _) (by omega) (by unfold maxLen; omega) ?_; intro A8 c8 w8 own8 g8; clear own7))
          go_roundw
          case rel =>
            refine ⟨j + 1, A8, c8, by omega, by go_num, ?_, ?_⟩
            · refine congrArg (fun q => Value.slice A8 q c8) ?_
              omega
            · have h9 := own8.since ((own.ext.trans hE).trans EQ)
              rw [HS.out]
              have e9 : (List.map iv (List.take j (sortK (keyF fs) j) ++ j :: List.drop j (sortK (keyF fs) j))) = (List.map iv (List.take j (sortK (keyF fs) j)) ++ [Value.int .i64 (j : Int)]) ++ List.map iv (List.drop j (sortK (keyF fs) j)) := by simp [iv]
              rw [e9]
              have e8 : j + 1 + 0 = j + 1 := by omega
              rw [e8] at h9
              exact h9
          case measure => simp [intOf]; omega
    · obtain rfl : k = n := by omega
      go_wp2
      go_ret
      exact ⟨A2, c2, rfl, own.since X1⟩

end Go.Proofs.YtpicpebolghcfaaGreatDoor

/- Contracts of layer 7: the same schemas. -/


namespace Go.Proofs.YtpicpebolghcfaaGreatDoor
open Go.RowKit
set_option linter.unusedVariables false

theorem MsgD.eq_iff {x y : MsgD} : x = y ↔ x.name = y.name ∧ x.fields = y.fields := by
  constructor
  · rintro rfl
    exact ⟨rfl, rfl⟩
  · rintro ⟨h1, h2⟩
    obtain ⟨a, b⟩ := x
    obtain ⟨c, d⟩ := y
    simp only at h1 h2
    rw [h1, h2]

instance : DecidableEq MsgD := fun x y => decidable_of_iff _ MsgD.eq_iff.symm

end Go.Proofs.YtpicpebolghcfaaGreatDoor

/- Contracts of layer 7: a copy of a schema. -/


namespace Go.Proofs.YtpicpebolghcfaaGreatDoor
open Go.RowKit
set_option linter.unusedVariables false

end Go.Proofs.YtpicpebolghcfaaGreatDoor

/- Contracts of layer 14: the place of a number, and copies of rows. -/



/- Contracts of layer 14: the place of a value, as the reference has it. -/
namespace Go.Proofs.YtpicpebolghcfaaGreatDoor
open Go.RowKit
set_option linter.unusedVariables false

set_option maxRecDepth 100000 in
theorem rGet {x : MsgR} {w : World} {N : Int} (hx : TreeAt w x) : Calls Tryz.prog 43 #[treeV x, .int .i64 N] w fun e w' => e = .returned (.int .i64 (idxB (fun v => v.number == N) x.vals)) ∧ Ext w w' := by
  have hmax := hx.vals.max
  have hcap := hx.vals.cap
  unfold maxLen at hmax
  unfold treeV
  obtain ⟨D, hD⟩ : ∃ D, D = idxB (fun v => v.number == N) x.vals := ⟨_, rfl⟩
  rw [← hD]
  have HD := Lib.hid hD
  clear hD
  generalize hn : x.vals.length = n at *
  have Hn := Lib.hid hn
  clear hn
  go_enter Tryz.func43, Tryz.ntmps43
  go_wp2
  have B1 : BlkT (w.alloc (.cells #[.slice x.a.1 n x.a.2, .slice x.b.1 x.unk.length x.b.2] 40)) w.heap.size 40 #[.slice x.a.1 n x.a.2, .slice x.b.1 x.unk.length x.b.2] := BlkT.new w _ _ rfl
  have X0 : Ext w (w.alloc (.cells #[.slice x.a.1 n x.a.2, .slice x.b.1 x.unk.length x.b.2] 40)) := (by repeat with_reducible (first | exact Ext.refl _ | refine Ext.alloc ?_ _ | refine Ext.drew ?_ | refine Ext.drewN ?_ _ | refine Ext.setCell ?_ (by first | exact Nat.le_refl _ | omega | (simp; done) | (simp; omega)) _))
  generalize w.alloc (.cells #[.slice x.a.1 n x.a.2, .slice x.b.1 x.unk.length x.b.2] 40) = w2 at *
  have a1 : w2.cell? ⟨w.heap.size, 0, none⟩ = some (.slice x.a.1 n x.a.2) := B1.cell 0
  have hxr := hx.up X0
  go_loopw [4, 5] (fun _ i wr => ∃ k : Nat, k ≤ n ∧ i = .int .i64 (k : Int) ∧ Ext w2 wr ∧ Hid (∀ j y, j < k → x.vals[j]? = some y → (y.number == N) = false)) (fun _ i _ => n - (intOf i).toNat)
  case atStart => exact ⟨0, Nat.zero_le _, rfl, Ext.refl _, fun j y h => absurd h (Nat.not_lt_zero _)⟩
  case round =>
    obtain ⟨k, hk, rfl, hE, hB⟩ := hrel
    have ar := hE.of_cell a1
    by_cases hlt : k < n
    · have hltI : (k : Int) < (n : Int) := by omega
      have hvr := (hxr.up hE).vals
      rw [Hn.out] at hvr
      obtain ⟨c1, off1, v, hA, hv, hb1, d0, d1, d2, d3⟩ := valCells hvr hlt
      rw [hA] at ar
      have Hv := Lib.hid hv
      by_cases hf : v.number = N
      · have q : (v.number == N) = true := by simp [hf]
        have Hf := Lib.hid q
        have hf' : (v.number : Int) = N := hf
        clear hv hf hA hf'
        go_wp2
        go_ret
        have h := idxB_found (p := fun v : ValR => v.number == N) Hv.out Hf.out (fun j y hj hy => hB.out j y hj hy)
        refine ⟨?_, X0.trans hE⟩
        show Ending.returned (.int .i64 (k : Int)) = _
        rw [HD.out, h]
      · have q : (v.number == N) = false := by simp [hf]
        have Hf := Lib.hid q
        clear hv hf hA
        go_wp2
        go_roundw
        case rel =>
          refine ⟨k + 1, by omega, by go_num, hE, fun j y hj hy => ?_⟩
          rcases Nat.lt_or_ge j k with h | h
          · exact hB.out j y h hy
          · have hjk : j = k := by omega
            subst hjk
            rw [Hv.out] at hy
            cases hy
            exact Hf.out
        case measure => simp [intOf]; omega
    · have hge : ¬ ((k : Int) < (n : Int)) := by omega
      go_wp2
      go_ret
      refine ⟨?_, X0.trans hE⟩
      have h := idxB_none (p := fun v : ValR => v.number == N) (l := x.vals) (fun j y hy => hB.out j y (by
        have := (List.getElem?_eq_some_iff.1 hy).1
        have := Hn.out
        omega) hy)
      show Ending.returned (.int .i64 (-1)) = _
      rw [HD.out, h]

end Go.Proofs.YtpicpebolghcfaaGreatDoor

/- Contracts of layer 14: texts and words in new memory. -/
namespace Go.Proofs.YtpicpebolghcfaaGreatDoor
open Go.RowKit
set_option linter.unusedVariables false

end Go.Proofs.YtpicpebolghcfaaGreatDoor

/- Layer 22: region 13 of the reference's Pieces. -/


namespace Go.Proofs.YtpicpebolghcfaaGreatDoor
open Go.RowKit Go.Shelf
set_option linter.unusedVariables false
set_option linter.unusedSimpArgs false

end Go.Proofs.YtpicpebolghcfaaGreatDoor

/- Layer 22: the reference's pieces at a way. -/



namespace Go.Proofs.YtpicpebolghcfaaGreatDoor
open Go.RowKit Go.Shelf
set_option linter.unusedVariables false
set_option linter.unusedSimpArgs false

end Go.Proofs.YtpicpebolghcfaaGreatDoor
