/- Contracts of layer 17: slices of slices of bytes, one behind the other. -/
import Derived.Test.YtpicpebolghcfaaGreatDoorQjW11
import Derived.Lib.AppendZerosOnto
import Derived.WalkKit

namespace Go.Proofs.YtpicpebolghcfaaGreatDoor
open Go.RowKit
set_option linter.unusedVariables false

structure BRow where
  A : Option Addr
  n : Nat
  c : Nat
  bs : List UInt8

def browV (r : BRow) : Value := .slice r.A r.n r.c

def BRowsAt (w : World) (A : Option Addr) (n c : Nat) (l : List BRow) : Prop := Reads w A n c 1 (l.map browV) ∧ ∀ r ∈ l, BytesAt w r.A r.n r.c r.bs

section
variable {w w' : World} {A : Option Addr} {n c : Nat} {l : List BRow}

theorem BRowsAt.up (h : BRowsAt w A n c l) (k : Ext w w') : BRowsAt w' A n c l := ⟨h.1.ext k, fun r hr => (h.2 r hr).ext k⟩

theorem BRowsAt.length (h : BRowsAt w A n c l) : l.length = n := by have := h.1.len; simpa using this

theorem BRowsAt.row (h : BRowsAt w A n c l) {k : Nat} (hk : k < n) : ∃ b off r, A = some ⟨b, off, none⟩ ∧ l[k]? = some r ∧ b < w.heap.size ∧ BytesAt w r.A r.n r.c r.bs ∧ w.cell? ⟨b, off + k, none⟩ = some (.slice r.A r.n r.c) := by
  obtain ⟨b, off, e, hb, hc⟩ := h.1.at_ (by omega)
  have hl := h.length
  have hx : l[k]? = some (l[k]'(by omega)) := List.getElem?_eq_getElem (by omega)
  exact ⟨b, off, _, e, hx, hb, h.2 _ (List.mem_of_getElem? hx), hc k _ (by rw [List.getElem?_map, hx]; rfl)⟩
end

def flatR (l : List BRow) : List UInt8 := l.flatMap (·.bs)

theorem flatR_snoc {l : List BRow} {k : Nat} {r : BRow} (h : l[k]? = some r) : flatR (l.take (k + 1)) = flatR (l.take k) ++ r.bs := by
  rw [List.take_add_one, h]
  simp [flatR]

theorem flatR_le (l : List BRow) (k : Nat) : (flatR (l.take k)).length ≤ (flatR l).length := by
  have : flatR l = flatR (l.take k) ++ flatR (l.drop k) := by
    unfold flatR
    rw [← List.flatMap_append, List.take_append_drop]
  rw [this, List.length_append]
  omega

theorem sGrow {n : Nat} {w : World} (hn : n ≤ 140737488355328) :
    Calls Tryz.prog 109 #[.slice none 0 0, .int .i64 (n : Int)] w fun e w' => ∃ A' c', e = .returned (.slice A' 0 c') ∧ Own w w' 5 1 A' 0 c' [] := by
  by_cases h0 : n = 0
  · subst h0
    go_enter Tryz.func109, Tryz.ntmps109
    go_wp2
    go_ret
    exact ⟨none, 0, rfl, Own.nil (Ext.refl _) _ 1⟩
  · obtain ⟨i, z, hi, hz, hsz, hby, hzs⟩ := elemB.info
    have h1 : (0 : Int) < n := by omega
    have hni : (n : Int) ≤ 140737488355328 := by omega
    have hold : (Builtin.firstCells i.size 0 (.slice none 0 0)).run Tryz.prog w.drew = .ok #[] w.drew := run_firstCells_none w.drew i.size 0 0 0
    have hrz := fun ty => Lib.run_append_grow_zeros (P := Tryz.prog) w 24 3 ty 5 i z .i64 .i64 Tryz.underlying24 Tryz.underlying3 hi hz none 0 0 [] hold n (by omega) (by omega) (by omega) (by omega) (by rw [hby]; omega) (by rw [hby]; exact growslice_fits (by omega) (by omega))
    simp only [Nat.zero_add] at hrz
    have hG1 := grownCap_ge w n 0 5
    have hG2 := grownCap_le_maxLen w n 0 5 (by unfold maxLen; omega)
    generalize grownCap w n 0 5 = G at *
    have hcs : (([] : List Value).toArray ++ Builtin.zeroCells z.cells n ++ Builtin.zeroCells z.cells (G - n)).size = G * 1 := by
      have h1 := zeroCells_length z.cells n
      have h2 := zeroCells_length z.cells (G - n)
      rw [hzs] at h1 h2
      simp only [Array.length_toList] at h1 h2
      simp only [Array.size_append, List.size_toArray, List.length_nil, h1, h2]
      omega
    generalize ([] : List Value).toArray ++ Builtin.zeroCells z.cells n ++ Builtin.zeroCells z.cells (G - n) = cs at *
    have hGi : (0 : Int) < (G : Int) := by omega
    have hG3 := hG2
    unfold maxLen at hG3
    have Hcs := Lib.hid hcs
    have HG2 := Lib.hid hG2
    clear hold hi hz hsz hby hzs hcs h0 hG2
    go_enter Tryz.func109, Tryz.ntmps109
    go_wp2_with (at_builtin; refine Lib.wpList_append_run _ rfl _ _ _ _ rfl _ _ rfl rfl _ _ (hrz _) ?_)
    go_ret
    exact ⟨_, _, rfl, World.ownsRow_made w.drew cs G (Nat.le_refl _) HG2.out Hcs.out, (by repeat with_reducible (first | exact Ext.refl _ | refine Ext.alloc ?_ _ | refine Ext.drew ?_ | refine Ext.drewN ?_ _ | refine Ext.setCell ?_ (by first | exact Nat.le_refl _ | omega | (simp; done) | (simp; omega)) _))⟩

theorem sConcat {A : Option Addr} {n c : Nat} {l : List BRow} {w : World} (hb : BRowsAt w A n c l) (hl : (flatR l).length ≤ 140737488351232) :
    Calls Tryz.prog 77 #[.slice A n c] w fun e w' => ∃ A' c', e = .returned (.slice A' (flatR l).length c') ∧ Own w w' 5 1 A' (flatR l).length c' ((flatR l).map bv) := by
  have hlen := hb.length
  have hmax := Reads.max hb.1
  have hcap := Reads.cap hb.1
  unfold maxLen at hmax
  have Hb := Lib.hid hb
  have Hlen := Lib.hid hlen
  have hfl : flatR (l.take n) = flatR l := by rw [List.take_of_length_le (by omega)]
  have Hfl := Lib.hid hfl
  clear hb hlen hfl
  go_enter Tryz.func77, Tryz.ntmps77
  go_wp2
  go_loop [3, 11] (fun u i => ∃ k : Nat, k ≤ n ∧ i = .int .i64 (k : Int) ∧ u = .int .i64 ((flatR (l.take k)).length : Int)) (fun _ i => n - (intOf i).toNat)
  case atStart => exact ⟨0, Nat.zero_le _, rfl, by simp [flatR]⟩
  case round =>
    obtain ⟨k, hk, rfl, rfl⟩ := hrel
    by_cases hlt : k < n
    · have hlti : (k : Int) < n := by omega
      obtain ⟨b, off, r, rfl, hr, hbl, hbr, c0⟩ := Hb.out.row hlt
      have hfs := flatR_snoc hr
      have hle := flatR_le l (k + 1)
      rw [hfs, List.length_append, hbr.length] at hle
      have hsum : ((flatR (l.take k)).length : Int) + r.n ≤ 140737488351232 := by omega
      have hnn : ¬ ((flatR (l.take k)).length : Int) + r.n < 0 := by omega
      have Hfs := Lib.hid (show ((flatR (l.take (k + 1))).length : Int) = (flatR (l.take k)).length + r.n by rw [hfs, List.length_append, hbr.length]; omega)
      have hwl : b < w.heap.size := hbl
      clear hr hfs hbr hle
      generalize (flatR (l.take k)).length = F at *
      go_wp2
      go_round
      case rel => exact ⟨k + 1, by omega, by go_num, by rw [Hfs.out]⟩
      case measure => simp [intOf]; omega
    · obtain rfl : k = n := by omega
      have hg := fun W => sGrow (n := (flatR l).length) (w := W) (by omega)
      have Hg := Lib.hid hg
      rw [Hfl.out]
      clear hg
      have hll : ((flatR l).length : Int) ≤ 140737488351232 := by omega
      obtain ⟨LL, hLL⟩ : ∃ LL, LL = (flatR l).length := ⟨_, rfl⟩
      rw [← hLL] at Hg hll ⊢
      have HLL := Lib.hid hLL
      clear hLL
      go_wp2_with (go_at_call 109; refine (Hg.out _).mono ?_; rintro e w1 ⟨A1, c1, rfl, own1⟩)
      go_loopw [6, 27] (fun u i wr => ∃ (j : Nat) (A2 : Option Addr) (c2 F : Nat), j ≤ k ∧ i = .int .i64 (j : Int) ∧ u = .slice A2 F c2 ∧ Hid (F = (flatR (l.take j)).length) ∧ Own w wr 5 1 A2 F c2 ((flatR (l.take j)).map bv)) (fun _ i _ => k - (intOf i).toNat)
      case atStart => exact ⟨0, A1, c1, 0, Nat.zero_le _, rfl, rfl, by show 0 = _; simp [flatR], by simpa [flatR] using own1⟩
      case round =>
        obtain ⟨j, A2, c2, F, hj, rfl, rfl, hF, own⟩ := hrel
        by_cases hlt2 : j < k
        · have hlti : (j : Int) < k := by omega
          obtain ⟨b, off, r, rfl, hr, hbl, hbr, c0⟩ := (Hb.out.up own.ext).row hlt2
          have hfs := flatR_snoc hr
          have hle := flatR_le l (j + 1)
          have hrn := hbr.length
          rw [hfs, List.length_append, hrn, ← hF.out] at hle
          have hFr : F + r.n ≤ 140737488351232 := by omega
          have Hfs := Lib.hid hfs
          have Hrn := Lib.hid hrn
          clear hr hfs hle hrn
          go_wp2_with (at_builtin; refine wpList_more elemB rfl (.tmp 31) (.tmp 32) rfl rfl own rfl hbr (bv_one _) (by omega) (by unfold maxLen; omega) ?_; intro A4 c4 w4 own4 _)
          go_roundw
          case rel => exact ⟨j + 1, A4, c4, F + r.n, by omega, by go_num, rfl, by show _ = _; rw [Hfs.out, List.length_append, Hrn.out, ← hF.out], by rw [Hfs.out, List.map_append]; exact own4⟩
          case measure => simp [intOf]; omega
        · obtain rfl : j = k := by omega
          have hF' := hF.out
          rw [Hfl.out] at hF' own
          have HF := Lib.hid hF'
          clear hF'
          go_wp2
          go_ret
          exact ⟨A2, c2, by rw [← HF.out]; rfl, by rw [← HF.out]; exact own⟩

end Go.Proofs.YtpicpebolghcfaaGreatDoor

/- Plain words for a stable sort in place: what swaps, shifts, rotations and merges make of a list. No program is named. -/


namespace Go.Proofs.YtpicpebolghcfaaGreatDoor
set_option linter.unusedVariables false

def ltK (key : Nat → Int) (x y : Nat) : Prop := key x < key y ∨ (key x = key y ∧ x < y)

theorem ltK_key {key : Nat → Int} {x y : Nat} (h : ltK key x y) : key x ≤ key y := by unfold ltK at h; omega

section
variable {key : Nat → Int}

/-! Insertion. -/

/-! Swapping two ranges; rotating. -/

/-! Merging. -/

end

end Go.Proofs.YtpicpebolghcfaaGreatDoor

/- Plain words for a stable sort in place: blocks that are merged, and the one sorted list. No program is named. -/

namespace Go.Proofs.YtpicpebolghcfaaGreatDoor
set_option linter.unusedVariables false

section
variable {key : Nat → Int}

/-! The one sorted list. -/

def insK (key : Nat → Int) (x : Nat) (l : List Nat) : List Nat := l.takeWhile (fun y => decide (key y ≤ key x)) ++ x :: l.dropWhile (fun y => decide (key y ≤ key x))

def sortK (key : Nat → Int) : Nat → List Nat
  | 0 => []
  | n + 1 => insK key n (sortK key n)

theorem insK_perm (key : Nat → Int) (x : Nat) (l : List Nat) : (insK key x l).Perm (x :: l) := by
  unfold insK
  refine List.perm_middle.trans ?_
  rw [List.takeWhile_append_dropWhile]

theorem sortK_perm (key : Nat → Int) : ∀ n, (sortK key n).Perm (List.range n)
  | 0 => List.Perm.refl _
  | n + 1 => by
    rw [List.range_succ]
    refine (insK_perm key n (sortK key n)).trans ?_
    refine ((sortK_perm key n).cons n).trans ?_
    exact (List.perm_append_comm (l₁ := [n]) (l₂ := List.range n))

theorem sortK_length (key : Nat → Int) (n : Nat) : (sortK key n).length = n := by rw [(sortK_perm key n).length_eq, List.length_range]

theorem sortK_mem {n i : Nat} : i ∈ sortK key n ↔ i < n := by rw [(sortK_perm key n).mem_iff, List.mem_range]

theorem insK_pair {x : Nat} : ∀ {l : List Nat}, l.Pairwise (ltK key) → (∀ y ∈ l, y < x) → (insK key x l).Pairwise (ltK key)
  | [], _, _ => by simp [insK]
  | y :: l, h, hx => by
    rw [List.pairwise_cons] at h
    by_cases c : key y ≤ key x
    · have e : insK key x (y :: l) = y :: insK key x l := by simp [insK, c]
      rw [e, List.pairwise_cons]
      refine ⟨fun z hz => ?_, insK_pair h.2 (fun z hz => hx z (List.mem_cons_of_mem _ hz))⟩
      rw [(insK_perm key x l).mem_iff] at hz
      rcases List.mem_cons.1 hz with rfl | hz
      · have := hx y List.mem_cons_self
        unfold ltK
        omega
      · exact h.1 z hz
    · have e : insK key x (y :: l) = x :: y :: l := by simp [insK, c]
      rw [e, List.pairwise_cons, List.pairwise_cons]
      refine ⟨fun z hz => ?_, h.1, h.2⟩
      rcases List.mem_cons.1 hz with rfl | hz
      · left; omega
      · have := ltK_key (h.1 z hz)
        left; omega

theorem sortK_pair (key : Nat → Int) : ∀ n, (sortK key n).Pairwise (ltK key)
  | 0 => List.Pairwise.nil
  | n + 1 => insK_pair (sortK_pair key n) (fun y hy => sortK_mem.1 hy)

theorem takeWhile_take {α : Type} (p : α → Bool) : ∀ (l : List α) (k : Nat), (∀ j x, j < k → l[j]? = some x → p x = true) → (∀ x, l[k]? = some x → p x = false) → k ≤ l.length → l.takeWhile p = l.take k ∧ l.dropWhile p = l.drop k
  | [], k, _, _, h => by simp
  | y :: l, 0, _, h2, _ => by
    have := h2 y rfl
    simp [this]
  | y :: l, k + 1, h1, h2, h => by
    have hy := h1 0 y (by omega) rfl
    have := takeWhile_take p l k (fun j x hj hx => h1 (j + 1) x (by omega) (by simpa using hx)) (fun x hx => h2 x (by simpa using hx)) (by simpa using h)
    simp [hy, this.1, this.2]

theorem insK_at {key : Nat → Int} {x k : Nat} {l : List Nat} (h1 : ∀ j y, j < k → l[j]? = some y → key y ≤ key x) (h2 : ∀ y, l[k]? = some y → ¬ key y ≤ key x) (hk : k ≤ l.length) : insK key x l = l.take k ++ x :: l.drop k := by
  obtain ⟨e1, e2⟩ := takeWhile_take (fun y => decide (key y ≤ key x)) l k (fun j y hj hy => decide_eq_true (h1 j y hj hy)) (fun y hy => decide_eq_false (h2 y hy)) hk
  unfold insK
  rw [e1, e2]
end

end Go.Proofs.YtpicpebolghcfaaGreatDoor
