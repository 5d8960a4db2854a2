/- Contracts of layer 14: a meaning as the reference has it. -/
import Derived.Test.YtnnphodgegcddaaQeM14
import Derived.Test.YtnnphodgegcddaaQeW10

namespace Go.Proofs.Ytnnphodgegcddaa
open Go.RowKit
set_option linter.unusedVariables false

structure Trees (w wr : World) (b3 : Nat) (A : Option Addr) (old : Nat → Prop) (ys : List MsgR) : Prop where
  at_ : ∀ y ∈ ys, TreeAt wr y
  away : ∀ y ∈ ys, ∀ b, UsesT y b → b ≠ b3 ∧ (Value.slice A 0 0).ownBlock ≠ some b
  from_ : ∀ y ∈ ys, ∀ b, UsesT y b → old b ∨ w.heap.size ≤ b
  size : w.heap.size ≤ wr.heap.size

section
variable {w wr w' : World} {b3 : Nat} {A A' : Option Addr} {old : Nat → Prop} {ys : List MsgR}

theorem Trees.nil (h : w.heap.size ≤ wr.heap.size) : Trees w wr b3 A old [] := ⟨(fun y h => by cases h), (fun y h => by cases h), (fun y h => by cases h), h⟩

theorem Trees.up (h : Trees w wr b3 A old ys) (k : Ext wr w') : Trees w w' b3 A old ys := ⟨fun y hy => (h.at_ y hy).up k, h.away, h.from_, Nat.le_trans h.size k.size⟩

theorem Trees.lt (h : Trees w wr b3 A old ys) : ∀ y ∈ ys, ∀ b, UsesT y b → b < wr.heap.size := fun y hy b hb => (h.at_ y hy).lt hb

theorem Trees.snoc (h : Trees w wr b3 A old ys) {y : MsgR} (hy : TreeAt wr y) (ha : ∀ b, UsesT y b → b ≠ b3 ∧ (Value.slice A 0 0).ownBlock ≠ some b) (hf : ∀ b, UsesT y b → old b ∨ w.heap.size ≤ b) : Trees w wr b3 A old (ys ++ [y]) := by
  refine ⟨fun z hz => ?_, fun z hz => ?_, fun z hz => ?_, h.size⟩
  all_goals
    rcases List.mem_append.1 hz with hz | hz
  · exact h.at_ z hz
  · rw [List.mem_singleton] at hz; subst hz; exact hy
  · exact h.away z hz
  · rw [List.mem_singleton] at hz; subst hz; exact ha
  · exact h.from_ z hz
  · rw [List.mem_singleton] at hz; subst hz; exact hf

theorem Trees.grow (h : Trees w wr b3 A old ys) {W : World} (hE : Ext wr W) {n c : Nat} (hg : W.grownBy w' (Value.slice A n c).ownBlock) (hm : Moved W A A') : Trees w w' b3 A' old ys := by
  have hS : Stays (fun b => (Value.slice A 0 0).ownBlock ≠ some b) W w' := Stays.grown hg (fun k hk => by rw [ownBlock_any A n c 0 0] at hk; exact fun q => q hk)
  refine ⟨fun y hy => ((h.at_ y hy).up hE).stays hS (fun b hb => (h.away y hy b hb).2), fun y hy b hb => ⟨(h.away y hy b hb).1, ?_⟩, h.from_, Nat.le_trans h.size (Nat.le_trans hE.size hS.size)⟩
  have hlt := h.lt y hy b hb
  have hsz := hE.size
  rcases hm with e | e
  · rw [e]; exact (h.away y hy b hb).2
  · rw [e]
    intro q
    injection q with q
    omega

theorem Trees.store (h : Trees w wr b3 A old ys) (o : Nat) (u : Value) : Trees w (wr.setCell ⟨b3, o, none⟩ u) b3 A old ys :=
  ⟨fun y hy => (h.at_ y hy).stays ((Stays.refl (fun b => b ≠ b3) wr).set (fun e => e rfl) u) (fun b hb => (h.away y hy b hb).1), h.away, h.from_, by simpa [World.setCell] using h.size⟩
end

theorem BlkT.set_far {w : World} {b : Nat} {t : TypeId} {cs : Array Value} (h : BlkT w b t cs) {b' : Nat} (o : Nat) (hb : b' ≠ b) (u : Value) : BlkT (w.setCell ⟨b', o, none⟩ u) b t cs := h.far (p := ⟨b', o, none⟩) (fun e => hb e.symm) u

theorem elemRM : Elem Try.prog 37 66 2 48 := Elem.mk' (z := .agg #[.slice none 0 0, .slice none 0 0]) Try.underlying37 (by kernel_rfl) rfl (by omega)

theorem elemRV : Elem Try.prog 64 39 4 80 := Elem.mk' (z := .agg #[.int .i64 0, .slice none 0 0, .slice none 0 0, .slice none 0 0]) Try.underlying64 (by kernel_rfl) rfl (by omega)

theorem elemStr : Elem Try.prog 30 9 1 16 := Elem.mk' (z := .string ⟨#[]⟩) Try.underlying30 (by kernel_rfl) rfl (by omega)

def TOf (x : MsgR) : Prop := ∀ w : World, TreeAt w x → FitT 1000000000000 x → Calls Try.prog 16 #[treeV x] w fun e w' => ∃ y, e = .returned (treeV y) ∧ bare y = bare x ∧ TreeAt w' y ∧ (∀ b, UsesT y b → UsesT x b ∨ w.heap.size ≤ b) ∧ Ext w w'

def TOfV (v : ValR) : Prop := ∀ w : World, ValAt w v → (v.subs.length ≤ 1000000000000) → (∀ y ∈ v.subs, FitT 1000000000000 y) → Calls Try.prog 7 #[tvalV v] w fun e w' => ∃ u, e = .returned (tvalV u) ∧ bareV u = bareV v ∧ ValAt w' u ∧ (∀ b, UsesV u b → UsesV v b ∨ w.heap.size ≤ b) ∧ Ext w w'

set_option maxRecDepth 100000 in
set_option maxHeartbeats 2000000 in
theorem tOfV {v : ValR} (ih : ∀ y ∈ v.subs, TOf y) : TOfV v := by
  intro w hv hfit hfits
  have hmax := hv.own.subs.max
  have hcap := hv.own.subs.cap
  unfold maxLen at hmax
  have Ih := Lib.hid ih
  have Hfits := Lib.hid hfits
  unfold tvalV
  obtain ⟨vc, hvc⟩ : ∃ vc, vc = v.c.1 := ⟨_, rfl⟩
  rw [← hvc]
  have Hvc := Lib.hid hvc
  clear hvc
  generalize hm : v.subs.length = m at *
  have Hm := Lib.hid hm
  clear ih hfits hm
  go_enter Try.func7, Try.ntmps7
  go_wp2
  have B1 : BlkT (((w.alloc (.cells #[.int .i64 v.number, .slice v.a.1 v.words.length v.a.2, .slice v.b.1 v.texts.length v.b.2, .slice vc m v.c.2] 33)).alloc (.cells #[.int .i64 0, .slice none 0 0, .slice none 0 0, .slice none 0 0] 39)).alloc (.cells #[.int .i64 v.number, .slice v.a.1 v.words.length v.a.2, .slice v.b.1 v.texts.length v.b.2, .slice none 0 0] 39)) w.heap.size 33 #[.int .i64 v.number, .slice v.a.1 v.words.length v.a.2, .slice v.b.1 v.texts.length v.b.2, .slice vc m v.c.2] := ((BlkT.new w _ _ rfl).alloc _).alloc _
  have B2 : BlkT (((w.alloc (.cells #[.int .i64 v.number, .slice v.a.1 v.words.length v.a.2, .slice v.b.1 v.texts.length v.b.2, .slice vc m v.c.2] 33)).alloc (.cells #[.int .i64 0, .slice none 0 0, .slice none 0 0, .slice none 0 0] 39)).alloc (.cells #[.int .i64 v.number, .slice v.a.1 v.words.length v.a.2, .slice v.b.1 v.texts.length v.b.2, .slice none 0 0] 39)) (w.heap.size + 1) 39 #[.int .i64 0, .slice none 0 0, .slice none 0 0, .slice none 0 0] := (BlkT.new _ _ _ (by simp)).alloc _
  have B3 : BlkT (((w.alloc (.cells #[.int .i64 v.number, .slice v.a.1 v.words.length v.a.2, .slice v.b.1 v.texts.length v.b.2, .slice vc m v.c.2] 33)).alloc (.cells #[.int .i64 0, .slice none 0 0, .slice none 0 0, .slice none 0 0] 39)).alloc (.cells #[.int .i64 v.number, .slice v.a.1 v.words.length v.a.2, .slice v.b.1 v.texts.length v.b.2, .slice none 0 0] 39)) (w.heap.size + 1 + 1) 39 #[.int .i64 v.number, .slice v.a.1 v.words.length v.a.2, .slice v.b.1 v.texts.length v.b.2, .slice none 0 0] := BlkT.new _ _ _ (by simp)
  have X3 : Ext w (((w.alloc (.cells #[.int .i64 v.number, .slice v.a.1 v.words.length v.a.2, .slice v.b.1 v.texts.length v.b.2, .slice vc m v.c.2] 33)).alloc (.cells #[.int .i64 0, .slice none 0 0, .slice none 0 0, .slice none 0 0] 39)).alloc (.cells #[.int .i64 v.number, .slice v.a.1 v.words.length v.a.2, .slice v.b.1 v.texts.length v.b.2, .slice none 0 0] 39)) := (by repeat with_reducible (first | exact Ext.refl _ | refine Ext.alloc ?_ _ | refine Ext.drew ?_ | refine Ext.drewN ?_ _ | refine Ext.setCell ?_ (by first | exact Nat.le_refl _ | omega | (simp; done) | (simp; omega)) _))
  generalize ((w.alloc (.cells #[.int .i64 v.number, .slice v.a.1 v.words.length v.a.2, .slice v.b.1 v.texts.length v.b.2, .slice vc m v.c.2] 33)).alloc (.cells #[.int .i64 0, .slice none 0 0, .slice none 0 0, .slice none 0 0] 39)).alloc (.cells #[.int .i64 v.number, .slice v.a.1 v.words.length v.a.2, .slice v.b.1 v.texts.length v.b.2, .slice none 0 0] 39) = w3 at *
  go_loopw [4] (fun i wr => ∃ (k : Nat) (A2 : Option Addr) (c2 : Nat) (ys : List MsgR), k ≤ m ∧ i = .int .i64 (k : Int) ∧ BlkT wr w.heap.size 33 #[.int .i64 v.number, .slice v.a.1 v.words.length v.a.2, .slice v.b.1 v.texts.length v.b.2, .slice vc m v.c.2] ∧ BlkT wr (w.heap.size + 1) 39 #[.int .i64 0, .slice none 0 0, .slice none 0 0, .slice none 0 0] ∧ BlkT wr (w.heap.size + 1 + 1) 39 #[.int .i64 v.number, .slice v.a.1 v.words.length v.a.2, .slice v.b.1 v.texts.length v.b.2, .slice A2 k c2] ∧ Own w wr 66 2 A2 k c2 (ys.flatMap treeC) ∧ Hid (ys.map bare = (v.subs.take k).map bare) ∧ Trees w3 wr (w.heap.size + 1 + 1) A2 (UsesV v) ys) (fun i _ => m - (intOf i).toNat)
  case atStart => exact ⟨0, none, 0, [], Nat.zero_le _, rfl, B1, B2, B3, Own.nil X3 _ _, rfl, Trees.nil (Nat.le_refl _)⟩
  case round =>
    obtain ⟨k, A2, c2, ys, hk, rfl, hB1, hB2, hB3, own, hD, hT⟩ := hrel
    have z3 : wr.cell? ⟨w.heap.size, 3, none⟩ = some (.slice vc m v.c.2) := hB1.cell 3
    have z1 := hB1.lt
    have y1 := hB3.lt
    by_cases hlt : k < m
    · have hltI : (k : Int) < m := by omega
      have hvr := hv.up own.ext
      have hsr := hvr.own.subs
      rw [Hm.out, ← Hvc.out] at hsr
      obtain ⟨b5, off5, y, hA, hy, hb5, e0, e1⟩ := treeCells hsr hlt
      have hsw := hv.own.subs
      rw [Hm.out, ← Hvc.out] at hsw
      obtain ⟨b5', off5', y5, hA', hy', hb5w, e0w, e1w⟩ := treeCells hsw hlt
      rw [hA] at hA'
      cases hA'
      subst hA
      rw [hy] at hy'
      cases hy'
      clear hsw
      have hym := List.mem_of_getElem? hy
      have hty := hvr.sub y hym
      have hcall : ∀ W, TreeAt W y → Calls Try.prog 16 #[treeV y] W fun e w' => ∃ y', e = .returned (treeV y') ∧ bare y' = bare y ∧ TreeAt w' y' ∧ (∀ b, UsesT y' b → UsesT y b ∨ W.heap.size ≤ b) ∧ Ext W w' := fun W h => Ih.out y hym W h (Hfits.out y hym)
      unfold treeV at hcall
      have y3 : wr.cell? ⟨w.heap.size + 1 + 1, 3, none⟩ = some (.slice A2 k c2) := hB3.cell 3
      have f3 := hB3.free 3
      have Hcall := Lib.hid hcall
      have Hy := Lib.hid hy
      clear hcall hy
      go_wp2
      have Xw := own.ext
      go_region_law (first
        | (go_simp; go_at_call 16; refine (Hcall.out _ (hty.up (by repeat with_reducible (first | exact Ext.refl _ | refine Ext.alloc ?_ _ | refine Ext.drew ?_ | refine Ext.drewN ?_ _ | refine Ext.setCell ?_ (by first | exact Nat.le_refl _ | omega | (simp; done) | (simp; omega)) _)))).mono ?_; rintro e w5 ⟨y', rfl, hb', hT', hU', E5⟩; have X5 : Ext wr w5 := Ext.trans (by repeat with_reducible (first | exact Ext.refl _ | refine Ext.alloc ?_ _ | refine Ext.drew ?_ | refine Ext.drewN ?_ _ | refine Ext.setCell ?_ (by first | exact Nat.le_refl _ | omega | (simp; done) | (simp; omega)) _)) E5; have y5 := X5.of_cell y3; have y5l := Nat.lt_of_lt_of_le y1 X5.size)
        | (refine step_moreW elemRM (by rfl) (.tmp 20) (.tmp 27) (by rfl) (by rfl) ((own.up X5).alloc _) (by rfl) (reads_oneN w5 (treeC y') 66 rfl rfl) (by simpa using treeC_one [y']) (by omega) (by unfold maxLen; omega) ?_; intro A6 c6 w6 own6 g6 m6; have hB6 := ((hB3.up X5).alloc _).beside ((own.up X5).alloc _) (by decide) g6; have hB61 := ((hB1.up X5).alloc _).beside ((own.up X5).alloc _) (by decide) g6; have hl6 := hB6.lt; have hf6 := hB6.free 3; have hc6 : w6.cell? ⟨w.heap.size + 1 + 1, 3, none⟩ = some (.slice A2 k c2) := hB6.cell 3))
      all_goals
        go_simp
        go_wp2
        go_roundw
        case rel =>
          have hnew : ∀ b, UsesT y' b → b < w.heap.size ∧ UsesV v b ∨ wr.heap.size ≤ b := fun b hb => by
            rcases hU' b hb with h | h
            · have h2 : UsesV v b := .inr ⟨y, hym, h⟩
              exact .inl ⟨hv.lt h2, h2⟩
            · refine .inr ?_
              first | exact h | (have := (show Ext wr _ from X5).size; simpa using h)
          have hTg := ((hT.up X5).snoc hT' (fun b hb => by
            rcases hnew b hb with ⟨h, _⟩ | h
            · refine ⟨by omega, fun q => ?_⟩
              have := (own.block_new (g := b) (by rw [ownBlock_any A2 k c2 0 0]; exact q)).1
              omega
            · refine ⟨by omega, fun q => ?_⟩
              have := (own.block_new (g := b) (by rw [ownBlock_any A2 k c2 0 0]; exact q)).2
              omega) (fun b hb => by
            rcases hnew b hb with ⟨_, h⟩ | h
            · exact .inl h
            · exact .inr (Nat.le_trans hT.size h))).grow (Ext.alloc (Ext.refl w5) _) g6 m6
          have hB36 := hB6.set_ 3 (.slice A6 (k + 1) c6)
          have hfar := own6.far hB6 (by decide) (show w.heap.size ≤ w.heap.size + 1 + 1 by omega) 3 (.slice A6 (k + 1) c6)
          refine ⟨k + 1, A6, c6, ys ++ [y'], by omega, by go_num, (by exact hB61.set_far _ (by show w.heap.size + 1 + 1 ≠ w.heap.size; omega) _), (((hB2.up X5).alloc _).beside ((own.up X5).alloc _) (by decide) g6).set_far _ (by show w.heap.size + 1 + 1 ≠ w.heap.size + 1; omega) _, hB36, ?_, ?_, hTg.store 3 _⟩
          · rw [List.flatMap_append]
            simpa using hfar
          · show _ = _
            rw [take_snoc _ _ _ Hy.out, List.map_append, List.map_append, hD.out]
            simp [hb']
        case measure => simp [intOf]; omega
    · have hge : ¬ ((k : Int) < (m : Int)) := by omega
      have p0 : wr.cell? ⟨w.heap.size + 1 + 1, 0, none⟩ = some (.int .i64 v.number) := hB3.cell 0
      have p1 : wr.cell? ⟨w.heap.size + 1 + 1, 1, none⟩ = some (.slice v.a.1 v.words.length v.a.2) := hB3.cell 1
      have p2 : wr.cell? ⟨w.heap.size + 1 + 1, 2, none⟩ = some (.slice v.b.1 v.texts.length v.b.2) := hB3.cell 2
      have p3 : wr.cell? ⟨w.heap.size + 1 + 1, 3, none⟩ = some (.slice A2 k c2) := hB3.cell 3
      have s0 : wr.cell? ⟨w.heap.size + 1, 0, none⟩ = some (.int .i64 0) := hB2.cell 0
      have s1 : wr.cell? ⟨w.heap.size + 1, 1, none⟩ = some (.slice none 0 0) := hB2.cell 1
      have s2 : wr.cell? ⟨w.heap.size + 1, 2, none⟩ = some (.slice none 0 0) := hB2.cell 2
      have s3 : wr.cell? ⟨w.heap.size + 1, 3, none⟩ = some (.slice none 0 0) := hB2.cell 3
      have r0 := hB2.free 0
      have r1 := hB2.free 1
      have r2 := hB2.free 2
      have r3 := hB2.free 3
      have l2 := hB2.lt
      go_wp2
      (try simp only [Exit.inBlock, Exit.then])
      have BF := (((hB2.set_ 0 (.int .i64 v.number)).set_ 1 (.slice v.a.1 v.words.length v.a.2)).set_ 2 (.slice v.b.1 v.texts.length v.b.2)).set_ 3 (.slice A2 k c2)
      have EW : Ext w wr := own.ext
      have EF : Ext w ((((wr.setCell ⟨w.heap.size + 1, 0, none⟩ (.int .i64 v.number)).setCell ⟨w.heap.size + 1, 1, none⟩ (.slice v.a.1 v.words.length v.a.2)).setCell ⟨w.heap.size + 1, 2, none⟩ (.slice v.b.1 v.texts.length v.b.2)).setCell ⟨w.heap.size + 1, 3, none⟩ (.slice A2 k c2)) :=
        (((EW.setCell (show w.heap.size ≤ w.heap.size + 1 by omega) _).setCell (show w.heap.size ≤ w.heap.size + 1 by omega) _).setCell (show w.heap.size ≤ w.heap.size + 1 by omega) _).setCell (show w.heap.size ≤ w.heap.size + 1 by omega) _
      have o1 := own.far hB2 (by decide) (show w.heap.size ≤ w.heap.size + 1 by omega) 0 (.int .i64 v.number)
      have o2 := o1.far (hB2.set_ 0 (.int .i64 v.number)) (by decide) (show w.heap.size ≤ w.heap.size + 1 by omega) 1 (.slice v.a.1 v.words.length v.a.2)
      have o3 := o2.far ((hB2.set_ 0 (.int .i64 v.number)).set_ 1 (.slice v.a.1 v.words.length v.a.2)) (by decide) (show w.heap.size ≤ w.heap.size + 1 by omega) 2 (.slice v.b.1 v.texts.length v.b.2)
      have o4 := o3.far (((hB2.set_ 0 (.int .i64 v.number)).set_ 1 (.slice v.a.1 v.words.length v.a.2)).set_ 2 (.slice v.b.1 v.texts.length v.b.2)) (by decide) (show w.heap.size ≤ w.heap.size + 1 by omega) 3 (.slice A2 k c2)
      refine bodyPost_ret (results_cell_row (ty := 39) rfl _ _ (w.heap.size + 1) _ _ (0, 0) _ rfl BF Try.underlying39 rfl (by kernel_rfl)) rfl ?_
      have hkm : k = m := by omega
      have hlen : ys.length = m := by
        have h1 := congrArg List.length hD.out
        simp only [List.length_map, List.length_take] at h1
        have h2 := Hm.out
        omega
      have hl3 := B3.lt
      have hS : Stays (fun b => b ≠ w.heap.size + 1) wr ((((wr.setCell ⟨w.heap.size + 1, 0, none⟩ (.int .i64 v.number)).setCell ⟨w.heap.size + 1, 1, none⟩ (.slice v.a.1 v.words.length v.a.2)).setCell ⟨w.heap.size + 1, 2, none⟩ (.slice v.b.1 v.texts.length v.b.2)).setCell ⟨w.heap.size + 1, 3, none⟩ (.slice A2 k c2)) :=
        ((((Stays.refl _ wr).set (fun e => e rfl) _).set (fun e => e rfl) _).set (fun e => e rfl) _).set (fun e => e rfl) _
      have hvF := hv.up EF
      have hYs : ∀ y ∈ ys, ∀ b, UsesT y b → UsesV v b ∨ w3.heap.size ≤ b := hT.from_
      have ho4 := o4.reads
      refine ⟨⟨v.a, v.b, (A2, c2), v.number, v.words, v.texts, ys⟩, ?_, ?_, ?_, ?_, EF⟩
      · show Ending.returned _ = Ending.returned _
        rw [hlen, ← hkm]
        rfl
      · unfold bareV
        simp only
        rw [hD.out, hkm, ← Hm.out, List.take_length]
      · refine ⟨⟨hvF.own.num, hvF.own.words, hvF.own.small, hvF.own.texts, ?_⟩, fun y hy => ?_⟩
        · show Reads _ A2 ys.length c2 2 (ys.flatMap treeC)
          rw [hlen, ← hkm]
          exact ho4
        · refine (hT.at_ y hy).stays hS (fun b hb => ?_)
          rcases hYs y hy b hb with h | h
          · have := hv.lt h
            omega
          · omega
      · intro b hb
        rcases hb with hb | ⟨y, hy, hb⟩
        · rcases hb with hb | hb | hb
          · exact .inl (.inl (.inl hb))
          · exact .inl (.inl (.inr (.inl hb)))
          · refine .inr (o4.uses_new (b := b) ?_)
            have hb' : UsesA A2 ys.length b := hb
            rw [hlen, ← hkm] at hb'
            exact hb'
        · rcases hYs y hy b hb with h | h
          · exact .inl h
          · exact .inr (by omega)


structure ValsT (w wr : World) (b3 : Nat) (A : Option Addr) (old : Nat → Prop) (U : Sl) (us : List ByteArray) (ys : List ValR) : Prop where
  at_ : ∀ y ∈ ys, ValAt wr y
  unk : TextsAt wr U us
  away : ∀ y ∈ ys, ∀ b, UsesV y b → b ≠ b3 ∧ (Value.slice A 0 0).ownBlock ≠ some b
  awayU : ∀ b, UsesA U.1 us.length b → b ≠ b3 ∧ (Value.slice A 0 0).ownBlock ≠ some b
  from_ : ∀ y ∈ ys, ∀ b, UsesV y b → old b ∨ w.heap.size ≤ b
  size : w.heap.size ≤ wr.heap.size

section
variable {w wr w' : World} {b3 : Nat} {A A' : Option Addr} {old : Nat → Prop} {U : Sl} {us : List ByteArray} {ys : List ValR}

theorem ValsT.up (h : ValsT w wr b3 A old U us ys) (k : Ext wr w') : ValsT w w' b3 A old U us ys := ⟨fun y hy => (h.at_ y hy).up k, h.unk.up k, h.away, h.awayU, h.from_, Nat.le_trans h.size k.size⟩

theorem ValsT.lt (h : ValsT w wr b3 A old U us ys) : ∀ y ∈ ys, ∀ b, UsesV y b → b < wr.heap.size := fun y hy b hb => (h.at_ y hy).lt hb

theorem ValsT.snoc (h : ValsT w wr b3 A old U us ys) {y : ValR} (hy : ValAt wr y) (ha : ∀ b, UsesV y b → b ≠ b3 ∧ (Value.slice A 0 0).ownBlock ≠ some b) (hf : ∀ b, UsesV y b → old b ∨ w.heap.size ≤ b) : ValsT w wr b3 A old U us (ys ++ [y]) := by
  refine ⟨fun z hz => ?_, h.unk, fun z hz => ?_, h.awayU, fun z hz => ?_, h.size⟩
  all_goals
    rcases List.mem_append.1 hz with hz | hz
  · exact h.at_ z hz
  · rw [List.mem_singleton] at hz; subst hz; exact hy
  · exact h.away z hz
  · rw [List.mem_singleton] at hz; subst hz; exact ha
  · exact h.from_ z hz
  · rw [List.mem_singleton] at hz; subst hz; exact hf

theorem ValsT.grow (h : ValsT w wr b3 A old U us ys) {W : World} (hE : Ext wr W) {n c : Nat} (hg : W.grownBy w' (Value.slice A n c).ownBlock) (hm : Moved W A A') : ValsT w w' b3 A' old U us ys := by
  have hS : Stays (fun b => (Value.slice A 0 0).ownBlock ≠ some b) W w' := Stays.grown hg (fun k hk => by rw [ownBlock_any A n c 0 0] at hk; exact fun q => q hk)
  have hnew : ∀ b, b < wr.heap.size → (Value.slice A 0 0).ownBlock ≠ some b → (Value.slice A' 0 0).ownBlock ≠ some b := by
    intro b hlt h0
    have hsz := hE.size
    rcases hm with e | e
    · rw [e]; exact h0
    · rw [e]
      intro q
      injection q with q
      omega
  exact ⟨fun y hy => ((h.at_ y hy).up hE).stays hS (fun b hb => (h.away y hy b hb).2), (h.unk.up hE).stays hS (fun b hb => (h.awayU b hb).2),
    fun y hy b hb => ⟨(h.away y hy b hb).1, hnew b (h.lt y hy b hb) (h.away y hy b hb).2⟩, fun b hb => ⟨(h.awayU b hb).1, hnew b (h.unk.at_.uses_lt hb) (h.awayU b hb).2⟩, h.from_, Nat.le_trans h.size (Nat.le_trans hE.size hS.size)⟩

theorem ValsT.store (h : ValsT w wr b3 A old U us ys) (o : Nat) (u : Value) : ValsT w (wr.setCell ⟨b3, o, none⟩ u) b3 A old U us ys :=
  ⟨fun y hy => (h.at_ y hy).stays ((Stays.refl (fun b => b ≠ b3) wr).set (fun e => e rfl) u) (fun b hb => (h.away y hy b hb).1), h.unk.stays ((Stays.refl (fun b => b ≠ b3) wr).set (fun e => e rfl) u) (fun b hb => (h.awayU b hb).1), h.away, h.awayU, h.from_, by simpa [World.setCell] using h.size⟩
end

set_option maxRecDepth 100000 in
set_option maxHeartbeats 2000000 in
theorem tOfM {x : MsgR} (ih : ∀ v ∈ x.vals, TOfV v) : TOf x := by
  intro w hx hfit
  have hvals := hx.vals
  have hunk := hx.unk
  have hmax := hvals.max
  have hcap := hvals.cap
  have humax := hunk.at_.max
  have hucap := hunk.at_.cap
  have hfv := hfit.vals
  have hfu := hfit.unk
  unfold maxLen at hmax humax
  have Ih := Lib.hid ih
  have Hfit := Lib.hid hfit
  unfold treeV
  obtain ⟨va, hva⟩ : ∃ va, va = x.a.1 := ⟨_, rfl⟩
  obtain ⟨vb, hvb⟩ : ∃ vb, vb = x.b.1 := ⟨_, rfl⟩
  rw [← hva, ← hvb]
  have hu := hunk.at_
  rw [← hvb] at hu
  have Hva := Lib.hid hva
  have Hvb := Lib.hid hvb
  generalize hm : x.vals.length = m at *
  have Hm := Lib.hid hm
  generalize hun : x.unk.length = un at *
  have Hun := Lib.hid hun
  clear ih hm hun hva hvb hvals hunk hfit
  go_enter Try.func16, Try.ntmps16
  go_wp2_with (first | (at_builtin; refine wpList_more elemStr rfl (.tmp 5) (.tmp 7) rfl rfl (Own.emptyAt (Ext.refl _) 9 1 (by simp)) rfl (hu.ext (by repeat with_reducible (first | exact Ext.refl _ | refine Ext.alloc ?_ _ | refine Ext.drew ?_ | refine Ext.drewN ?_ _ | refine Ext.setCell ?_ (by first | exact Nat.le_refl _ | omega | (simp; done) | (simp; omega)) _))) (strV_one _) (by omega) (by unfold maxLen; omega) ?_; intro A4 c4 w4 own4 _; simp only [Nat.zero_add, List.nil_append] at own4))
  have hp4 := own4.ext.size
  have hp4 : w.heap.size + 1 + 1 ≤ w4.heap.size := by simpa using hp4
  have X2 : Ext w ((w.alloc (.cells #[.slice va m x.a.2, .slice vb un x.b.2] 61)).alloc (.cells #[.slice none 0 0, .slice none 0 0] 66)) := (by repeat with_reducible (first | exact Ext.refl _ | refine Ext.alloc ?_ _ | refine Ext.drew ?_ | refine Ext.drewN ?_ _ | refine Ext.setCell ?_ (by first | exact Nat.le_refl _ | omega | (simp; done) | (simp; omega)) _))
  have X4 : Ext w w4 := X2.trans own4.ext
  have B1 : BlkT (w4.alloc (.cells #[.slice none 0 0, .slice A4 un c4] 66)) w.heap.size 61 #[.slice va m x.a.2, .slice vb un x.b.2] := (((BlkT.new w _ _ rfl).alloc _).up own4.ext).alloc _
  have B2 : BlkT (w4.alloc (.cells #[.slice none 0 0, .slice A4 un c4] 66)) (w.heap.size + 1) 66 #[.slice none 0 0, .slice none 0 0] := ((BlkT.new _ _ _ (by simp)).up own4.ext).alloc _
  have B3 : BlkT (w4.alloc (.cells #[.slice none 0 0, .slice A4 un c4] 66)) w4.heap.size 66 #[.slice none 0 0, .slice A4 un c4] := BlkT.new _ _ _ rfl
  have X3 : Ext w (w4.alloc (.cells #[.slice none 0 0, .slice A4 un c4] 66)) := X4.alloc _
  have hx3 := hx.up X3
  have hu4 : ∀ b, UsesA A4 un b → w.heap.size ≤ b ∧ b < w4.heap.size := fun b hb => by
    have h1 := own4.uses_new hb
    have h2 := own4.reads.uses_lt hb
    have h1 : w.heap.size + 1 + 1 ≤ b := by simpa using h1
    omega
  have V0 : ValsT (w4.alloc (.cells #[.slice none 0 0, .slice A4 un c4] 66)) (w4.alloc (.cells #[.slice none 0 0, .slice A4 un c4] 66)) w4.heap.size none (UsesT x) (A4, c4) x.unk [] := by
    refine ⟨(fun y h => by cases h), ⟨?_, hx.unk.size⟩, (fun y h => by cases h), fun b hb => ⟨?_, (fun q => by cases q)⟩, (fun y h => by cases h), Nat.le_refl _⟩
    · have h := own4.reads.ext ((Ext.refl w4).alloc (.cells #[.slice none 0 0, .slice A4 un c4] 66))
      show Reads _ A4 x.unk.length c4 1 _
      rw [Hun.out]
      exact h
    · have h := hu4 b (by have h := hb; rw [Hun.out] at h; exact h)
      omega
  have hu2 : ∀ b, UsesA A4 un b → w.heap.size + 1 + 1 ≤ b := fun b hb => by
    have h1 := own4.uses_new hb
    simpa using h1
  have Hu2 := Lib.hid hu2
  have B3l := B3.lt
  clear own4 X4 hu4 hu2 X2
  generalize w4.alloc (.cells #[.slice none 0 0, .slice A4 un c4] 66) = w3 at *
  generalize w4.heap.size = b3 at *
  clear hu
  go_loopw [4] (fun i wr => ∃ (k : Nat) (A2 : Option Addr) (c2 : Nat) (ys : List ValR), k ≤ m ∧ i = .int .i64 (k : Int) ∧ BlkT wr w.heap.size 61 #[.slice va m x.a.2, .slice vb un x.b.2] ∧ BlkT wr (w.heap.size + 1) 66 #[.slice none 0 0, .slice none 0 0] ∧ BlkT wr b3 66 #[.slice A2 k c2, .slice A4 un c4] ∧ Own w wr 39 4 A2 k c2 (ys.flatMap tvalC) ∧ Hid (ys.map bareV = (x.vals.take k).map bareV) ∧ ValsT w3 wr b3 A2 (UsesT x) (A4, c4) x.unk ys) (fun i _ => m - (intOf i).toNat)
  case atStart => exact ⟨0, none, 0, [], Nat.zero_le _, rfl, B1, B2, B3, Own.nil X3 _ _, rfl, V0⟩
  case round =>
    obtain ⟨k, A2, c2, ys, hk, rfl, hB1, hB2, hB3, own, hD, hT⟩ := hrel
    have z0 : wr.cell? ⟨w.heap.size, 0, none⟩ = some (.slice va m x.a.2) := hB1.cell 0
    have z1 := hB1.lt
    have y1 := hB3.lt
    by_cases hlt : k < m
    · have hltI : (k : Int) < m := by omega
      have hxr := hx.up own.ext
      have hsr := hxr.vals
      rw [Hm.out, ← Hva.out] at hsr
      obtain ⟨b5, off5, y, hA, hy, hb5, e0, e1, e2, e3⟩ := valCells hsr hlt
      have hsw := hx.vals
      rw [Hm.out, ← Hva.out] at hsw
      obtain ⟨b5', off5', y5, hA', hy', hb5w, e0w, e1w, e2w, e3w⟩ := valCells hsw hlt
      rw [hA] at hA'
      cases hA'
      subst hA
      rw [hy] at hy'
      cases hy'
      clear hsw
      have hym := List.mem_of_getElem? hy
      have hty := hxr.val hym
      have hcall : ∀ W, ValAt W y → Calls Try.prog 7 #[tvalV y] W fun e w' => ∃ y', e = .returned (tvalV y') ∧ bareV y' = bareV y ∧ ValAt w' y' ∧ (∀ b, UsesV y' b → UsesV y b ∨ W.heap.size ≤ b) ∧ Ext W w' := fun W h => Ih.out y hym W h (Hfit.out.each y hym).2.2 (Hfit.out.sub y hym)
      unfold tvalV at hcall
      have y0 : wr.cell? ⟨b3, 0, none⟩ = some (.slice A2 k c2) := hB3.cell 0
      have f0 := hB3.free 0
      have Hcall := Lib.hid hcall
      have Hy := Lib.hid hy
      clear hcall hy
      go_wp2
      have Xw := own.ext
      go_region_law (first
        | (go_simp; go_at_call 7; refine (Hcall.out _ (hty.up (by repeat with_reducible (first | exact Ext.refl _ | refine Ext.alloc ?_ _ | refine Ext.drew ?_ | refine Ext.drewN ?_ _ | refine Ext.setCell ?_ (by first | exact Nat.le_refl _ | omega | (simp; done) | (simp; omega)) _)))).mono ?_; rintro e w5 ⟨y', rfl, hb', hT', hU', E5⟩; have X5 : Ext wr w5 := Ext.trans (by repeat with_reducible (first | exact Ext.refl _ | refine Ext.alloc ?_ _ | refine Ext.drew ?_ | refine Ext.drewN ?_ _ | refine Ext.setCell ?_ (by first | exact Nat.le_refl _ | omega | (simp; done) | (simp; omega)) _)) E5; have y5 := X5.of_cell y0; have y5l := Nat.lt_of_lt_of_le y1 X5.size)
        | (refine step_moreW elemRV (by rfl) (.tmp 18) (.tmp 25) (by rfl) (by rfl) ((own.up X5).alloc _) (by rfl) (reads_oneN w5 (tvalC y') 39 rfl rfl) (by simpa using tvalC_one [y']) (by omega) (by unfold maxLen; omega) ?_; intro A6 c6 w6 own6 g6 m6; have hB6 := ((hB3.up X5).alloc _).beside ((own.up X5).alloc _) (by decide) g6; have hB61 := ((hB1.up X5).alloc _).beside ((own.up X5).alloc _) (by decide) g6; have hl6 := hB6.lt; have hf6 := hB6.free 0; have hc6 : w6.cell? ⟨b3, 0, none⟩ = some (.slice A2 k c2) := hB6.cell 0))
      all_goals
        go_simp
        go_wp2
        go_roundw
        case rel =>
          have hnew : ∀ b, UsesV y' b → b < w.heap.size ∧ UsesT x b ∨ wr.heap.size ≤ b := fun b hb => by
            rcases hU' b hb with h | h
            · have h2 : UsesT x b := UsesT.of_val hym h
              exact .inl ⟨hx.lt h2, h2⟩
            · refine .inr ?_
              first | exact h | (have := (show Ext wr _ from X5).size; simpa using h)
          have hTg := ((hT.up X5).snoc hT' (fun b hb => by
            rcases hnew b hb with ⟨h, _⟩ | h
            · refine ⟨by omega, fun q => ?_⟩
              have := (own.block_new (g := b) (by rw [ownBlock_any A2 k c2 0 0]; exact q)).1
              omega
            · refine ⟨by omega, fun q => ?_⟩
              have := (own.block_new (g := b) (by rw [ownBlock_any A2 k c2 0 0]; exact q)).2
              omega) (fun b hb => by
            rcases hnew b hb with ⟨_, h⟩ | h
            · exact .inl h
            · exact .inr (Nat.le_trans hT.size h))).grow (Ext.alloc (Ext.refl w5) _) g6 m6
          have hB36 := hB6.set_ 0 (.slice A6 (k + 1) c6)
          have hfar := own6.far hB6 (by decide) (show w.heap.size ≤ b3 by omega) 0 (.slice A6 (k + 1) c6)
          refine ⟨k + 1, A6, c6, ys ++ [y'], by omega, by go_num, (by exact hB61.set_far _ (by omega) _), (((hB2.up X5).alloc _).beside ((own.up X5).alloc _) (by decide) g6).set_far _ (by omega) _, hB36, ?_, ?_, hTg.store 0 _⟩
          · rw [List.flatMap_append]
            simpa using hfar
          · show _ = _
            rw [take_snoc _ _ _ Hy.out, List.map_append, List.map_append, hD.out]
            simp [hb']
        case measure => simp [intOf]; omega
    · have hge : ¬ ((k : Int) < (m : Int)) := by omega
      have p0 : wr.cell? ⟨b3, 0, none⟩ = some (.slice A2 k c2) := hB3.cell 0
      have p1 : wr.cell? ⟨b3, 1, none⟩ = some (.slice A4 un c4) := hB3.cell 1
      have s0 : wr.cell? ⟨w.heap.size + 1, 0, none⟩ = some (.slice none 0 0) := hB2.cell 0
      have s1 : wr.cell? ⟨w.heap.size + 1, 1, none⟩ = some (.slice none 0 0) := hB2.cell 1
      have r0 := hB2.free 0
      have r1 := hB2.free 1
      have l2 := hB2.lt
      go_wp2
      (try simp only [Exit.inBlock, Exit.then])
      have BF := (hB2.set_ 0 (.slice A2 k c2)).set_ 1 (.slice A4 un c4)
      have EW : Ext w wr := own.ext
      have EF : Ext w ((wr.setCell ⟨w.heap.size + 1, 0, none⟩ (.slice A2 k c2)).setCell ⟨w.heap.size + 1, 1, none⟩ (.slice A4 un c4)) :=
        (EW.setCell (show w.heap.size ≤ w.heap.size + 1 by omega) _).setCell (show w.heap.size ≤ w.heap.size + 1 by omega) _
      have o1 := own.far hB2 (by decide) (show w.heap.size ≤ w.heap.size + 1 by omega) 0 (.slice A2 k c2)
      have o2 := o1.far (hB2.set_ 0 (.slice A2 k c2)) (by decide) (show w.heap.size ≤ w.heap.size + 1 by omega) 1 (.slice A4 un c4)
      refine bodyPost_ret (results_cell_row (ty := 66) rfl _ _ (w.heap.size + 1) _ _ (0, 0) _ rfl BF Try.underlying66 rfl (by kernel_rfl)) rfl ?_
      have hkm : k = m := by omega
      have hlen : ys.length = m := by
        have h1 := congrArg List.length hD.out
        simp only [List.length_map, List.length_take] at h1
        have h2 := Hm.out
        omega
      have hS : Stays (fun b => b ≠ w.heap.size + 1) wr ((wr.setCell ⟨w.heap.size + 1, 0, none⟩ (.slice A2 k c2)).setCell ⟨w.heap.size + 1, 1, none⟩ (.slice A4 un c4)) :=
        ((Stays.refl _ wr).set (fun e => e rfl) _).set (fun e => e rfl) _
      have hYs : ∀ y ∈ ys, ∀ b, UsesV y b → UsesT x b ∨ w3.heap.size ≤ b := hT.from_
      have ho4 := o2.reads
      refine ⟨.mk (A2, c2) (A4, c4) ys x.unk, ?_, ?_, ?_, ?_, EF⟩
      · show Ending.returned (Value.agg #[.slice A2 k c2, .slice A4 un c4]) = Ending.returned (Value.agg #[.slice A2 ys.length c2, .slice A4 x.unk.length c4])
        rw [hlen, ← hkm, Hun.out]
      · rw [bare_eq, bare_eq]
        show MsgX.mk () () (ys.map bareV) x.unk = _
        rw [hD.out, hkm, ← Hm.out, List.take_length]
      · refine TreeAt.of ?_ ?_ (fun y hy => ?_)
        · show Reads _ A2 ys.length c2 4 (ys.flatMap tvalC)
          rw [hlen, ← hkm]
          exact ho4
        · refine hT.unk.stays hS (fun b hb => ?_)
          have := Hu2.out b (by have h := hb; rw [Hun.out] at h; exact h)
          omega
        · refine (hT.at_ y hy).stays hS (fun b hb => ?_)
          rcases hYs y hy b hb with h | h
          · have := hx.lt h
            omega
          · omega
      · intro b hb
        rcases hb.cases' with hb | hb | ⟨y, hy, hb⟩
        · refine .inr (o2.uses_new (b := b) ?_)
          have hb' : UsesA A2 ys.length b := hb
          rw [hlen, ← hkm] at hb'
          exact hb'
        · have := Hu2.out b (by have h : UsesA A4 x.unk.length b := hb; rw [Hun.out] at h; exact h)
          exact .inr (by omega)
        · rcases hYs y hy b hb with h | h
          · exact .inl h
          · exact .inr (by omega)

theorem tOf (x : MsgR) : TOf x := MsgX.ind (P := TOf) (fun x ih => tOfM (fun v hv => tOfV (fun y hy => ih v hv y hy))) x

end Go.Proofs.Ytnnphodgegcddaa
