/- Contracts of layer 35: a feed, as the chapter's example needs it. -/
import Derived.Test.YtalhnggfilgmjaaW7h
import Derived.Test.YtalhnggfilgmjaaW11b
namespace Go.Proofs.Ytalhnggfilgmjaa
open Go.RowKit
set_option linter.unusedVariables false

set_option maxRecDepth 100000 in
/-- A copy of bytes in new memory. -/
theorem bClone {A : Option Addr} {n c : Nat} {bs : List UInt8} {w : World} (hb : BytesAt w A n c bs) (hn : n ≤ 140737488351232) :
    Calls Try.prog 44 #[.slice A n c] w fun e w' => ∃ A' c', e = .returned (.slice A' n c') ∧ Own w w' 5 1 A' n c' (bs.map bv) := by
  have hl := hb.length
  have hnil := eqlNil Try.underlying22
  rcases hA : A with _ | a
  · subst hA
    have h0 : n = 0 := by
      rcases Nat.eq_zero_or_pos n with h | h
      · exact h
      · obtain ⟨b, off, e, _⟩ := Reads.at_ hb h
        cases e
    subst h0
    have hl0 : bs = [] := List.eq_nil_of_length_eq_zero hl
    subst hl0
    go_enter Try.func44, Try.ntmps44
    go_wp2
    go_ret
    exact ⟨none, 0, rfl, Own.nil (Ext.refl _) _ _⟩
  · subst hA
    go_enter Try.func44, Try.ntmps44
    go_wp2_with (at_builtin; refine wpList_more elemB rfl (.tmp 5) (.tmp 6) rfl rfl (Own.empty (Ext.refl w) 5 1) rfl (Reads.ext hb (Ext.alloc (Ext.refl _) _)) (bv_one _) (by omega) (by unfold maxLen; omega) ?_; intro A4 c4 w4 own4 g4; simp only [Nat.zero_add, List.nil_append] at own4)
    go_ret
    exact ⟨A4, c4, rfl, own4⟩

/-- The cells of a feed. -/
def feedC (A : Option Addr) (n c : Nat) (root d L : Int) (B : Option Addr) (m e : Nat) (told : Int) (broken : Nat) (closed : Bool) : Array Value :=
  #[.slice A n c, .int .i64 root, .int .i64 d, .int .i64 L, .slice B m e, .int .i64 told, .int .u8 (broken : Int), .bool closed]

set_option maxRecDepth 100000 in
theorem fNew {A : Option Addr} {n c : Nat} {S : List MsgV} {root d L : Int} {w : World} (hs : SchemaAt w A n c S) (hn : n ≤ 3518437208780) (hS : ∀ x ∈ S, x.n ≤ 2932031007317) (ha : argsV (S.map MsgV.d) root d = 0) (h0 : 0 ≤ L) (h1 : L ≤ 1073741824) :
    Calls Try.prog 43 #[.slice A n c, .int .i64 root, .int .i64 d, .int .i64 L] w fun e w' => ∃ w0 A' c' S', e = .returned (.tuple #[.pointer (some ⟨w0.heap.size, 0, none⟩), .int .u8 0]) ∧ SchemaAt w0 A' n c' S' ∧ S'.map MsgV.d = S.map MsgV.d ∧ Ext w w0 ∧ w' = w0.alloc (.cells (feedC A' n c' root d L none 0 0 0 0 false) 84) := by
  have hva := vArgs (root := root) (d := d) hs
  rw [ha] at hva
  have hco := fun W (h : Ext w W) => sCopy (hs.up h) hn hS
  have Hva := Lib.hid hva
  have Hco := Lib.hid hco
  have q0 : ¬ L < 0 := by omega
  have q1 : ¬ (1073741824 : Int) < L := by omega
  clear hva hco hS
  unfold feedC
  go_enter Try.func43, Try.ntmps43
  go_wp2_with (first
    | (go_at_call 79; refine Hva.out.mono ?_; rintro e w1 ⟨rfl, E1⟩)
    | (go_at_call 27; refine (Hco.out _ E1).mono ?_; rintro e w2 ⟨A2, c2, S2, rfl, hs2, hd2, E2⟩))
  go_ret2
  exact ⟨w2, A2, c2, S2, rfl, hs2, hd2, E1.trans E2, rfl⟩

theorem BytesAt.empty_of (w : World) {A : Option Addr} {c : Nat} (hc : c ≤ maxLen) : BytesAt w A 0 c [] := Reads.of_empty w A hc 1

section
variable {w : World} {fb : Nat} {A B : Option Addr} {n c m e : Nat} {root d L told : Int} {broken : Nat} {closed : Bool} {bs : List UInt8}

set_option maxRecDepth 100000 in
/-- The head of the frame that has begun. -/
theorem fHead {N l C K : Nat} (hF : BlkT w fb 84 (feedC A n c root d L B m e told broken closed)) (hb : BytesAt w B m e bs) (hv : readV bs = (N, l, C)) (h0 : 0 ≤ L) (h1 : L ≤ 1073741824) (hK : K = if C = 0 then (if L < N then 13 else 0) else C) (hN : N < 18446744073709551616) :
    Calls Try.prog 46 #[.pointer (some ⟨fb, 0, none⟩)] w fun e w' => ∃ z, e = .returned (.tuple #[.int .i64 z, .int .i64 (l : Int), .int .u8 (K : Int)]) ∧ (K = 0 → z = (N : Int)) ∧ w' = w := by
  have hr := vRead hb hv
  have Hr := Lib.hid hr
  have c3 : w.cell? ⟨fb, 3, none⟩ = some (.int .i64 L) := hF.cell 3
  have c4 : w.cell? ⟨fb, 4, none⟩ = some (.slice B m e) := hF.cell 4
  have hfl := hF.lt
  have hw : IntKind.u64.wrap L = L := by rw [IntWalk.u64_in _ (by omega)]
  clear hr hF hv
  by_cases hC : C = 0
  · subst hC
    by_cases hL : L < N
    · simp only [hL, if_true] at hK
      subst hK
      go_enter Try.func46, Try.ntmps46
      go_wp2_with (go_at_call 80; refine Hr.out.mono ?_; rintro e w1 ⟨rfl, rfl⟩)
      go_ret3
      exact ⟨_, rfl, (fun h => by cases h), rfl⟩
    · simp only [hL, if_true, if_false] at hK
      subst hK
      have hz : wrap64 (N : Int) = N := by
        unfold wrap64
        omega
      go_enter Try.func46, Try.ntmps46
      go_wp2_with (go_at_call 80; refine Hr.out.mono ?_; rintro e w1 ⟨rfl, rfl⟩)
      go_ret3
      exact ⟨_, rfl, (fun _ => by first | rfl | exact hz), rfl⟩
  · have hq : ((C : Int) == 0) = false := by rw [beq_eq_false_iff_ne]; omega
    simp only [hC, if_false] at hK
    subst hK
    have Hc := Lib.hid hC
    clear hC
    go_enter Try.func46, Try.ntmps46
    go_wp2_with (go_at_call 80; refine Hr.out.mono ?_; rintro e w1 ⟨rfl, rfl⟩)
    go_ret3
    exact ⟨_, rfl, (fun h => absurd h Hc.out), rfl⟩

set_option maxRecDepth 100000 in
/-- No whole frame is there. -/
theorem fNext_no {N l C : Nat} (hF : BlkT w fb 84 (feedC A n c root d L B m e told broken closed)) (hb : BytesAt w B m e bs) (hv : readV bs = (N, l, C)) (h0 : 0 ≤ L) (h1 : L ≤ 1073741824) (hN : N < 18446744073709551616)
    (hno : C = 3 ∨ (C = 0 ∧ (N : Int) ≤ L ∧ l ≤ m ∧ m < l + N)) (hm : m ≤ 1000000000000) :
    Calls Try.prog 45 #[.pointer (some ⟨fb, 0, none⟩)] w fun e w' => e = .returned (.tuple #[.slice none 0 0, .int .u8 3]) ∧ w' = w := by
  have c4 : w.cell? ⟨fb, 4, none⟩ = some (.slice B m e) := hF.cell 4
  have hfl := hF.lt
  rcases hno with rfl | ⟨rfl, h2, h3, h4⟩
  · have hh := fHead (K := 3) hF hb hv h0 h1 (by simp) hN
    have Hh := Lib.hid hh
    clear hh hF hb hv
    go_enter Try.func45, Try.ntmps45
    go_wp2_with (go_at_call 46; refine Hh.out.mono ?_; rintro e w1 ⟨z, rfl, hz, rfl⟩)
    go_ret2
    exact ⟨rfl, rfl⟩
  · have hh := fHead (K := 0) hF hb hv h0 h1 (by rw [if_pos rfl, if_neg (by omega)]) hN
    have Hh := Lib.hid hh
    have q1 : (m : Int) - l < N := by omega
    clear hh hF hb hv
    go_enter Try.func45, Try.ntmps45
    go_wp2_with (go_at_call 46; refine Hh.out.mono ?_; rintro e w1 ⟨z, rfl, hz, rfl⟩; obtain rfl := hz rfl)
    go_ret2
    exact ⟨rfl, rfl⟩

set_option maxRecDepth 100000 in
set_option maxHeartbeats 1000000 in
/-- A whole frame is there, and nothing behind it. -/
theorem fNext_last {w0 : World} {S : List MsgV} {N l : Nat} (hF : BlkT w fb 84 (feedC A n c root d L B m e told broken closed)) (hfb : w0.heap.size ≤ fb) (hE : Ext w0 w) (hs : SchemaAt w0 A n c S) (ob : Own w0 w 5 1 B m e (bs.map bv)) (hv : readV bs = (N, l, 0)) (h0 : 0 ≤ L) (h1 : L ≤ 1073741824)
    (h2 : (N : Int) ≤ L) (h3 : l + N = m) (hm : m ≤ 1000000000) (hc : (checkB (S.map MsgV.d) root (bs.drop l) d).2 = 0) (ht : told = 0) :
    Calls Try.prog 45 #[.pointer (some ⟨fb, 0, none⟩)] w fun e' w' => ∃ A2 c2 B2 e2, e' = .returned (.tuple #[.slice A2 N c2, .int .u8 0]) ∧ BlkT w' fb 84 (feedC A n c root d L B2 0 e2 1 broken closed) ∧ e2 ≤ maxLen ∧ Ext w0 w' ∧ Own w0 w' 5 1 A2 N c2 ((bs.drop l).map bv) := by
  have c0 : w.cell? ⟨fb, 0, none⟩ = some (.slice A n c) := hF.cell 0
  have c1 : w.cell? ⟨fb, 1, none⟩ = some (.int .i64 root) := hF.cell 1
  have c2 : w.cell? ⟨fb, 2, none⟩ = some (.int .i64 d) := hF.cell 2
  have c4 : w.cell? ⟨fb, 4, none⟩ = some (.slice B m e) := hF.cell 4
  have hfl := hF.lt
  have hbl := ob.bytes.length
  have hh := fHead (K := 0) hF ob.bytes hv h0 h1 (by rw [if_pos rfl, if_neg (by omega)]) (by omega)
  obtain ⟨A5, hrun, hr⟩ := cut_both elemB ob.reads .i64 .i64 (l := l) (m := m) (by omega) (Nat.le_refl _)
  have hr5 : BytesAt w A5 (m - l) (e - l) (bs.drop l) := by
    unfold BytesAt
    have e0 : (List.take (m * 1) (bs.map bv)).drop (l * 1) = (bs.drop l).map bv := by
      rw [Nat.mul_one, Nat.mul_one, List.take_of_length_le (by simp; omega), List.map_drop]
    rw [← e0]
    exact hr
  have hcl := bClone hr5 (by omega)
  have hmN : m - l = N := by omega
  rw [hmN] at hcl hrun
  have q0 : (l : Int) + N = m := by omega
  have q1 : ¬ (m : Int) - l < N := by omega
  have hck := fun (W : World) (A6 : Option Addr) (c6 : Nat) (h : Ext w0 W) (hb : BytesAt W A6 N c6 (bs.drop l)) => vCheck (root := root) (d := d) (hs.up h) hb (by omega)
  rw [hc] at hck
  have Hck := Lib.hid hck
  have Hh := Lib.hid hh
  have Hcl := Lib.hid hcl
  have Hbl := Lib.hid hbl
  have Hrun := Lib.hid hrun
  clear hh hck hcl hc hr hr5 hv hbl hrun
  subst ht
  go_enter Try.func45, Try.ntmps45
  have hrun := Hrun.out
  go_wp2_with (first
    | (go_at_call 46; refine Hh.out.mono ?_; rintro e w1 ⟨z, rfl, hz, rfl⟩; obtain rfl := hz rfl)
    | (go_at_call 44; refine Hcl.out.mono ?_; rintro e w2 ⟨A6, c6, rfl, own6⟩))
  have X2 : Ext w0 w2 := hE.trans own6.ext
  have hF2 := hF.up own6.ext
  have k0 : w2.cell? ⟨fb, 0, none⟩ = some (.slice A n c) := hF2.cell 0
  have k1 : w2.cell? ⟨fb, 1, none⟩ = some (.int .i64 root) := hF2.cell 1
  have k2 : w2.cell? ⟨fb, 2, none⟩ = some (.int .i64 d) := hF2.cell 2
  have kl := hF2.lt
  clear c0 c1 c2 c4 hfl
  go_region_held3 (fun W => Ext w2 W ∧ ∀ b o, b < w2.heap.size → W.cell? ⟨b, o, none⟩ = w2.cell? ⟨b, o, none⟩) ((refine Ext.keep ?_; repeat with_reducible (first | assumption | exact Ext.refl _ | refine Ext.alloc ?_ _ | refine Ext.drew ?_ | refine Ext.drewN ?_ _ | refine Ext.setCell ?_ (by first | exact Nat.le_refl _ | omega | (simp; done) | (simp; omega)) _))) (first | (go_split_ands; go_at_call 60; refine (Hck.out _ A6 c6 (X2.trans (by with_reducible assumption)) (own6.bytes.up (by with_reducible assumption))).mono ?_; rintro e w3 ⟨rfl, E3⟩; have q3 : Ext w2 w3 := Ext.trans (by with_reducible assumption) E3))
  rename Ext w2 w3 ∧ _ => hh
  clear hh
  have hF3 := hF2.up q3
  have X3 := X2.trans q3
  have j4 : w3.cell? ⟨fb, 4, none⟩ = some (.slice B m e) := hF3.cell 4
  have j5 : w3.cell? ⟨fb, 5, none⟩ = some (.int .i64 0) := hF3.cell 5
  have jl := hF3.lt
  have f4 := hF3.free 4
  have f5 := hF3.free 5
  obtain ⟨A7, hrun2, _⟩ := cut_from elemB ob.reads .i64 (l := m) (Nat.le_refl _)
  simp only [Nat.sub_self] at hrun2
  have hcap := ob.reads.max
  have o6 := (own6.up q3).since hE
  have o6' := (o6.far hF3 (by decide) hfb 4 (.slice A7 0 (e - m))).far (hF3.set_ 4 _) (by decide) hfb 5 (.int .i64 1)
  have hF5 := (hF3.set_ 4 (.slice A7 0 (e - m))).set_ 5 (.int .i64 1)
  have hcs : ((feedC A n c root d L B m e 0 broken closed).setIfInBounds 4 (.slice A7 0 (e - m))).setIfInBounds 5 (.int .i64 1) = feedC A n c root d L A7 0 (e - m) 1 broken closed := by simp [feedC]
  rw [hcs] at hF5
  have X5 : Ext w0 ((w3.setCell ⟨fb, 4, none⟩ (.slice A7 0 (e - m))).setCell ⟨fb, 5, none⟩ (.int .i64 1)) := (X3.setCell hfb _).setCell hfb _
  clear hcs o6
  go_wp2_with ((at_builtin; refine wpList_more elemB rfl (.tmp 80) (.tmp 81) rfl rfl (Own.emptyAt (Ext.refl _) 5 1 (by simp [World.setCell])) rfl (Reads.ext o6'.reads (Ext.alloc (Ext.refl _) _)) (bv_one _) (by omega) (by unfold maxLen; omega) ?_; intro A8 c8 w8 own8 g8; simp only [Nat.zero_add, List.nil_append] at own8))
  go_ret2
  exact ⟨A8, c8, A7, e - m, rfl, hF5.up own8.ext, by omega, X5.trans own8.ext, own8.since X5⟩

set_option maxRecDepth 100000 in
set_option maxHeartbeats 1000000 in
/-- Written, and no whole frame is there yet. -/
theorem fWrite_no {w0 : World} {D : Option Addr} {k q : Nat} {cs : List UInt8} {N l C : Nat} (hF : BlkT w fb 84 (feedC A n c root d L B m e told 0 false)) (hfb : w0.heap.size ≤ fb) (hE : Ext w0 w) (hb : BytesAt w B m e bs) (hd : BytesAt w D k q cs) (hmk : m + k ≤ 1000000000)
    (hv : readV (bs ++ cs) = (N, l, C)) (h0 : 0 ≤ L) (h1 : L ≤ 1073741824) (hN : N < 18446744073709551616) (hno : C = 3 ∨ (C = 0 ∧ (N : Int) ≤ L ∧ l ≤ m + k ∧ m + k < l + N)) :
    Calls Try.prog 9 #[.pointer (some ⟨fb, 0, none⟩), .slice D k q] w fun e' w' => ∃ B2 e2, e' = .returned (.tuple #[.slice none 0 0, .int .u8 0]) ∧ BlkT w' fb 84 (feedC A n c root d L B2 (m + k) e2 told 0 false) ∧ Ext w0 w' ∧ Own w0 w' 5 1 B2 (m + k) e2 ((bs ++ cs).map bv) := by
  have c4 : w.cell? ⟨fb, 4, none⟩ = some (.slice B m e) := hF.cell 4
  have c6 : w.cell? ⟨fb, 6, none⟩ = some (.int .u8 0) := hF.cell 6
  have c7 : w.cell? ⟨fb, 7, none⟩ = some (.bool false) := hF.cell 7
  have f4 := hF.free 4
  have hfl := hF.lt
  have hcl := bClone hb (by omega)
  have Hcl := Lib.hid hcl
  clear hcl
  go_enter Try.func9, Try.ntmps9
  go_wp2_with (first
    | (go_at_call 44; refine Hcl.out.mono ?_; rintro e w1 ⟨A1, c1, rfl, own1⟩; have hF1 := hF.up own1.ext)
    | (at_builtin; refine wpList_more elemB rfl (.tmp 32) (.tmp 33) rfl rfl own1 rfl (Reads.ext hd own1.ext) (bv_one _) (by omega) (by unfold maxLen; omega) ?_; intro A2 c2 w2 own2 g2; have hF2 := hF.up own2.ext; have z4 := hF2.free 4; have zl := hF2.lt; have z5 : w2.cell? ⟨fb, 4, none⟩ = some (.slice B m e) := hF2.cell 4))
  have hF3 := hF2.set_ 4 (.slice A2 (m + k) c2)
  have hcs : (feedC A n c root d L B m e told 0 false).setIfInBounds 4 (.slice A2 (m + k) c2) = feedC A n c root d L A2 (m + k) c2 told 0 false := by simp [feedC]
  rw [hcs] at hF3
  have X2 : Ext w0 w2 := hE.trans own2.ext
  have X3 : Ext w0 (w2.setCell ⟨fb, 4, none⟩ (.slice A2 (m + k) c2)) := X2.setCell hfb _
  have own3 := (own2.since hE).far hF2 (by decide) hfb 4 (.slice A2 (m + k) c2)
  rw [← List.map_append] at own3
  generalize w2.setCell ⟨fb, 4, none⟩ (.slice A2 (m + k) c2) = w3 at *
  have hnx := fNext_no hF3 own3.bytes hv h0 h1 hN hno (by omega)
  have Hnx := Lib.hid hnx
  have y6 : w3.cell? ⟨fb, 6, none⟩ = some (.int .u8 0) := hF3.cell 6
  have yl := hF3.lt
  clear hnx hv hno hcs hF2 z4 z5 zl
  go_loopw [6, 7, 8] (fun a _ _ wr => a = .slice none 0 0 ∧ wr = w3) (fun _ _ _ _ => 0)
  case atStart => exact ⟨rfl, rfl⟩
  case round =>
    obtain ⟨rfl, rfl⟩ := hrel
    go_wp2_with (go_at_call 45; refine Hnx.out.mono ?_; rintro e w4 ⟨rfl, rfl⟩)
    go_ret2
    exact ⟨A2, c2, rfl, hF3, X3, own3⟩

theorem readV_nil : readV [] = (0, 0, 3) := by decide

set_option maxRecDepth 100000 in
set_option maxHeartbeats 2000000 in
/-- Written, and one whole frame is there, with nothing behind it. -/
theorem fWrite_last {w0 : World} {S : List MsgV} {D : Option Addr} {k q : Nat} {cs : List UInt8} {N l : Nat} (hF : BlkT w fb 84 (feedC A n c root d L B m e 0 0 false)) (hfb : w0.heap.size ≤ fb) (hE : Ext w0 w) (hs : SchemaAt w0 A n c S) (hb : BytesAt w B m e bs) (hd : BytesAt w D k q cs) (hmk : m + k ≤ 1000000000)
    (hv : readV (bs ++ cs) = (N, l, 0)) (h0 : 0 ≤ L) (h1 : L ≤ 1073741824) (h2 : (N : Int) ≤ L) (h3 : l + N = m + k) (hc : (checkB (S.map MsgV.d) root ((bs ++ cs).drop l) d).2 = 0) :
    Calls Try.prog 9 #[.pointer (some ⟨fb, 0, none⟩), .slice D k q] w fun e' w' => ∃ A9 c9 A2 c2, e' = .returned (.tuple #[.slice A9 1 c9, .int .u8 0]) ∧ Reads w' A9 1 c9 1 [.slice A2 N c2] ∧ BytesAt w' A2 N c2 ((bs ++ cs).drop l) ∧ Ext w0 w' := by
  have c4 : w.cell? ⟨fb, 4, none⟩ = some (.slice B m e) := hF.cell 4
  have c6 : w.cell? ⟨fb, 6, none⟩ = some (.int .u8 0) := hF.cell 6
  have c7 : w.cell? ⟨fb, 7, none⟩ = some (.bool false) := hF.cell 7
  have f4 := hF.free 4
  have hfl := hF.lt
  have hcl := bClone hb (by omega)
  have Hcl := Lib.hid hcl
  clear hcl
  go_enter Try.func9, Try.ntmps9
  go_wp2_with (first
    | (go_at_call 44; refine Hcl.out.mono ?_; rintro e w1 ⟨A1, c1, rfl, own1⟩; have hF1 := hF.up own1.ext)
    | (at_builtin; refine wpList_more elemB rfl (.tmp 32) (.tmp 33) rfl rfl own1 rfl (Reads.ext hd own1.ext) (bv_one _) (by omega) (by unfold maxLen; omega) ?_; intro A2 c2 w2 own2 g2; have hF2 := hF.up own2.ext; have z4 := hF2.free 4; have zl := hF2.lt; have z5 : w2.cell? ⟨fb, 4, none⟩ = some (.slice B m e) := hF2.cell 4))
  have hF3 := hF2.set_ 4 (.slice A2 (m + k) c2)
  have hcs : (feedC A n c root d L B m e 0 0 false).setIfInBounds 4 (.slice A2 (m + k) c2) = feedC A n c root d L A2 (m + k) c2 0 0 false := by simp [feedC]
  rw [hcs] at hF3
  have X2 : Ext w0 w2 := hE.trans own2.ext
  have X3 : Ext w0 (w2.setCell ⟨fb, 4, none⟩ (.slice A2 (m + k) c2)) := X2.setCell hfb _
  have own3 := (own2.since hE).far hF2 (by decide) hfb 4 (.slice A2 (m + k) c2)
  rw [← List.map_append] at own3
  generalize w2.setCell ⟨fb, 4, none⟩ (.slice A2 (m + k) c2) = w3 at *
  have hnx := fNext_last hF3 hfb X3 hs own3 hv h0 h1 h2 h3 (by omega) hc rfl
  have Hnx := Lib.hid hnx
  have y6 : w3.cell? ⟨fb, 6, none⟩ = some (.int .u8 0) := hF3.cell 6
  have yl := hF3.lt
  clear hnx hv hcs hF2 z4 z5 zl hc
  go_loopw [6, 7, 8] (fun a _ _ wr => (a = .slice none 0 0 ∧ wr = w3) ∨ (∃ A9 c9 A5 c5 B5 e5, a = .slice A9 1 c9 ∧ BlkT wr fb 84 (feedC A n c root d L B5 0 e5 1 0 false) ∧ e5 ≤ maxLen ∧ Own w0 wr 22 1 A9 1 c9 [.slice A5 N c5] ∧ Own w0 wr 5 1 A5 N c5 (((bs ++ cs).drop l).map bv))) (fun a _ _ _ => 1 - lenOf a)
  case atStart => exact .inl ⟨rfl, rfl⟩
  case round =>
    rcases hrel with ⟨rfl, rfl⟩ | ⟨A9, c9, A5, c5, B5, e5, rfl, hF5, he5, own9, own5⟩
    · go_wp2_with (first
        | (go_at_call 45; refine Hnx.out.mono ?_; rintro e w4 ⟨A5, c5, B5, e5, rfl, hF4, he5, X4, own4⟩)
        | (at_builtin; refine wpList_one elemBB rfl (.tmp 45) (.tmp 47) rfl rfl (Own.nil (Ext.refl w4) 22 1) rfl rfl rfl (by omega) (by unfold maxLen; omega) ?_; intro A9 c9 w9 own9 g9))
      go_roundw
      case rel => exact .inr ⟨A9, c9, A5, c5, B5, e5, rfl, hF4.up own9.ext, he5, own9.since X4, own4.up own9.ext⟩
      case measure => simp [lenOf]
    · have hn2 := fNext_no hF5 (BytesAt.empty_of wr he5) readV_nil h0 h1 (by omega) (.inl rfl) (by omega)
      have Hn2 := Lib.hid hn2
      have x6 : wr.cell? ⟨fb, 6, none⟩ = some (.int .u8 0) := hF5.cell 6
      have xl := hF5.lt
      clear hn2
      go_wp2_with (go_at_call 45; refine Hn2.out.mono ?_; rintro e w4 ⟨rfl, rfl⟩)
      go_ret2
      exact ⟨A9, c9, A5, c5, rfl, own9.reads, own5.bytes, own9.ext⟩
end

end Go.Proofs.Ytalhnggfilgmjaa
