/- Contracts of layer 9: a run's values, one by one. -/
import Derived.Test.YtlmmlmmadgcmcaaS9
import Derived.Test.YtlmmlmmadgcmcaaW8
import Derived.Test.YtlmmlmmadgcmcaaW2b
import Derived.Test.YtlmmlmmadgcmcaaRange
import Derived.Shelf.Abstract
import Derived.Shelf.RegionOpen
import Derived.OwnWalkIn
import Derived.TacticsInMore
import Derived.LoopNIn
import Derived.LoopIn
namespace Go.Proofs.Ytlmmlmmadgcmcaa
open Go.RowKit Go.Shelf
set_option linter.unusedVariables false
attribute [local go_sem] Oper.semAt_some

theorem uSize {A : Option Addr} {n c : Nat} {bs : List UInt8} {k W : Int} {w : World} (hb : BytesAt w A n c bs) (hk : numberB k = true) (hW : wireI k = W) :
    Calls Try.prog 106 #[.int .i64 W, .slice A n c] w fun e w' => e = .returned (.tuple #[.int .i64 ((stepN k bs).1 : Nat), .int .u8 ((stepN k bs).2 : Nat)]) ∧ w = w' := by
  have hl := hb.length
  rcases number_three hk with ⟨h12, hw⟩ | ⟨h12, h9, hw⟩ | ⟨h12, h9, hw⟩
  · rw [hw] at hW
    subst hW
    have hs : stepN k bs = if bs.length < 8 then (0, 3) else (8, 0) := by unfold stepN; rw [if_neg (by omega), if_neg (by omega)]
    rw [hs, hl]
    clear hs hw hl
    by_cases h8 : n < 8
    · have h8i : (n : Int) < 8 := by omega
      rw [if_pos h8]
      go_enter Try.func106, Try.ntmps106
      go_wp2
      go_ret2
      exact ⟨rfl, rfl⟩
    · have h8i : ¬ (n : Int) < 8 := by omega
      rw [if_neg h8]
      go_enter Try.func106, Try.ntmps106
      go_wp2
      go_ret2
      exact ⟨rfl, rfl⟩
  · rw [hw] at hW
    subst hW
    have hs : stepN k bs = if bs.length < 4 then (0, 3) else (4, 0) := by unfold stepN; rw [if_neg (by omega), if_pos (by omega)]
    rw [hs, hl]
    clear hs hw hl
    by_cases h8 : n < 4
    · have h8i : (n : Int) < 4 := by omega
      rw [if_pos h8]
      go_enter Try.func106, Try.ntmps106
      go_wp2
      go_ret2
      exact ⟨rfl, rfl⟩
    · have h8i : ¬ (n : Int) < 4 := by omega
      rw [if_neg h8]
      go_enter Try.func106, Try.ntmps106
      go_wp2
      go_ret2
      exact ⟨rfl, rfl⟩
  · rw [hw] at hW
    subst hW
    have hs : stepN k bs = ((readV bs).2.1, (readV bs).2.2) := by unfold stepN; rw [if_pos (by omega)]
    rw [hs]
    rcases hv : readV bs with ⟨V, N, C⟩
    have Hv := Lib.hid hv
    clear hs hw hl hv
    go_enter Try.func106, Try.ntmps106
    go_wp2_with (go_at_call 111; refine (vSkip hb Hv.out).mono ?_; rintro e w' ⟨rfl, rfl⟩)
    go_ret2
    exact ⟨rfl, rfl⟩

/-- A value of a run, and where it lies. -/
structure RunV where
  A : Option Addr
  n : Nat
  c : Nat
  bs : List UInt8
  e : Nat

def runV (v : RunV) : Value := .agg #[.slice v.A v.n v.c, .int .u8 (v.e : Int)]

/-- The address's block is such. -/
def InS (s : Nat → Prop) (A : Option Addr) : Prop := ∀ a, A = some a → s a.block

theorem add_block (a : Addr) (n : Nat) : (a.add n).block = a.block := by unfold Addr.add; split <;> rfl

theorem InS.cut {s : Nat → Prop} {A : Option Addr} (h : InS s A) (p : Prop) [Decidable p] (l : Nat) : InS s (if p then A else A.map (·.add l)) := by
  intro a ha
  split at ha
  · exact h a ha
  · rcases A with _ | b
    · cases ha
    · simp only [Option.map_some, Option.some.injEq] at ha
      subst ha
      rw [add_block]
      exact h b rfl

theorem bytes_same {s : Nat → Prop} {W W' : World} {A : Option Addr} {n c : Nat} {bs : List UInt8} (h : BytesAt W A n c bs) (hA : 0 < n → InS s A) (hs : Same s W W') : BytesAt W' A n c bs :=
  ⟨h.len, h.cap, h.max, fun hn => by
    obtain ⟨b, off, e, hb, hc⟩ := h.at_ hn
    have hsb := hs b (hA hn _ e)
    have hlt : b < W'.heap.size := by
      rw [Array.getElem?_eq_getElem hb] at hsb
      exact (Array.getElem?_eq_some_iff.1 hsb).1
    exact ⟨b, off, e, hlt, fun j u hu => (World.cell?_of_block (a := ⟨b, off + j, none⟩) hsb).trans (hc j u hu)⟩⟩

theorem cut_from_in {P : Program} {t e : TypeId} {size bytes : Nat} {w : World} {A : Option Addr} {n c : Nat} {xs : List Value} (T : Elem P t e size bytes) (h : Reads w A n c size xs) (k : IntKind) {l : Nat} (hl : l ≤ n) :
    ∃ A', (∀ s, InS s A → InS s A') ∧ (∀ W : World, (Instr.slice t (.slice A n c) (some (.int k (l : Int))) none none).run P W = .ok (.slice A' (n - l) (c - l)) W) := by
  obtain ⟨i, z, hi, _, hsz, _, _⟩ := T.info
  refine ⟨if c = l then A else A.map (·.add (l * size)), fun s hs => hs.cut _ _, fun W => ?_⟩
  simp [Instr.slice, run_underlying T.under, Instr.sliceBounds, run_sliceBound, sizeOf, typeInfo, hi, hsz, (by omega : (l : Int) ≤ n)]

/-- The values out of a slice, one behind the other. -/
inductive Chain (k : Int) : Option Addr → Nat → Nat → List UInt8 → List RunV → Prop
  | nil (A : Option Addr) (c : Nat) : Chain k A 0 c [] []
  | ok {A A1 A2 : Option Addr} {m c n : Nat} {bs : List UInt8} {vs : List RunV} (hb : bs ≠ []) (h : stepN k bs = (n, 0))
      (h1 : ∀ W : World, (Instr.slice 43 (.slice A m c) none (some (.int .i64 (n : Int))) none).run Try.prog W = .ok (.slice A1 n c) W)
      (h2 : ∀ W : World, (Instr.slice 43 (.slice A m c) (some (.int .i64 (n : Int))) none none).run Try.prog W = .ok (.slice A2 (m - n) (c - n)) W)
      (hA : ∀ s, InS s A → InS s A2) (t : Chain k A2 (m - n) (c - n) (bs.drop n) vs) : Chain k A m c bs (⟨A1, n, c, bs.take n, 0⟩ :: vs)
  | bad {A A1 : Option Addr} {m c C : Nat} {bs : List UInt8} (hb : bs ≠ []) (h : stepN k bs = (0, C)) (hC : C ≠ 0)
      (h1 : ∀ W : World, (Instr.slice 43 (.slice A m c) none (some (.int .i64 (0 : Int))) none).run Try.prog W = .ok (.slice A1 0 c) W) : Chain k A m c bs [⟨A1, 0, c, [], C⟩]

theorem chain_has (k : Int) : ∀ (f : Nat) (A : Option Addr) (m c : Nat) (bs : List UInt8) (w : World), BytesAt w A m c bs → bs.length ≤ f →
    ∃ vs, Chain k A m c bs vs ∧ (∀ v ∈ vs, BytesAt w v.A v.n v.c v.bs ∧ v.e ≤ 4 ∧ v.n ≤ m) ∧ vs.map (fun v => (v.bs, v.e)) = valsF k f bs
  | f, A, m, c, [], w, hb, _ => by
    have hm := hb.length
    simp only [List.length_nil] at hm
    subst hm
    exact ⟨[], .nil A c, (fun v h => by cases h), (by cases f <;> rfl)⟩
  | 0, A, m, c, a :: l, w, hb, h => by simp at h
  | f + 1, A, m, c, a :: l, w, hb, h => by
    have hm := hb.length
    rcases hs : stepN k (a :: l) with ⟨n, C⟩
    have hbd := stepN_bd k (a :: l)
    rw [hs] at hbd
    simp only at hbd
    by_cases hC : C = 0
    · subst hC
      have hn : 1 ≤ n ∧ n ≤ m := by omega
      obtain ⟨A1, h1, r1⟩ := cut_to elemB hb .i64 (m := n) hn.2
      obtain ⟨A2, h2, r2⟩ := cut_from elemB hb .i64 (l := n) hn.2
      obtain ⟨A3, h3, h4⟩ := cut_from_in elemB hb .i64 (l := n) hn.2
      have e3 : A3 = A2 := by
        have e := (h2 w).symm.trans (h4 w)
        injection e with e _
        injection e with e _ _
        exact e.symm
      rw [e3] at h3
      have r1' : BytesAt w A1 n c ((a :: l).take n) := by unfold BytesAt; rw [List.map_take]; simpa using r1
      have r2' : BytesAt w A2 (m - n) (c - n) ((a :: l).drop n) := by unfold BytesAt; rw [List.map_drop]; simpa using r2
      obtain ⟨vs, c1, c2, c3⟩ := chain_has k f A2 (m - n) (c - n) ((a :: l).drop n) w r2' (by rw [List.length_drop]; simp only [List.length_cons] at h ⊢; omega)
      refine ⟨⟨A1, n, c, (a :: l).take n, 0⟩ :: vs, .ok (by simp) hs h1 h2 h3 c1, fun v hv => ?_, ?_⟩
      · rcases List.mem_cons.1 hv with rfl | hv
        · exact ⟨r1', by simp, hn.2⟩
        · have := c2 v hv
          exact ⟨this.1, this.2.1, by omega⟩
      · rw [List.map_cons, c3]
        conv => rhs; unfold valsF
        rw [if_neg (by simp), hs, if_pos rfl]
    · have hn : n = 0 := by omega
      subst hn
      obtain ⟨A1, h1, r1⟩ := cut_to elemB hb .i64 (m := 0) (Nat.zero_le _)
      have r1' : BytesAt w A1 0 c [] := by unfold BytesAt; simpa using r1
      refine ⟨[⟨A1, 0, c, [], C⟩], .bad (by simp) hs hC h1, fun v hv => ?_, ?_⟩
      · simp only [List.mem_singleton] at hv
        subst hv
        exact ⟨r1', by simp only; omega, Nat.zero_le _⟩
      · conv => rhs; unfold valsF
        rw [if_neg (by simp), hs, if_neg hC]
        rfl

theorem only_set (W : World) (B : Nat) (v : Value) : Only B W (W.setCell ⟨B, 0, none⟩ v) := grownBy_setCell' W B v

theorem chain_ne {k : Int} {A : Option Addr} {m c : Nat} {bs : List UInt8} {vs : List RunV} (h : Chain k A m c bs vs) (hl : bs.length = m) : (m = 0 ∧ vs = []) ∨ (0 < m ∧ bs ≠ []) := by
  cases h with
  | nil => exact .inl ⟨rfl, rfl⟩
  | ok hb => exact .inr ⟨by cases bs with | nil => exact absurd rfl hb | cons a l => simp only [List.length_cons] at hl; omega, hb⟩
  | bad hb => exact .inr ⟨by cases bs with | nil => exact absurd rfl hb | cons a l => simp only [List.length_cons] at hl; omega, hb⟩

set_option maxRecDepth 100000 in
set_option maxHeartbeats 1000000 in
theorem valuesIter {A : Option Addr} {m c : Nat} {bs : List UInt8} {vs : List RunV} {k : Int} {Bk B : Nat} {s : Nat → Prop} {w : World} (hb : BytesAt w A m c bs) (hm : m ≤ 1000000000) (hk : numberB k = true) (hch : Chain k A m c bs vs)
    (cB : BlkT w B 43 #[.slice A m c]) (ck : BlkT w Bk 3 #[.int .i64 k]) (hsk : s Bk) (hsB : s B) (hne : Bk ≠ B) (hA : 0 < m → InS (fun b => s b ∧ b ≠ B) A) :
    IterK Try.prog 105 #[.pointer (some ⟨Bk, 0, none⟩), .pointer (some ⟨B, 0, none⟩)] (fun v => #[runV v]) vs s B w := by
  intro l J Jx W hsz hsame hJ hJx hJs hY h0
  have ckW : BlkT W Bk 3 #[.int .i64 k] := (hsame Bk hsk).trans ck
  have cBW : BlkT W B 43 #[.slice A m c] := (hsame B hsB).trans cB
  have hbW : BytesAt W A m c bs := bytes_same hb (fun h0 a ha => (hA h0 a ha).1) hsame
  have HJ := Lib.hid hJ
  have HY := Lib.hid hY
  have Hch := Lib.hid hch
  have HcB := Lib.hid cBW
  have Hck := Lib.hid ckW
  have k0 : W.cell? ⟨Bk, 0, none⟩ = some (.int .i64 k) := ckW.cell 0
  clear hJ hY hJx hJs hsame hsz hb cB ck hch cBW ckW
  refine callsIn_of_wp Try.func105 rfl trivial ?_ rfl
  simp only [Try.ntmps105, List.size_toArray, List.length_cons, List.length_nil, Nat.reduceAdd, Nat.reduceSub, Array.replicate_succ, Array.replicate_zero, List.push_toArray, List.append_toArray, List.nil_append, List.cons_append]
  gi_wp2_with (first | (refine ⟨trivial, ?_⟩; gi_at_call 68; refine (callsIn_wide.2 (kNumber k _)).mono ?_; rintro e w1 ⟨rfl, E1⟩; rw [hk]; have k1 := E1.of_cell k0; have kl : Bk < w1.heap.size := Nat.lt_of_lt_of_le (Hck.out.lt) E1.size) | (refine ⟨trivial, ?_⟩; gi_at_call 69; refine (callsIn_wide.2 (kWireN hk rfl)).mono ?_; rintro e w2 ⟨rfl, E2⟩))
  have X2 := E1.trans E2
  gi_loopw [6] (fun u wr => ∃ (j : Nat) (A' : Option Addr) (m' c' : Nat) (bs' : List UInt8), Hid (Chain k A' m' c' bs' (vs.drop j)) ∧ j ≤ vs.length ∧ Hid (BlkT wr B 43 #[.slice A' m' c']) ∧ BytesAt wr A' m' c' bs' ∧ m' ≤ 1000000000 ∧ (0 < m' → InS (fun b => s b ∧ b ≠ B) A') ∧ J j wr)
    (fun _ wr => lenOf ((wr.cell? ⟨B, 0, none⟩).getD undef))
  case atStart => exact ⟨0, A, m, c, bs, by simpa using Hch, Nat.zero_le _, HcB.out.up X2, hbW.up X2, hm, hA, HJ.out 0 W w2 h0 ((Only.refl B W).ext X2)⟩
  case round =>
    obtain ⟨j, A', m', c', bs', hc, hj, hB, hb', hm', hA', hJj⟩ := hrel
    have b0 : wr.cell? ⟨B, 0, none⟩ = some (.slice A' m' c') := hB.out.cell 0
    have bl := hB.out.lt
    rcases chain_ne hc.out hb'.length with ⟨rfl, hnil⟩ | ⟨hpos, hbs⟩
    · have hje : j = vs.length := by
        have := congrArg List.length hnil
        rw [List.length_drop] at this
        simp only [List.length_nil] at this
        omega
      subst hje
      have HJj := Lib.hid hJj
      clear hnil hJj
      gi_wp2
      go_end0
      exact ⟨⟨_, rfl⟩, .inl HJj.out⟩
    · have hposi : (0 : Int) < m' := by omega
      have hcc := hc.out
      cases hd : vs.drop j with
      | nil => rw [hd] at hcc; cases hcc; exact absurd rfl hbs
      | cons v vs' =>
        have hjl : j < vs.length := by
          have := congrArg List.length hd
          rw [List.length_drop] at this
          simp only [List.length_cons] at this
          omega
        have hvj : vs[j]? = some v := by have := congrArg (fun l => l[0]?) hd; simpa using this
        have hd2 : vs.drop (j + 1) = vs' := by have := congrArg (List.drop 1) hd; simpa using this
        rw [hd] at hcc
        obtain ⟨fn, tmps, assign, body, hy, hR⟩ := HY.out j v wr hJj hvj
        cases hcc with
        | @ok _ A1 A2 _ _ n _ _ hb1 hst h1 h2 hAA ht =>
          have hbd := stepN_bd k bs'
          rw [hst] at hbd
          simp only at hbd
          have hbl := hb'.length
          have hn : n ≤ m' := by omega
          have hcap := Reads.cap hb'
          have hsz := uSize (w := wr) hb' hk rfl
          rw [hst] at hsz
          obtain ⟨A3, h3, r3⟩ := cut_from elemB hb' .i64 (l := n) hn
          have r3' : BytesAt wr A3 (m' - n) (c' - n) (bs'.drop n) := by unfold BytesAt; rw [List.map_drop]; simpa using r3
          have e3 : A3 = A2 := by
            have e := (h2 wr).symm.trans (h3 wr)
            injection e with e _
            injection e with e _ _
            exact e.symm
          rw [e3] at r3'
          have Hsz := Lib.hid hsz
          have Hd2 := Lib.hid hd2
          have Ht := Lib.hid ht
          have HR := Lib.hid hR
          have hni : (n : Int) ≤ m' := by omega
          have hdec : Hid (m' - n < m') := by show m' - n < m'; omega
          unfold runV at hy
          simp only at hy
          rw [show ((0 : Nat) : Int) = 0 from rfl] at hy
          clear hsz hd hd2 ht hR hst hbd hbl h3 r3 e3 hb1 hvj
          gi_wp2_with (first | (refine ⟨trivial, ?_⟩; gi_at_call 106; refine (callsIn_wide.2 Hsz.out).mono ?_; rintro e w3 ⟨rfl, rfl⟩))
          refine HR.out.mono ?_
          rintro e W' (⟨rfl, hJ', hsm⟩ | ⟨rfl, hJx'⟩)
          · have hB' : BlkT W' B 43 #[.slice A' m' c'] := (hsm B hsB).trans hB.out
            have b1 : W'.cell? ⟨B, 0, none⟩ = some (.slice A' m' c') := hB'.cell 0
            have b2 : W'.frozen? ⟨B, 0, none⟩ = false := hB'.free 0
            have bl2 := hB'.lt
            have r4 := bytes_same r3' (s := fun b => s b ∧ b ≠ B) (fun _ => hAA _ (hA' hpos)) (fun b hb => hsm b hb.1)
            have r5 : BytesAt (W'.setCell ⟨B, 0, none⟩ (.slice A2 (m' - n) (c' - n))) A2 (m' - n) (c' - n) (bs'.drop n) := bytes_same r4 (fun _ => hAA _ (hA' hpos)) (fun b hb => Below.heap_setCell W' ⟨B, 0, none⟩ _ b hb.2)
            have HB' := Lib.hid hB'
            have HJ' := Lib.hid hJ'
            have hB2 : BlkT (W'.setCell ⟨B, 0, none⟩ (.slice A2 (m' - n) (c' - n))) B 43 #[.slice A2 (m' - n) (c' - n)] := by have := hB'.set_ 0 (.slice A2 (m' - n) (c' - n)); simpa using this
            have HB2 := Lib.hid hB2
            clear hJ' hB' hB2 hsm r3' r4
            gi_wp2
            go_roundw
            case rel => exact ⟨j + 1, A2, m' - n, c' - n, bs'.drop n, by rw [Hd2.out]; exact Ht.out, by omega, HB2, r5, by omega, fun _ => hAA _ (hA' hpos), HJ.out _ _ _ HJ'.out (only_set _ _ _)⟩
            case measure =>
              have e1 := HB2.out.cell 0
              rw [e1, b0]
              exact hdec.out
          · gi_wp2
            exact bodyPost_ret (results_none rfl _ _ _) rfl ⟨⟨_, rfl⟩, .inr hJx'⟩
        | @bad _ A1 _ _ C _ hb1 hst hC h1 =>
          have hbd := stepN_bd k bs'
          rw [hst] at hbd
          simp only at hbd
          have hcap := Reads.cap hb'
          have hsz := uSize (w := wr) hb' hk rfl
          rw [hst] at hsz
          have hlast : j + 1 = vs.length := by
            have := congrArg List.length hd
            rw [List.length_drop] at this
            simp only [List.length_cons, List.length_nil] at this
            omega
          have Hsz := Lib.hid hsz
          have HR := Lib.hid hR
          have HC : ((C : Int) != 0) = true := by rw [bne_iff_ne]; omega
          have Hlast := Lib.hid hlast
          unfold runV at hy
          simp only at hy
          have hz : ((0 : Nat) : Int) = 0 := rfl
          clear hsz hd hd2 hR hst hbd hb1 hvj hlast hC
          gi_wp2_with (first | (refine ⟨trivial, ?_⟩; gi_at_call 106; refine (callsIn_wide.2 Hsz.out).mono ?_; rintro e w3 ⟨rfl, rfl⟩))
          refine HR.out.mono ?_
          rintro e W' (⟨rfl, hJ', hsm⟩ | ⟨rfl, hJx'⟩)
          · rw [Hlast.out] at hJ'
            have HJ' := Lib.hid hJ'
            clear hJ' hsm
            gi_wp2
            exact bodyPost_ret (results_none rfl _ _ _) rfl ⟨⟨_, rfl⟩, .inl HJ'.out⟩
          · gi_wp2
            exact bodyPost_ret (results_none rfl _ _ _) rfl ⟨⟨_, rfl⟩, .inr hJx'⟩

/-- A run of no number's kind: one value, that it isn't. -/
theorem valuesIter_no {k : Int} {Bk B : Nat} {s : Nat → Prop} {w : World} (hk : numberB k = false) (ck : BlkT w Bk 3 #[.int .i64 k]) (hsk : s Bk) :
    IterK Try.prog 105 #[.pointer (some ⟨Bk, 0, none⟩), .pointer (some ⟨B, 0, none⟩)] (fun v => #[runV v]) [⟨none, 0, 0, [], 2⟩] s B w := by
  intro l J Jx W hsz hsame hJ hJx hJs hY h0
  have ckW : BlkT W Bk 3 #[.int .i64 k] := (hsame Bk hsk).trans ck
  have HJ := Lib.hid hJ
  have HY := Lib.hid hY
  have Hck := Lib.hid ckW
  have k0 : W.cell? ⟨Bk, 0, none⟩ = some (.int .i64 k) := ckW.cell 0
  have kl := ckW.lt
  clear hJ hY hJx hJs hsame hsz ck ckW
  refine callsIn_of_wp Try.func105 rfl trivial ?_ rfl
  simp only [Try.ntmps105, List.size_toArray, List.length_cons, List.length_nil, Nat.reduceAdd, Nat.reduceSub, Array.replicate_succ, Array.replicate_zero, List.push_toArray, List.append_toArray, List.nil_append, List.cons_append]
  gi_wp2_with (first | (refine ⟨trivial, ?_⟩; gi_at_call 68; refine (callsIn_wide.2 (kNumber k _)).mono ?_; rintro e w1 ⟨rfl, E1⟩; rw [hk]; obtain ⟨fn, tmps, assign, body, hy, hR⟩ := HY.out 0 _ w1 (HJ.out 0 W w1 h0 ((Only.refl B W).ext E1)) rfl; unfold runV at hy; simp only at hy; rw [show ((2 : Nat) : Int) = 2 from rfl] at hy; have HR := Lib.hid hR; clear hR))
  refine HR.out.mono ?_
  rintro e W' (⟨rfl, hJ', hsm⟩ | ⟨rfl, hJx'⟩)
  · gi_wp2
    exact bodyPost_ret (results_none rfl _ _ _) rfl ⟨⟨_, rfl⟩, .inl hJ'⟩
  · gi_wp2
    exact bodyPost_ret (results_none rfl _ _ _) rfl ⟨⟨_, rfl⟩, .inr hJx'⟩

end Go.Proofs.Ytlmmlmmadgcmcaa
