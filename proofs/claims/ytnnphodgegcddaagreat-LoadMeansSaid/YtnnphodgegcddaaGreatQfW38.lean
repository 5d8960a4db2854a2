/- Contracts of layer 20: the items of a load, one by one. -/
import Derived.Test.YtnnphodgegcddaaGreatQfS36
import Derived.Test.YtnnphodgegcddaaGreatQfW9
import Derived.Test.YtnnphodgegcddaaGreatQfW32
import Derived.Test.YtnnphodgegcddaaGreatQfKScalarReads
import Derived.Test.YtnnphodgegcddaaGreatQfW34
import Derived.Test.YtnnphodgegcddaaGreatQfW14o

namespace Go.Proofs.YtnnphodgegcddaaGreat
open Go.RowKit Go.Shelf
set_option linter.unusedVariables false

inductive ChainL : Option Addr → Nat → Nat → List UInt8 → List RunV → Prop
 | nil (A : Option Addr) (c : Nat) : ChainL A 0 c [] []
 | ok {A A1 A2 A3 : Option Addr} {m c n k : Nat} {bs : List UInt8} {vs : List RunV} (hb : bs ≠ []) (h : readV bs = (k, n, 0)) (hk : k ≤ bs.length - n)
   (h2 : ∀ W : World, (Instr.slice 24 (.slice A m c) (some (.int .i64 (n : Int))) none none).run Tryz.prog W = .ok (.slice A2 (m - n) (c - n)) W)
   (h1 : ∀ W : World, (Instr.slice 24 (.slice A2 (m - n) (c - n)) none (some (.int .u64 (k : Int))) none).run Tryz.prog W = .ok (.slice A1 k (c - n)) W)
   (h3 : ∀ W : World, (Instr.slice 24 (.slice A2 (m - n) (c - n)) (some (.int .u64 (k : Int))) none none).run Tryz.prog W = .ok (.slice A3 (m - n - k) (c - n - k)) W)
   (hA : ∀ s, InS s A → InS s A2) (hA3 : ∀ s, InS s A2 → InS s A3) (t : ChainL A3 (m - n - k) (c - n - k) (bs.drop (n + k)) vs) : ChainL A m c bs (⟨A1, k, c - n, (bs.drop n).take k, 0⟩ :: vs)
 | bad {A : Option Addr} {m c C k n : Nat} {bs : List UInt8} (hb : bs ≠ []) (h : readV bs = (k, n, C)) (hC : C ≠ 0) : ChainL A m c bs [⟨none, 0, 0, [], C⟩]
 | long {A A2 : Option Addr} {m c k n : Nat} {bs : List UInt8} (hb : bs ≠ []) (h : readV bs = (k, n, 0)) (hk : bs.length - n < k)
   (h2 : ∀ W : World, (Instr.slice 24 (.slice A m c) (some (.int .i64 (n : Int))) none none).run Tryz.prog W = .ok (.slice A2 (m - n) (c - n)) W) : ChainL A m c bs [⟨none, 0, 0, [], 3⟩]

theorem chainL_has : ∀ (f : Nat) (A : Option Addr) (m c : Nat) (bs : List UInt8) (w : World), BytesAt w A m c bs → bs.length ≤ f →
  ∃ vs, ChainL A m c bs vs ∧ (∀ v ∈ vs, BytesAt w v.A v.n v.c v.bs ∧ v.e ≤ 4 ∧ v.n ≤ m) ∧ vs.map (fun v => (v.bs, v.e)) = itemsF f bs
 | f, A, m, c, [], w, hb, _ => by
   have hm := hb.length
   simp only [List.length_nil] at hm
   subst hm
   exact ⟨[], .nil A c, (fun v h => by cases h), (by cases f <;> rfl)⟩
 | 0, A, m, c, a :: l, w, hb, h => by simp at h
 | f + 1, A, m, c, a :: l, w, hb, h => by
   have hm := hb.length
   rcases hr : readV (a :: l) with ⟨k, n, C⟩
   have hbd := readV_bd (a :: l)
   rw [hr] at hbd
   simp only at hbd
   have hit : itemN (a :: l) = if C ≠ 0 then (0, 0, C) else if (a :: l).length - n < k then (0, 0, 3) else (n, k, 0) := by unfold itemN; rw [hr]
   by_cases hC : C = 0
   · subst hC
     rw [if_neg (by simp)] at hit
     have hn1 := hbd.2.2.2.2.1 rfl
     have hn : n ≤ m := by omega
     obtain ⟨A2, h2, r2⟩ := cut_from elemB hb .i64 (l := n) hn
     obtain ⟨A4, h5, h4⟩ := cut_from_in elemB hb .i64 (l := n) hn
     have e4 : A4 = A2 := by
      have e := (h2 w).symm.trans (h4 w)
      injection e with e _
      injection e with e _ _
      exact e.symm
     rw [e4] at h5
     have r2' : BytesAt w A2 (m - n) (c - n) ((a :: l).drop n) := by unfold BytesAt; rw [List.map_drop]; simpa using r2
     by_cases hk : (a :: l).length - n < k
     · rw [if_pos hk] at hit
       refine ⟨_, .long (by simp) hr hk h2, fun v hv => ?_, ?_⟩
       · simp only [List.mem_singleton] at hv
         subst hv
         exact ⟨BytesAt.nil w, by simp, by simp⟩
       · conv => rhs; unfold itemsF
         rw [if_neg (by simp), hit, if_neg (by simp)]
         rfl
     · rw [if_neg hk] at hit
       have hk' : k ≤ m - n := by omega
       obtain ⟨A1, h1, r1⟩ := cut_to elemB r2' .u64 (m := k) hk'
       obtain ⟨A3, h3, r3⟩ := cut_from elemB r2' .u64 (l := k) hk'
       obtain ⟨A5, h6, h7⟩ := cut_from_in elemB r2' .u64 (l := k) hk'
       have e5 : A5 = A3 := by
        have e := (h3 w).symm.trans (h7 w)
        injection e with e _
        injection e with e _ _
        exact e.symm
       rw [e5] at h6
       have r1' : BytesAt w A1 k (c - n) (((a :: l).drop n).take k) := by unfold BytesAt; rw [List.map_take]; simpa using r1
       have r3' : BytesAt w A3 (m - n - k) (c - n - k) ((a :: l).drop (n + k)) := by
        rw [← List.drop_drop]
        unfold BytesAt
        rw [List.map_drop]
        simpa using r3
       obtain ⟨vs, c1, c2, c3⟩ := chainL_has f A3 (m - n - k) (c - n - k) ((a :: l).drop (n + k)) w r3' (by rw [List.length_drop]; simp only [List.length_cons] at h ⊢; omega)
       refine ⟨⟨A1, k, c - n, ((a :: l).drop n).take k, 0⟩ :: vs, .ok (by simp) hr (by omega) h2 h1 h3 h5 h6 c1, fun v hv => ?_, ?_⟩
       · rcases List.mem_cons.1 hv with rfl | hv
         · exact ⟨r1', by simp, by simp only; omega⟩
         · have := c2 v hv
           exact ⟨this.1, this.2.1, by omega⟩
       · rw [List.map_cons, c3]
         conv => rhs; unfold itemsF
         rw [if_neg (by simp), hit, if_pos rfl]
   · rw [if_pos hC] at hit
     refine ⟨[⟨none, 0, 0, [], C⟩], .bad (by simp) hr hC, fun v hv => ?_, ?_⟩
     · simp only [List.mem_singleton] at hv
       subst hv
       exact ⟨BytesAt.nil w, by simp only; omega, Nat.zero_le _⟩
     · conv => rhs; unfold itemsF
       rw [if_neg (by simp), hit, if_neg hC]
       rfl

theorem chainL_ne {A : Option Addr} {m c : Nat} {bs : List UInt8} {vs : List RunV} (h : ChainL A m c bs vs) (hl : bs.length = m) : (m = 0 ∧ vs = []) ∨ (0 < m ∧ bs ≠ []) := by
 have hp : ∀ {bs : List UInt8}, bs ≠ [] → 0 < bs.length := fun {bs} hb => by
  cases bs with
  | nil => exact absurd rfl hb
  | cons a l => simp
 cases h with
 | nil => exact .inl ⟨rfl, rfl⟩
 | ok hb => exact .inr ⟨by have := hp hb; omega, hb⟩
 | bad hb => exact .inr ⟨by have := hp hb; omega, hb⟩
 | long hb => exact .inr ⟨by have := hp hb; omega, hb⟩

set_option maxRecDepth 100000 in
set_option maxHeartbeats 4000000 in
theorem itemsIter {A : Option Addr} {m c : Nat} {bs : List UInt8} {vs : List RunV} {B : Nat} {s : Nat → Prop} {w : World} (hb : BytesAt w A m c bs) (hm : m ≤ 1000000000) (hch : ChainL A m c bs vs)
  (cB : BlkT w B 24 #[.slice A m c]) (hsB : s B) (hA : 0 < m → InS (fun b => s b ∧ b ≠ B) A) :
  IterK Tryz.prog 183 #[.pointer (some ⟨B, 0, none⟩)] (fun v => #[runV v]) vs s B w := by
 intro l J Jx W hsz hsame hJ hJx hJs hY h0
 have cBW : BlkT W B 24 #[.slice A m c] := (hsame B hsB).trans cB
 have hbW : BytesAt W A m c bs := bytes_same hb (fun h0 a ha => (hA h0 a ha).1) hsame
 have HJ := Lib.hid hJ
 have HY := Lib.hid hY
 have Hch := Lib.hid hch
 have HcB := Lib.hid cBW
 clear hJ hY hJx hJs hsame hsz hb cB hch cBW
 refine callsIn_of_wp Tryz.func183 rfl trivial ?_ rfl
 simp only [Tryz.ntmps183, List.size_toArray, List.length_cons, List.length_nil, Nat.reduceAdd, Nat.reduceSub, Array.replicate_succ, Array.replicate_zero, List.push_toArray, List.append_toArray, List.nil_append, List.cons_append]
 gi_wp2
 gi_loopw [3, 4, 5] (fun _ _ _ wr => ∃ (j : Nat) (A' : Option Addr) (m' c' : Nat) (bs' : List UInt8), Hid (ChainL A' m' c' bs' (vs.drop j)) ∧ j ≤ vs.length ∧ Hid (BlkT wr B 24 #[.slice A' m' c']) ∧ BytesAt wr A' m' c' bs' ∧ m' ≤ 1000000000 ∧ (0 < m' → InS (fun b => s b ∧ b ≠ B) A') ∧ J j wr)
  (fun _ _ _ wr => lenOf ((wr.cell? ⟨B, 0, none⟩).getD undef))
 case atStart => exact ⟨0, A, m, c, bs, by simpa using Hch, Nat.zero_le _, HcB, hbW, hm, hA, h0⟩
 case round =>
  obtain ⟨j, A', m', c', bs', hc, hj, hB, hb', hm', hA', hJj⟩ := hrel
  have b0 : wr.cell? ⟨B, 0, none⟩ = some (.slice A' m' c') := hB.out.cell 0
  have bf : wr.frozen? ⟨B, 0, none⟩ = false := hB.out.free 0
  have bl := hB.out.lt
  have hbl := hb'.length
  rcases chainL_ne hc.out hbl with ⟨rfl, hnil⟩ | ⟨hpos, hbs⟩
  · have hje : j = vs.length := by
     have := congrArg List.length hnil
     rw [List.length_drop] at this
     simp only [List.length_nil] at this
     omega
    subst hje
    have HJj := Lib.hid hJj
    clear hnil hJj hbl
    gi_wp2
    go_end0
    exact ⟨⟨_, rfl⟩, .inl HJj.out⟩
  · have hposi : (0 : Int) < m' := by omega
    have hcc := hc.out
    cases hd : vs.drop j with
    | nil => rw [hd] at hcc; cases hcc; exact absurd rfl hbs
    | cons v vs' =>
      have hjl : j < vs.length := by
       have := congrArg List.length hd
       rw [List.length_drop] at this
       simp only [List.length_cons] at this
       omega
      have hvj : vs[j]? = some v := by have := congrArg (fun l => l[0]?) hd; simpa using this
      have hd2 : vs.drop (j + 1) = vs' := by have := congrArg (List.drop 1) hd; simpa using this
      rw [hd] at hcc
      cases hcc with
      | @ok _ A1 A2 A3 _ _ n k _ _ hb1 hr hk h2 h1 h3 hAA hA3 ht =>
        have hbd := readV_bd bs'
        rw [hr] at hbd
        simp only at hbd
        have hn : n ≤ m' := by omega
        have hn1 := hbd.2.2.2.2.1 trivial
        have hk64 := hbd.1
        have hcap := Reads.cap hb'
        have hrd := vRead (w := wr) hb' hr
        have hB1 : BlkT (wr.setCell ⟨B, 0, none⟩ (.slice A2 (m' - n) (c' - n))) B 24 #[.slice A2 (m' - n) (c' - n)] := by have := hB.out.set_ 0 (.slice A2 (m' - n) (c' - n)); simpa using this
        have hJ1 := HJ.out j wr _ hJj (only_set wr B (.slice A2 (m' - n) (c' - n)))
        obtain ⟨fn, tmps, assign, body, hy, hR⟩ := HY.out j _ _ hJ1 hvj
        have hS1 : Same (fun b => s b ∧ b ≠ B) wr (wr.setCell ⟨B, 0, none⟩ (.slice A2 (m' - n) (c' - n))) := fun b hb => Below.heap_setCell wr ⟨B, 0, none⟩ _ b hb.2
        have r3 : BytesAt wr A3 (m' - n - k) (c' - n - k) (bs'.drop (n + k)) := by
         obtain ⟨A7, e7, r7⟩ := cut_from elemB hb' .i64 (l := n) hn
         have e8 : A7 = A2 := by
          have e := (e7 wr).symm.trans (h2 wr)
          injection e with e _
          injection e with e _ _
         subst e8
         have r7' : BytesAt wr A7 (m' - n) (c' - n) (bs'.drop n) := by unfold BytesAt; rw [List.map_drop]; simpa using r7
         obtain ⟨A8, e9, r9⟩ := cut_from elemB r7' .u64 (l := k) (by omega)
         have e10 : A8 = A3 := by
          have e := (e9 wr).symm.trans (h3 wr)
          injection e with e _
          injection e with e _ _
         subst e10
         rw [← List.drop_drop]
         unfold BytesAt
         rw [List.map_drop]
         simpa using r9
        have b1 : (wr.setCell ⟨B, 0, none⟩ (.slice A2 (m' - n) (c' - n))).cell? ⟨B, 0, none⟩ = some (.slice A2 (m' - n) (c' - n)) := hB1.cell 0
        have Hrd := Lib.hid hrd
        have Hd2 := Lib.hid hd2
        have Ht := Lib.hid ht
        have HR := Lib.hid hR
        have HB1 := Lib.hid hB1
        have Hr3 := Lib.hid r3
        have HS1 := Lib.hid hS1
        have hni : (n : Int) ≤ m' := by omega
        have hk2 : k ≤ m' - n := by omega
        have hk3 : (k : Int) ≤ ((m' - n : Nat) : Int) := by omega
        have hmn : m' - n ≤ 1000000000 := by omega
        have hdec : Hid (m' - n - k < m') := by show m' - n - k < m'; omega
        unfold runV at hy
        simp only at hy
        rw [show ((0 : Nat) : Int) = 0 from rfl] at hy
        clear hrd hd hd2 ht hR hr hbd hbl hb1 hvj hB1 hJ1 hS1 r3 hk hJj
        generalize m' - n = p at *
        generalize c' - n = q at *
        generalize p - k = p2 at *
        generalize q - k = q2 at *
        have hkk : ¬ (p : Int) < (k : Int) := by omega
        gi_wp2_with (first | (refine ⟨trivial, ?_⟩; gi_at_call 143; refine (callsIn_wide.2 Hrd.out).mono ?_; rintro e w3 ⟨rfl, rfl⟩))
        refine HR.out.mono ?_
        rintro e W' (⟨rfl, hJ', hsm⟩ | ⟨rfl, hJx'⟩)
        · have hIn := hA3 _ (hAA _ (hA' hpos))
          have hB' : BlkT W' B 24 #[.slice A2 p q] := (hsm B hsB).trans HB1.out
          have b2 : W'.cell? ⟨B, 0, none⟩ = some (.slice A2 p q) := hB'.cell 0
          have b3 : W'.frozen? ⟨B, 0, none⟩ = false := hB'.free 0
          have bl2 := hB'.lt
          have r4 := bytes_same Hr3.out (s := fun b => s b ∧ b ≠ B) (fun _ => hIn) (HS1.out.trans (fun b hb => hsm b hb.1))
          have r5 : BytesAt (W'.setCell ⟨B, 0, none⟩ (.slice A3 p2 q2)) A3 p2 q2 (bs'.drop (n + k)) := bytes_same r4 (fun _ => hIn) (fun b hb => Below.heap_setCell W' ⟨B, 0, none⟩ _ b hb.2)
          have hB2 : BlkT (W'.setCell ⟨B, 0, none⟩ (.slice A3 p2 q2)) B 24 #[.slice A3 p2 q2] := by have := hB'.set_ 0 (.slice A3 p2 q2); simpa using this
          have HJ' := Lib.hid hJ'
          have HB2 := Lib.hid hB2
          have hp2 : Hid (p2 ≤ 1000000000) := by have := hdec.out; show p2 ≤ 1000000000; omega
          clear hJ' hB' hB2 hsm r4
          gi_wp2
          go_roundw
          case rel => exact ⟨j + 1, A3, p2, q2, bs'.drop (n + k), by rw [Hd2.out]; exact Ht.out, by omega, HB2, r5, hp2.out, fun _ => hIn, HJ.out _ _ _ HJ'.out (only_set _ _ _)⟩
          case measure =>
           have e1 := HB2.out.cell 0
           rw [e1, b0]
           exact hdec.out
        · gi_wp2
          exact bodyPost_ret (results_none rfl _ _ _) rfl ⟨⟨_, rfl⟩, .inr hJx'⟩
      | @bad _ _ _ C k n _ hb1 hr hC =>
        have hrd := vRead (w := wr) hb' hr
        have hlast : j + 1 = vs.length := by
         have := congrArg List.length hd
         rw [List.length_drop] at this
         simp only [List.length_cons, List.length_nil] at this
         omega
        obtain ⟨fn, tmps, assign, body, hy, hR⟩ := HY.out j _ _ hJj hvj
        have Hrd := Lib.hid hrd
        have HR := Lib.hid hR
        have HC : ((C : Int) != 0) = true := by rw [bne_iff_ne]; omega
        have Hlast := Lib.hid hlast
        unfold runV at hy
        simp only at hy
        clear hrd hd hd2 hR hr hbl hb1 hvj hlast hC hJj
        gi_wp2_with (first | (refine ⟨trivial, ?_⟩; gi_at_call 143; refine (callsIn_wide.2 Hrd.out).mono ?_; rintro e w3 ⟨rfl, rfl⟩))
        refine HR.out.mono ?_
        rintro e W' (⟨rfl, hJ', hsm⟩ | ⟨rfl, hJx'⟩)
        · rw [Hlast.out] at hJ'
          have HJ' := Lib.hid hJ'
          clear hJ' hsm
          gi_wp2
          exact bodyPost_ret (results_none rfl _ _ _) rfl ⟨⟨_, rfl⟩, .inl HJ'.out⟩
        · gi_wp2
          exact bodyPost_ret (results_none rfl _ _ _) rfl ⟨⟨_, rfl⟩, .inr hJx'⟩
      | @long _ A2 _ _ k n _ hb1 hr hk h2 =>
        have hbd := readV_bd bs'
        rw [hr] at hbd
        simp only at hbd
        have hn : n ≤ m' := by omega
        have hk64 := hbd.1
        have hcap := Reads.cap hb'
        have hrd := vRead (w := wr) hb' hr
        have hB1 : BlkT (wr.setCell ⟨B, 0, none⟩ (.slice A2 (m' - n) (c' - n))) B 24 #[.slice A2 (m' - n) (c' - n)] := by have := hB.out.set_ 0 (.slice A2 (m' - n) (c' - n)); simpa using this
        have hJ1 := HJ.out j wr _ hJj (only_set wr B (.slice A2 (m' - n) (c' - n)))
        obtain ⟨fn, tmps, assign, body, hy, hR⟩ := HY.out j _ _ hJ1 hvj
        have hlast : j + 1 = vs.length := by
         have := congrArg List.length hd
         rw [List.length_drop] at this
         simp only [List.length_cons, List.length_nil] at this
         omega
        have b1 : (wr.setCell ⟨B, 0, none⟩ (.slice A2 (m' - n) (c' - n))).cell? ⟨B, 0, none⟩ = some (.slice A2 (m' - n) (c' - n)) := hB1.cell 0
        have Hrd := Lib.hid hrd
        have HR := Lib.hid hR
        have Hlast := Lib.hid hlast
        have hni : (n : Int) ≤ m' := by omega
        have hk2 : m' - n < k := by omega
        have hmn : m' - n ≤ 1000000000 := by omega
        unfold runV at hy
        simp only at hy
        rw [show ((3 : Nat) : Int) = 3 from rfl] at hy
        clear hrd hd hd2 hR hr hbd hbl hb1 hvj hB1 hJ1 hk hJj hlast
        generalize m' - n = p at *
        generalize c' - n = q at *
        have hkk : (p : Int) < (k : Int) := by omega
        gi_wp2_with (first | (refine ⟨trivial, ?_⟩; gi_at_call 143; refine (callsIn_wide.2 Hrd.out).mono ?_; rintro e w3 ⟨rfl, rfl⟩))
        refine HR.out.mono ?_
        rintro e W' (⟨rfl, hJ', hsm⟩ | ⟨rfl, hJx'⟩)
        · rw [Hlast.out] at hJ'
          have HJ' := Lib.hid hJ'
          clear hJ' hsm
          gi_wp2
          exact bodyPost_ret (results_none rfl _ _ _) rfl ⟨⟨_, rfl⟩, .inl HJ'.out⟩
        · gi_wp2
          exact bodyPost_ret (results_none rfl _ _ _) rfl ⟨⟨_, rfl⟩, .inr hJx'⟩

end Go.Proofs.YtnnphodgegcddaaGreat

/- Contracts of layer 20: one item's code; the items' iterator; a load's code. -/



namespace Go.Proofs.YtnnphodgegcddaaGreat
open Go.RowKit Go.Shelf
set_option linter.unusedVariables false
attribute [local go_sem] Oper.semAt_some

set_option maxRecDepth 100000 in
set_option maxHeartbeats 4000000 in
theorem lOne {A B : Option Addr} {n c m k : Nat} {S : List MsgV} {f : FieldD} {d : Int} {bs : List UInt8} {w : World} (hs : SchemaAt w A n c S) (hb : BytesAt w B m k bs) (hm : m ≤ 1000000000) :
  Calls Tryz.prog 88 #[.slice A n c, fieldV f, .slice B m k, .int .i64 d] w fun e w' => e = .returned (.int .u8 (oneL (S.map MsgV.d) f d bs : Nat)) ∧ Ext w w' := by
 have hn := fun W => kNumber f.kind W
 have hu := fun W (h : BytesAt W B m k bs) => uRight h
 have hc := fun W (h : SchemaAt W A n c S) (q : BytesAt W B m k bs) => vCheck (root := f.of_) (d := d) h q hm
 have hr := fun W (q : BytesAt W B m k bs) => sRead (k := f.kind) (W := (readS f.kind bs).1) (C := (readS f.kind bs).2) q rfl
 have Hn := Lib.hid hn
 have Hu := Lib.hid hu
 have Hc := Lib.hid hc
 have Hr := Lib.hid hr
 clear hn hu hc hr
 unfold fieldV
 have BF := BlkT.new w 48 #[.string f.name, .int .i64 f.number, .int .i64 f.kind, .bool f.rep, .bool f.packed, .int .i64 f.of_] rfl
 have X0 : Ext w (w.alloc (.cells #[.string f.name, .int .i64 f.number, .int .i64 f.kind, .bool f.rep, .bool f.packed, .int .i64 f.of_] 48)) := (Ext.refl w).alloc _
 rcases hk : numberB f.kind with _ | _
 · have Hn' : ∀ W, Calls Tryz.prog 62 #[.int .i64 f.kind] W fun e w' => e = .returned (.bool false) ∧ Ext W w' := by rw [← hk]; exact Hn.out
   have HN := Lib.hid Hn'
   clear Hn Hn'
   by_cases h15 : f.kind = 15
   · have e : oneL (S.map MsgV.d) f d bs = if rightT bs = true then 0 else 7 := by
      unfold oneL
      rw [if_neg (by rw [hk]; decide), if_pos h15]
     rw [e]
     have h15b : (f.kind == 15) = true := by rw [h15]; rfl
     generalize rightT bs = R at *
     clear e h15 hk
     rcases R with _ | _
     all_goals
      go_enter Tryz.func88, Tryz.ntmps88
      go_wp2_with fail
      generalize w.alloc (.cells #[.string f.name, .int .i64 f.number, .int .i64 f.kind, .bool f.rep, .bool f.packed, .int .i64 f.of_] 48) = wx at *
      have z2 : wx.cell? ⟨w.heap.size, 2, none⟩ = some (.int .i64 f.kind) := BF.cell 2
      clear BF
      go_wp2_with (first
       | (go_at_call 62; refine (HN.out _).mono ?_; rintro e w1 ⟨rfl, E1⟩; replace z2 := E1.of_cell z2)
       | (go_at_call 120; refine (Hu.out _ (hb.up (X0.trans E1))).mono ?_; rintro e w2 ⟨rfl, hw⟩; subst hw))
      go_ret
      exact ⟨rfl, X0.trans E1⟩
   · have h15b : (f.kind == 15) = false := by rw [beq_eq_false_iff_ne]; exact h15
     by_cases h17 : f.kind = 17
     · have e : oneL (S.map MsgV.d) f d bs = (checkB (S.map MsgV.d) f.of_ bs d).2 := by
        unfold oneL
        rw [if_neg (by rw [hk]; decide), if_neg h15, if_pos h17]
       rw [e]
       have h17b : (f.kind == 17) = true := by rw [h17]; rfl
       generalize checkB (S.map MsgV.d) f.of_ bs d = V at *
       clear e h15 h17 hk
       go_enter Tryz.func88, Tryz.ntmps88
       go_wp2_with fail
       generalize w.alloc (.cells #[.string f.name, .int .i64 f.number, .int .i64 f.kind, .bool f.rep, .bool f.packed, .int .i64 f.of_] 48) = wx at *
       have z2 : wx.cell? ⟨w.heap.size, 2, none⟩ = some (.int .i64 f.kind) := BF.cell 2
       have z5 : wx.cell? ⟨w.heap.size, 5, none⟩ = some (.int .i64 f.of_) := BF.cell 5
       clear BF
       go_wp2_with (first
        | (go_at_call 62; refine (HN.out _).mono ?_; rintro e w1 ⟨rfl, E1⟩; replace z2 := E1.of_cell z2; replace z5 := E1.of_cell z5)
        | (go_at_call 47; refine (Hc.out _ (hs.up (X0.trans E1)) (hb.up (X0.trans E1))).mono ?_; rintro e w2 ⟨rfl, E2⟩))
       go_ret
       exact ⟨rfl, (X0.trans E1).trans E2⟩
     · have e : oneL (S.map MsgV.d) f d bs = 0 := by
        unfold oneL
        rw [if_neg (by rw [hk]; decide), if_neg h15, if_neg h17]
       rw [e]
       have h17b : (f.kind == 17) = false := by rw [beq_eq_false_iff_ne]; exact h17
       clear e h15 h17 hk
       go_enter Tryz.func88, Tryz.ntmps88
       go_wp2_with fail
       generalize w.alloc (.cells #[.string f.name, .int .i64 f.number, .int .i64 f.kind, .bool f.rep, .bool f.packed, .int .i64 f.of_] 48) = wx at *
       have z2 : wx.cell? ⟨w.heap.size, 2, none⟩ = some (.int .i64 f.kind) := BF.cell 2
       clear BF
       go_wp2_with (first
        | (go_at_call 62; refine (HN.out _).mono ?_; rintro e w1 ⟨rfl, E1⟩; replace z2 := E1.of_cell z2))
       go_ret
       exact ⟨rfl, X0.trans E1⟩
 · have Hn' : ∀ W, Calls Tryz.prog 62 #[.int .i64 f.kind] W fun e w' => e = .returned (.bool true) ∧ Ext W w' := by rw [← hk]; exact Hn.out
   have HN := Lib.hid Hn'
   clear Hn Hn'
   have e : oneL (S.map MsgV.d) f d bs = (readS f.kind bs).2 := by
    unfold oneL
    rw [if_pos hk]
   rw [e]
   have hr0 := sRead_0 hk bs
   generalize readS f.kind bs = V at *
   obtain ⟨V1, V2⟩ := V
   simp only at hr0
   have hv : V2 = 0 ∨ V2 = 12 := by
    rw [hr0]
    split
    · exact .inl rfl
    · exact .inr rfl
   clear hr0 e hk
   rcases hv with rfl | rfl
   all_goals
    go_enter Tryz.func88, Tryz.ntmps88
    go_wp2_with fail
    generalize w.alloc (.cells #[.string f.name, .int .i64 f.number, .int .i64 f.kind, .bool f.rep, .bool f.packed, .int .i64 f.of_] 48) = wx at *
    have z2 : wx.cell? ⟨w.heap.size, 2, none⟩ = some (.int .i64 f.kind) := BF.cell 2
    clear BF
    go_wp2_with (first
     | (go_at_call 62; refine (HN.out _).mono ?_; rintro e w1 ⟨rfl, E1⟩; replace z2 := E1.of_cell z2)
     | (go_at_call 86; refine (Hr.out _ (hb.up (X0.trans E1))).mono ?_; rintro e w2 ⟨rfl, E2⟩))
    go_ret
    exact ⟨rfl, (X0.trans E1).trans E2⟩

structure LoadI (w : World) (rep : Bool) (m : Nat) (bs : List UInt8) (vs : List RunV) : Prop where
 each : ∀ v ∈ vs, BytesAt w v.A v.n v.c v.bs ∧ v.e ≤ 4 ∧ v.n ≤ m
 list : vs.map (fun v => (v.bs, v.e)) = itemsL rep bs

theorem LoadI.item {w : World} {rep : Bool} {m : Nat} {bs : List UInt8} {vs : List RunV} (h : LoadI w rep m bs vs) {j : Nat} {x : RunV} (hx : vs[j]? = some x) : (itemsL rep bs)[j]? = some (x.bs, x.e) := by
 rw [← h.list, List.getElem?_map, hx]
 rfl

theorem LoadI.back {w : World} {rep : Bool} {m : Nat} {bs : List UInt8} {vs : List RunV} (h : LoadI w rep m bs vs) {j : Nat} {y : List UInt8 × Nat} (hy : (itemsL rep bs)[j]? = some y) : ∃ x, vs[j]? = some x ∧ y = (x.bs, x.e) := by
 rw [← h.list, List.getElem?_map] at hy
 rcases hv : vs[j]? with _ | x
 · rw [hv] at hy
   cases hy
 · rw [hv] at hy
   cases hy
   exact ⟨x, rfl, rfl⟩

def AllP (w0 w : World) (rep : Bool) (m : Nat) (bs : List UInt8) (e : Ending) (w' : World) : Prop :=
 ∃ gf lb B vs, e = .returned (.func (.func gf) #[] lb) ∧ (∀ args W, (callFunc gf args).run Tryz.prog W = .ok (.enter gf args) W) ∧ LoadI w0 rep m bs vs ∧ IterK Tryz.prog gf lb (fun v => #[runV v]) vs (fun b => b < w0.heap.size ∨ b = B) B w' ∧ w.heap.size ≤ B ∧ B < w'.heap.size ∧ Ext w w'

theorem oneIter {A : Option Addr} {m c : Nat} {bs : List UInt8} {B : Nat} {s : Nat → Prop} {w : World} (cB : BlkT w B 24 #[.slice A m c]) (hsB : s B) :
  IterK Tryz.prog 141 #[.pointer (some ⟨B, 0, none⟩)] (fun v => #[runV v]) [⟨A, m, c, bs, 0⟩] s B w := by
 intro l J Jx W hsz hsame hJ hJx hJs hY h0
 have cBW : BlkT W B 24 #[.slice A m c] := (hsame B hsB).trans cB
 have b0 := cBW.cell 0
 have bl := cBW.lt
 obtain ⟨fn, tmps, assign, body, hy, hR⟩ := hY 0 _ W h0 rfl
 unfold runV at hy
 simp only at hy
 rw [show ((0 : Nat) : Int) = 0 from rfl] at hy
 have HR := Lib.hid hR
 clear hJ hY hJx hJs hsame hsz cB hR h0
 refine callsIn_of_wp Tryz.func141 rfl trivial ?_ rfl
 simp only [Tryz.ntmps141, List.size_toArray, List.length_cons, List.length_nil, Nat.reduceAdd, Nat.reduceSub, Array.replicate_succ, Array.replicate_zero, List.push_toArray, List.append_toArray, List.nil_append, List.cons_append]
 gi_wp2
 refine HR.out.mono ?_
 rintro e W' (⟨rfl, hJ', hsm⟩ | ⟨rfl, hJx'⟩)
 · gi_wp2
   go_end0
   exact ⟨⟨_, rfl⟩, .inl hJ'⟩
 · gi_wp2
   go_end0
   exact ⟨⟨_, rfl⟩, .inr hJx'⟩

theorem lItems {A : Option Addr} {m c : Nat} {w : World} :
  Calls Tryz.prog 140 #[.slice A m c] w fun e w' => e = .returned (.func (.func 183) #[] #[.pointer (some ⟨w.heap.size, 0, none⟩)]) ∧ w.alloc (.cells #[.slice A m c] 24) = w' := by
 go_enter Tryz.func140, Tryz.ntmps140
 go_wp2
 go_ret
 exact ⟨rfl, rfl⟩

set_option maxRecDepth 100000 in
theorem lAll {A : Option Addr} {m c : Nat} {bs : List UInt8} {f : FieldD} {w0 w : World} (hb : BytesAt w0 A m c bs) (hE : Ext w0 w) (hm : m ≤ 1000000000) :
  Calls Tryz.prog 85 #[fieldV f, .slice A m c] w (AllP w0 w f.rep m bs) := by
 unfold fieldV
 obtain ⟨wx, hwx⟩ : ∃ wx, wx = (w.alloc (.cells #[.string f.name, .int .i64 f.number, .int .i64 f.kind, .bool f.rep, .bool f.packed, .int .i64 f.of_] 48)).alloc (.cells #[.slice A m c] 24) := ⟨_, rfl⟩
 have BF : BlkT wx w.heap.size 48 #[.string f.name, .int .i64 f.number, .int .i64 f.kind, .bool f.rep, .bool f.packed, .int .i64 f.of_] := by rw [hwx]; exact (BlkT.new w _ _ rfl).alloc _
 have BB : BlkT wx (w.heap.size + 1) 24 #[.slice A m c] := by rw [hwx]; exact BlkT.new _ _ _ (by simp)
 have X0 : Ext w wx := by rw [hwx]; exact ((Ext.refl w).alloc _).alloc _
 have hsz : wx.heap.size = w.heap.size + 2 := by rw [hwx]; simp
 have z3 : wx.cell? ⟨w.heap.size, 3, none⟩ = some (.bool f.rep) := BF.cell 3
 have y0 : wx.cell? ⟨w.heap.size + 1, 0, none⟩ = some (.slice A m c) := BB.cell 0
 rcases hr : f.rep with _ | _
 · rw [hr] at z3 hwx
   go_enter Tryz.func85, Tryz.ntmps85
   go_wp2_with fail
   rw [← hwx]
   clear hwx
   go_wp2
   go_ret
   exact ⟨_, _, w.heap.size + 1, _, rfl, enters_of Tryz.func141 (by kernel_rfl) rfl, ⟨fun v hv => by
    simp only [List.mem_singleton] at hv
    subst hv
    exact ⟨hb, by simp, Nat.le_refl _⟩, rfl⟩, oneIter (bs := bs) BB (.inr rfl), by omega, by omega, X0⟩
 · rw [hr] at z3 hwx
   have hX2 := X0.alloc (.cells #[.slice A m c] 24)
   have BB2 : BlkT (wx.alloc (.cells #[.slice A m c] 24)) (w.heap.size + 2) 24 #[.slice A m c] := BlkT.new _ _ _ (by omega)
   obtain ⟨vs, c1, c2, c3⟩ := chainL_has bs.length A m c bs w0 hb (Nat.le_refl _)
   go_enter Tryz.func85, Tryz.ntmps85
   go_wp2_with fail
   rw [← hwx]
   clear hwx
   go_wp2_with (go_at_call 140; refine lItems.mono ?_; rintro e w1 ⟨rfl, rfl⟩)
   go_ret
   refine ⟨_, _, w.heap.size + 2, vs, rfl, enters_of Tryz.func183 (by kernel_rfl) rfl, ⟨c2, c3⟩, itemsIter (hb.up (hE.trans hX2)) hm c1 BB2 (.inr rfl) (fun h0 a ha => ?_), by omega, by simp; omega, hX2⟩
   obtain ⟨b, off, e, hb1, _⟩ := hb.at_ h0
   rw [e] at ha
   cases ha
   exact ⟨.inl hb1, by have := hE.size; show b ≠ w.heap.size + 2; omega⟩

end Go.Proofs.YtnnphodgegcddaaGreat

/- Contracts of layer 20: a load's code. -/

namespace Go.Proofs.YtnnphodgegcddaaGreat
open Go.RowKit Go.Shelf
set_option linter.unusedVariables false
attribute [local go_sem] Oper.semAt_some

structure ChkI (SA : Option Addr) (sn sc : Nat) (S : List MsgD) (f : FieldD) (d : Int) (w wq wa : World) (vs : List RunV) (j : Nat) (W : World) : Prop where
 b4 : BlkT W w.heap.size 23 #[.slice SA sn sc]
 b5 : BlkT W (w.heap.size + 1) 48 #[.string f.name, .int .i64 f.number, .int .i64 f.kind, .bool f.rep, .bool f.packed, .int .i64 f.of_]
 b7 : BlkT W (w.heap.size + 1 + 1) 3 #[.int .i64 d]
 b8 : BlkT W (w.heap.size + 1 + 1 + 1) 27 #[.int .u8 0]
 ext : Ext wq W
 size : wa.heap.size ≤ W.heap.size
 fine : ∀ (i : Nat) v, i < j → vs[i]? = some v → v.e = 0 ∧ oneL S f d v.bs = 0

structure ChkX (C : Nat) (w : World) (c : Code) (W : World) : Prop where
 ret : c = .ret
 b8 : BlkT W (w.heap.size + 1 + 1 + 1) 27 #[.int .u8 (C : Nat)]
 ext : Ext w W

theorem keeps_ext {W W' : World} (h : Ext W W') : KeepsOthers W W' := ⟨h.size, fun l o k _ => (h.block l (Array.getElem?_eq_some_iff.1 k).1).trans k⟩

def chkW (SA : Option Addr) (sn sc : Nat) (f : FieldD) (d : Int) (w : World) : World :=
 (((w.alloc (.cells #[.slice SA sn sc] 23)).alloc (.cells #[.string f.name, .int .i64 f.number, .int .i64 f.kind, .bool f.rep, .bool f.packed, .int .i64 f.of_] 48)).alloc (.cells #[.int .i64 d] 3)).alloc (.cells #[.int .u8 0] 27)

theorem chkW_at (SA : Option Addr) (sn sc : Nat) (S : List MsgD) (f : FieldD) (d : Int) (w : World) (vs : List RunV) : ChkI SA sn sc S f d w w (chkW SA sn sc f d w) vs 0 (chkW SA sn sc f d w) := by
 unfold chkW
 exact ⟨(((BlkT.new w _ _ rfl).alloc _).alloc _).alloc _, ((BlkT.new _ _ _ (by simp)).alloc _).alloc _, (BlkT.new _ _ _ (by simp)).alloc _, BlkT.new _ _ _ (by simp), (by repeat with_reducible (first | exact Ext.refl _ | refine Ext.alloc ?_ _ | refine Ext.drew ?_ | refine Ext.drewN ?_ _ | refine Ext.setCell ?_ (by first | omega | (simp <;> omega)) _)), Nat.le_refl _, fun i v h => absurd h (Nat.not_lt_zero i)⟩

set_option maxRecDepth 100000 in
set_option maxHeartbeats 4000000 in
theorem lCheck_bad {SA B : Option Addr} {sn sc m k : Nat} {S : List MsgV} {f : FieldD} {d : Int} {w : World} (hs : SchemaAt w SA sn sc S) (h0 : argsL (S.map MsgV.d) f d ≠ 0) :
  Calls Tryz.prog 39 #[.slice SA sn sc, fieldV f, .slice B m k, .int .i64 d] w fun e w' => e = .returned (.int .u8 (argsL (S.map MsgV.d) f d : Nat)) ∧ Ext w w' := by
 have hl := fun W (h : SchemaAt W SA sn sc S) => lArgs (f := f) (d := d) h
 have hN : ((argsL (S.map MsgV.d) f d : Nat) : Int) ≠ 0 := by omega
 have hN2 : (((argsL (S.map MsgV.d) f d : Nat) : Int) != 0) = true := by rw [bne_iff_ne]; exact hN
 have h := chkW_at SA sn sc (S.map MsgV.d) f d w []
 have Hl := Lib.hid hl
 have HS := Lib.hid hs
 clear hl h0 hs hN
 generalize argsL (S.map MsgV.d) f d = C at *
 unfold fieldV
 unfold fieldV at Hl
 refine (callsIn_wide (n := 3)).1 ?_
 refine callsIn_of_wp_marks Tryz.func39 rfl trivial ?_ rfl
 simp only [Tryz.ntmps39, List.size_toArray, List.length_cons, List.length_nil, Nat.reduceAdd, Nat.reduceSub, Array.replicate_succ, Array.replicate_zero, List.push_toArray, List.append_toArray, List.nil_append, List.cons_append]
 gi_wp2_with fail
 rw [show (((w.alloc (.cells #[.slice SA sn sc] 23)).alloc (.cells #[.string f.name, .int .i64 f.number, .int .i64 f.kind, .bool f.rep, .bool f.packed, .int .i64 f.of_] 48)).alloc (.cells #[.int .i64 d] 3)).alloc (.cells #[.int .u8 0] 27) = chkW SA sn sc f d w from rfl]
 generalize chkW SA sn sc f d w = wa at *
 have z4 := h.b4.cell 0
 have z7 := h.b7.cell 0
 have z50 : wa.cell? ⟨w.heap.size + 1, 0, none⟩ = some (.string f.name) := h.b5.cell 0
 have z51 : wa.cell? ⟨w.heap.size + 1, 1, none⟩ = some (.int .i64 f.number) := h.b5.cell 1
 have z52 : wa.cell? ⟨w.heap.size + 1, 2, none⟩ = some (.int .i64 f.kind) := h.b5.cell 2
 have z53 : wa.cell? ⟨w.heap.size + 1, 3, none⟩ = some (.bool f.rep) := h.b5.cell 3
 have z54 : wa.cell? ⟨w.heap.size + 1, 4, none⟩ = some (.bool f.packed) := h.b5.cell 4
 have z55 : wa.cell? ⟨w.heap.size + 1, 5, none⟩ = some (.int .i64 f.of_) := h.b5.cell 5
 have X := h.ext
 have B8 := h.b8
 clear h
 gi_wp2_with (first | (refine ⟨trivial, ?_⟩; gi_at_call 58; refine (callsIn_wide.2 (Hl.out _ (HS.out.up X))).mono ?_; rintro e w1 ⟨rfl, E1⟩; replace B8 := B8.up E1; have b80 := B8.cell 0; have b81 := B8.free 0; have b82 := B8.lt; have X1 := X.trans E1))
 have R8 := (B8.set_ 0 (.int .u8 (C : Int))).cell 0
 simp at R8
 exact ⟨.int .u8 (C : Int), by simp [results, Tryz.results39, go_sem, R8], rfl, X1.setCell (p := ⟨w.heap.size + 1 + 1 + 1, 0, none⟩) (by show w.heap.size ≤ w.heap.size + 1 + 1 + 1; omega) _⟩

set_option maxRecDepth 100000 in
set_option maxHeartbeats 4000000 in
theorem lCheck_run {SA B : Option Addr} {sn sc m k : Nat} {S : List MsgV} {f : FieldD} {d : Int} {bs : List UInt8} {w : World} (hs : SchemaAt w SA sn sc S) (hb : BytesAt w B m k bs) (hm : m ≤ 1000000000) (h0 : argsL (S.map MsgV.d) f d = 0) (hr : runL f = true) :
  Calls Tryz.prog 39 #[.slice SA sn sc, fieldV f, .slice B m k, .int .i64 d] w fun e w' => e = .returned (.int .u8 (codeV f.kind bs : Nat)) ∧ Ext w w' := by
 have hl := fun W (h : SchemaAt W SA sn sc S) => lArgs (f := f) (d := d) h
 rw [h0] at hl
 have hp := fun W => lPacked (f := f) (w := W)
 unfold runL at hr
 rw [hr] at hp
 have hc := fun W (h : BytesAt W B m k bs) => uCount (k := f.kind) h hm
 have h := chkW_at SA sn sc (S.map MsgV.d) f d w []
 have Hl := Lib.hid hl
 have Hp := Lib.hid hp
 have Hc := Lib.hid hc
 have HS := Lib.hid hs
 have HB := Lib.hid hb
 clear hl hp hc h0 hs hb hr
 generalize codeV f.kind bs = C at *
 unfold fieldV
 unfold fieldV at Hl Hp
 refine (callsIn_wide (n := 3)).1 ?_
 refine callsIn_of_wp_marks Tryz.func39 rfl trivial ?_ rfl
 simp only [Tryz.ntmps39, List.size_toArray, List.length_cons, List.length_nil, Nat.reduceAdd, Nat.reduceSub, Array.replicate_succ, Array.replicate_zero, List.push_toArray, List.append_toArray, List.nil_append, List.cons_append]
 gi_wp2_with fail
 rw [show (((w.alloc (.cells #[.slice SA sn sc] 23)).alloc (.cells #[.string f.name, .int .i64 f.number, .int .i64 f.kind, .bool f.rep, .bool f.packed, .int .i64 f.of_] 48)).alloc (.cells #[.int .i64 d] 3)).alloc (.cells #[.int .u8 0] 27) = chkW SA sn sc f d w from rfl]
 generalize chkW SA sn sc f d w = wa at *
 have z4 := h.b4.cell 0
 have z7 := h.b7.cell 0
 have z50 : wa.cell? ⟨w.heap.size + 1, 0, none⟩ = some (.string f.name) := h.b5.cell 0
 have z51 : wa.cell? ⟨w.heap.size + 1, 1, none⟩ = some (.int .i64 f.number) := h.b5.cell 1
 have z52 : wa.cell? ⟨w.heap.size + 1, 2, none⟩ = some (.int .i64 f.kind) := h.b5.cell 2
 have z53 : wa.cell? ⟨w.heap.size + 1, 3, none⟩ = some (.bool f.rep) := h.b5.cell 3
 have z54 : wa.cell? ⟨w.heap.size + 1, 4, none⟩ = some (.bool f.packed) := h.b5.cell 4
 have z55 : wa.cell? ⟨w.heap.size + 1, 5, none⟩ = some (.int .i64 f.of_) := h.b5.cell 5
 have X := h.ext
 have B8 := h.b8
 clear h
 gi_wp2_with (first
  | (refine ⟨trivial, ?_⟩; gi_at_call 58; refine (callsIn_wide.2 (Hl.out _ (HS.out.up X))).mono ?_; rintro e w1 ⟨rfl, E1⟩; have X1 := X.trans E1; replace B8 := B8.up E1; replace z4 := E1.of_cell z4; replace z7 := E1.of_cell z7; replace z50 := E1.of_cell z50; replace z51 := E1.of_cell z51; replace z52 := E1.of_cell z52; replace z53 := E1.of_cell z53; replace z54 := E1.of_cell z54; replace z55 := E1.of_cell z55)
  | (refine ⟨trivial, ?_⟩; gi_at_call 60; refine (callsIn_wide.2 (Hp.out _)).mono ?_; rintro e w2 ⟨rfl, E2⟩; have X2 := X1.trans E2; replace B8 := B8.up E2; replace z4 := E2.of_cell z4; replace z7 := E2.of_cell z7; replace z50 := E2.of_cell z50; replace z51 := E2.of_cell z51; replace z52 := E2.of_cell z52; replace z53 := E2.of_cell z53; replace z54 := E2.of_cell z54; replace z55 := E2.of_cell z55)
  | (refine ⟨trivial, ?_⟩; gi_at_call 87; refine (callsIn_wide.2 (Hc.out _ (HB.out.up X2))).mono ?_; rintro e w3 ⟨rfl, E3⟩; have X3 := X2.trans E3; replace B8 := B8.up E3; have b80 := B8.cell 0; have b81 := B8.free 0; have b82 := B8.lt))
 have R8 := (B8.set_ 0 (.int .u8 (C : Int))).cell 0
 simp at R8
 exact ⟨.int .u8 (C : Int), by simp [results, Tryz.results39, go_sem, R8], rfl, X3.setCell (p := ⟨w.heap.size + 1 + 1 + 1, 0, none⟩) (by show w.heap.size ≤ w.heap.size + 1 + 1 + 1; omega) _⟩

set_option maxRecDepth 100000 in
set_option maxHeartbeats 4000000 in
theorem lCheck_items {SA B : Option Addr} {sn sc m k : Nat} {S : List MsgV} {f : FieldD} {d : Int} {bs : List UInt8} {w : World} (hs : SchemaAt w SA sn sc S) (hb : BytesAt w B m k bs) (hm : m ≤ 1000000000) (h0 : argsL (S.map MsgV.d) f d = 0) (hr : runL f = false) :
  Calls Tryz.prog 39 #[.slice SA sn sc, fieldV f, .slice B m k, .int .i64 d] w fun e w' => e = .returned (.int .u8 (firstL (oneL (S.map MsgV.d) f d) (itemsL f.rep bs) : Nat)) ∧ Ext w w' := by
 have hl := fun W (h : SchemaAt W SA sn sc S) => lArgs (f := f) (d := d) h
 rw [h0] at hl
 have hp := fun W => lPacked (f := f) (w := W)
 unfold runL at hr
 rw [hr] at hp
 have ha := fun W (h : BytesAt W B m k bs) => lAll (f := f) h (Ext.refl W) hm
 have ho := fun W (x : RunV) (h : SchemaAt W SA sn sc S) (q : BytesAt W x.A x.n x.c x.bs) (hn : x.n ≤ 1000000000) => lOne (f := f) (d := d) h q hn
 have h := chkW_at SA sn sc (S.map MsgV.d) f d w []
 have Hl := Lib.hid hl
 have Hp := Lib.hid hp
 have Ha := Lib.hid ha
 have Ho := Lib.hid ho
 have HS := Lib.hid hs
 have HB := Lib.hid hb
 clear hl hp ha ho h0 hs hb hr
 unfold fieldV
 unfold fieldV at Hl Hp Ha Ho
 refine (callsIn_wide (n := 3)).1 ?_
 refine callsIn_of_wp_marks Tryz.func39 rfl trivial ?_ rfl
 simp only [Tryz.ntmps39, List.size_toArray, List.length_cons, List.length_nil, Nat.reduceAdd, Nat.reduceSub, Array.replicate_succ, Array.replicate_zero, List.push_toArray, List.append_toArray, List.nil_append, List.cons_append]
 gi_wp2_with fail
 rw [show (((w.alloc (.cells #[.slice SA sn sc] 23)).alloc (.cells #[.string f.name, .int .i64 f.number, .int .i64 f.kind, .bool f.rep, .bool f.packed, .int .i64 f.of_] 48)).alloc (.cells #[.int .i64 d] 3)).alloc (.cells #[.int .u8 0] 27) = chkW SA sn sc f d w from rfl]
 generalize chkW SA sn sc f d w = wa at *
 have z4 := h.b4.cell 0
 have z7 := h.b7.cell 0
 have z50 : wa.cell? ⟨w.heap.size + 1, 0, none⟩ = some (.string f.name) := h.b5.cell 0
 have z51 : wa.cell? ⟨w.heap.size + 1, 1, none⟩ = some (.int .i64 f.number) := h.b5.cell 1
 have z52 : wa.cell? ⟨w.heap.size + 1, 2, none⟩ = some (.int .i64 f.kind) := h.b5.cell 2
 have z53 : wa.cell? ⟨w.heap.size + 1, 3, none⟩ = some (.bool f.rep) := h.b5.cell 3
 have z54 : wa.cell? ⟨w.heap.size + 1, 4, none⟩ = some (.bool f.packed) := h.b5.cell 4
 have z55 : wa.cell? ⟨w.heap.size + 1, 5, none⟩ = some (.int .i64 f.of_) := h.b5.cell 5
 have X := h.ext
 have H0 := Lib.hid h
 clear h
 gi_wp2_with (first
  | (refine ⟨trivial, ?_⟩; gi_at_call 58; refine (callsIn_wide.2 (Hl.out _ (HS.out.up X))).mono ?_; rintro e w1 ⟨rfl, E1⟩; have X1 := X.trans E1; replace z4 := E1.of_cell z4; replace z7 := E1.of_cell z7; replace z50 := E1.of_cell z50; replace z51 := E1.of_cell z51; replace z52 := E1.of_cell z52; replace z53 := E1.of_cell z53; replace z54 := E1.of_cell z54; replace z55 := E1.of_cell z55)
  | (refine ⟨trivial, ?_⟩; gi_at_call 60; refine (callsIn_wide.2 (Hp.out _)).mono ?_; rintro e w2 ⟨rfl, E2⟩; have X2 := X1.trans E2; replace z4 := E2.of_cell z4; replace z7 := E2.of_cell z7; replace z50 := E2.of_cell z50; replace z51 := E2.of_cell z51; replace z52 := E2.of_cell z52; replace z53 := E2.of_cell z53; replace z54 := E2.of_cell z54; replace z55 := E2.of_cell z55)
  | (refine ⟨trivial, ?_⟩; gi_at_call 85; refine (callsIn_wide.2 (Ha.out _ (HB.out.up X2))).mono ?_; rintro e w3 ⟨gf, lb, B0, vs, rfl, eg, hV, hit, hB1, hB2, E3⟩; have X3 := X2.trans E3; have EA := (E1.trans E2).trans E3; have EB := E1.trans E2))
 have hb8 := H0.out.b8.lt
 have hw2 := EB.size
 have hw3 := E3.size
 refine wp_range (w := w3) rfl eg hit (fun b h => by omega) hB2 (fun _ => rfl)
  (ChkI SA sn sc (S.map MsgV.d) f d w w2 w3 vs) (ChkX (firstL (oneL (S.map MsgV.d) f d) (itemsL f.rep bs)) w)
  (fun j x a₁ W => ChkI SA sn sc (S.map MsgV.d) f d w w2 w3 vs j W ∧ ∃ b12, BlkT W b12 145 #[.slice x.A x.n x.c, .int .u8 (x.e : Int)] ∧ w3.heap.size ≤ b12 ∧ a₁ = { tmps := #[.slice SA sn sc, .agg #[.string f.name, .int .i64 f.number, .int .i64 f.kind, .bool f.rep, .bool f.packed, .int .i64 f.of_], .slice B m k, .int .i64 d, .pointer (some ⟨w.heap.size, 0, none⟩), .pointer (some ⟨w.heap.size + 1, 0, none⟩), undef, .pointer (some ⟨w.heap.size + 1 + 1, 0, none⟩), .pointer (some ⟨w.heap.size + 1 + 1 + 1, 0, none⟩), .int .u8 0, undef, undef, .pointer (some ⟨b12, 0, none⟩), undef, .slice SA sn sc, .agg #[.string f.name, .int .i64 f.number, .int .i64 f.kind, .bool f.rep, .bool f.packed, .int .i64 f.of_], .int .i64 d, .int .u8 0, .int .u8 0, .bool false, undef, .agg #[.string f.name, .int .i64 f.number, .int .i64 f.kind, .bool f.rep, .bool f.packed, .int .i64 f.of_], .bool false, undef, undef, undef, undef, undef, undef, undef, undef, .agg #[.string f.name, .int .i64 f.number, .int .i64 f.kind, .bool f.rep, .bool f.packed, .int .i64 f.of_], .slice B m k, .func (.func gf) #[] lb, runV x, undef, undef, undef, undef, undef, undef, undef, undef, undef, undef, undef, undef, undef, undef], defers := [] })
  (fun j W h => h.size) ?hI ?hIB ?hIx ?hIxB ?hA ⟨H0.out.b4.up EA, H0.out.b5.up EA, H0.out.b7.up EA, H0.out.b8.up EA, E3, Nat.le_refl _, fun i v h => absurd h (Nat.not_lt_zero i)⟩ ?assign ?body ?done ?stop
 case hI =>
  intro j W W' b o h hb2 ho hc hO
  exact ⟨h.b4.besides ho hc hO, h.b5.besides ho hc hO, h.b7.besides ho hc hO, h.b8.besides ho hc hO, hO.toExt h.ext (by omega), Nat.le_trans h.size hO.size, h.fine⟩
 case hIB =>
  intro j W W' h hO
  exact ⟨h.b4.onlyB hO (by omega), h.b5.onlyB hO (by omega), h.b7.onlyB hO (by omega), h.b8.onlyB hO (by omega), hO.toExt h.ext (by omega), Nat.le_trans h.size hO.size, h.fine⟩
 case hIx =>
  intro cc W W' b o h hb2 ho hc hO
  exact ⟨h.ret, h.b8.besides ho hc hO, hO.toExt h.ext (by omega)⟩
 case hIxB =>
  intro cc W W' h hO
  exact ⟨h.ret, h.b8.onlyB hO (by omega), hO.toExt h.ext (by omega)⟩
 case hA =>
  rintro j x a₁ W W' b o ⟨h, b12, h12, hl, rfl⟩ hb2 ho hc hO
  exact ⟨⟨h.b4.besides ho hc hO, h.b5.besides ho hc hO, h.b7.besides ho hc hO, h.b8.besides ho hc hO, hO.toExt h.ext (by omega), Nat.le_trans h.size hO.size, h.fine⟩, b12, h12.besides ho hc hO, hl, rfl⟩
 case assign =>
  intro l j x W K h hx hK
  unfold runV
  gi_wp2
  refine hK _ _ ⟨?_, W.heap.size, BlkT.new W _ _ rfl, h.size, rfl⟩ (Ext.alloc (Ext.refl W) _)
  exact ⟨h.b4.alloc _, h.b5.alloc _, h.b7.alloc _, h.b8.alloc _, h.ext.alloc _, Nat.le_trans h.size (by simp), h.fine⟩
 case body =>
  rintro l j x a₁ W ⟨h, b12, h12, hl, rfl⟩ hx
  have y1 : W.cell? ⟨b12, 1, none⟩ = some (.int .u8 (x.e : Int)) := h12.cell 1
  have y0 : W.cell? ⟨b12, 0, none⟩ = some (.slice x.A x.n x.c) := h12.cell 0
  have yl := h12.lt
  have q8 := h.b8.cell 0
  have f8 := h.b8.free 0
  have l8 := h.b8.lt
  have hit2 := hV.item hx
  have hfx : ∀ i y, i < j → (itemsL f.rep bs)[i]? = some y → y.2 = 0 ∧ oneL (S.map MsgV.d) f d y.1 = 0 := fun i y hi hy => by
   obtain ⟨z, hz, rfl⟩ := hV.back hy
   exact h.fine i z hi hz
  obtain ⟨hf1, hf2⟩ := firstL_at (g := oneL (S.map MsgV.d) f d) hit2 hfx
  simp only at hf1 hf2
  by_cases he : x.e = 0
  · have hf2 := hf2 he
    have q : ((x.e : Int) != 0) = false := by rw [he]; rfl
    have hev := hV.each x (List.mem_of_getElem? hx)
    have hbx := hev.1.up h.ext
    have hn2 : x.n ≤ 1000000000 := by omega
    have z4' := h.b4.cell 0
    have z7' := h.b7.cell 0
    have z50' : W.cell? ⟨w.heap.size + 1, 0, none⟩ = some (.string f.name) := h.b5.cell 0
    have z51' : W.cell? ⟨w.heap.size + 1, 1, none⟩ = some (.int .i64 f.number) := h.b5.cell 1
    have z52' : W.cell? ⟨w.heap.size + 1, 2, none⟩ = some (.int .i64 f.kind) := h.b5.cell 2
    have z53' : W.cell? ⟨w.heap.size + 1, 3, none⟩ = some (.bool f.rep) := h.b5.cell 3
    have z54' : W.cell? ⟨w.heap.size + 1, 4, none⟩ = some (.bool f.packed) := h.b5.cell 4
    have z55' : W.cell? ⟨w.heap.size + 1, 5, none⟩ = some (.int .i64 f.of_) := h.b5.cell 5
    have hW := X2.trans h.ext
    have hcall := Ho.out W x (HS.out.up hW) hbx hn2
    have hoL : oneL (S.map MsgV.d) f d x.bs = 0 ∨ oneL (S.map MsgV.d) f d x.bs ≠ 0 := by omega
    have H := Lib.hid h
    have Hx := Lib.hid hx
    have He := Lib.hid he
    have Hf2 := Lib.hid hf2
    have hWs := h.size
    rcases hoL with ho | ho
    · rw [ho] at hcall
      have Ho2 := Lib.hid ho
      have Hcall := Lib.hid hcall
      clear hcall ho h he hx hf1 hf2 hit2 hfx h12 hev hbx Hf2
      gi_wp2_with (first | (refine ⟨trivial, ?_⟩; gi_at_call 88; refine (CallsIn.inRound l (callsIn_wide.2 Hcall.out)).mono ?_; rintro e w5 ⟨rfl, E5⟩))
      have h := H.out
      refine ⟨keeps_ext E5, fun b hb => E5.block b (by omega), h.b4.up E5, h.b5.up E5, h.b7.up E5, h.b8.up E5, h.ext.trans E5, Nat.le_trans h.size E5.size, fun i v hi hv => ?_⟩
      by_cases e : i = j
      · subst e
        have := Hx.out.symm.trans hv
        cases this
        exact ⟨He.out, Ho2.out⟩
      · exact h.fine i v (by omega) hv
    · have hC := hf2 ho
      have q2 : (((oneL (S.map MsgV.d) f d x.bs : Nat) : Int) != 0) = true := by rw [bne_iff_ne]; omega
      rw [hC]
      generalize oneL (S.map MsgV.d) f d x.bs = C at *
      have Hcall := Lib.hid hcall
      have B8 := Lib.hid h.b8
      have hWx := Lib.hid hW
      clear hcall ho h he hx hf1 hf2 hit2 hfx h12 hev hbx Hf2 hC H
      gi_wp2_with (first | (refine ⟨trivial, ?_⟩; gi_at_call 88; refine (CallsIn.inRound l (callsIn_wide.2 Hcall.out)).mono ?_; rintro e w5 ⟨rfl, E5⟩; have b80 := (B8.out.up E5).cell 0; have b81 := (B8.out.up E5).free 0; have b82 := (B8.out.up E5).lt))
      refine ⟨(keeps_ext E5).trans (KeepsOthers.setCell _ _ _), rfl, ?_, (hWx.out.trans E5).setCell (p := ⟨w.heap.size + 1 + 1 + 1, 0, none⟩) (by show w.heap.size ≤ w.heap.size + 1 + 1 + 1; omega) _⟩
      have := (B8.out.up E5).set_ 0 (.int .u8 (C : Int))
      simpa using this
  · have hC := hf1 he
    have q : ((x.e : Int) != 0) = true := by rw [bne_iff_ne]; omega
    rw [hC]
    have B8 := Lib.hid h.b8
    have hWx := Lib.hid (X2.trans h.ext)
    clear h he hx hf1 hf2 hit2 hfx h12 hC
    gi_wp2
    refine ⟨KeepsOthers.setCell _ _ _, rfl, ?_, hWx.out.setCell (p := ⟨w.heap.size + 1 + 1 + 1, 0, none⟩) (by show w.heap.size ≤ w.heap.size + 1 + 1 + 1; omega) _⟩
    have := B8.out.set_ 0 (.int .u8 (x.e : Int))
    simpa using this
 case done =>
  intro D W hD h hK
  have hfin : firstL (oneL (S.map MsgV.d) f d) (itemsL f.rep bs) = 0 := firstL_all (fun y hy => by
   obtain ⟨i, hi⟩ := List.getElem?_of_mem hy
   obtain ⟨z, hz, rfl⟩ := hV.back hi
   exact h.fine i z (List.getElem?_eq_some_iff.1 hz).1 hz)
  have Hfin := Lib.hid hfin
  have q8 := h.b8.cell 0
  have f8 := h.b8.free 0
  have l8 := h.b8.lt
  have H := Lib.hid h
  have HK := Lib.hid hK
  clear h hfin hK
  gi_wp2
  have h := H.out
  refine ⟨by simp, .inl ⟨_, _, rfl, run_takeDeferred (b := D) (ds := []) ?_, ?_⟩⟩
  · rw [Below.heap_setCell _ ⟨w.heap.size + 1 + 1 + 1, 0, none⟩ _ D (by show D ≠ w.heap.size + 1 + 1 + 1; omega)]
    exact HK.out
  · have R8 := ((h.b8.set_ 0 (.int .u8 0)).putObj (D := D) (by omega) (.deferred none)).cell 0
    have E : Ext w ((W.setCell ⟨w.heap.size + 1 + 1 + 1, 0, none⟩ (.int .u8 0)).putObj D (.deferred none)) := (only_putObj _ _ _).toExt ((X2.trans h.ext).setCell (p := ⟨w.heap.size + 1 + 1 + 1, 0, none⟩) (by show w.heap.size ≤ w.heap.size + 1 + 1 + 1; omega) _) (by have := X2.size; omega)
    simp at R8
    exact ⟨.int .u8 0, by simp [results, Tryz.results39, go_sem, R8], by rw [Hfin.out]; rfl, E⟩
 case stop =>
  intro D cc W hD h hK
  obtain rfl := h.ret
  obtain ⟨C, hC⟩ : ∃ C, C = firstL (oneL (S.map MsgV.d) f d) (itemsL f.rep bs) := ⟨_, rfl⟩
  rw [← hC] at h
  have HC := Lib.hid hC
  clear hC
  have H := Lib.hid h
  have HK := Lib.hid hK
  clear h hK
  gi_wp2
  have h := H.out
  refine ⟨by simp, .inl ⟨_, _, rfl, run_takeDeferred HK.out, ?_⟩⟩
  have R8 := (h.b8.putObj (D := D) (by omega) (.deferred none)).cell 0
  have E : Ext w (W.putObj D (.deferred none)) := (only_putObj _ _ _).toExt h.ext (by have := X2.size; omega)
  simp at R8
  exact ⟨.int .u8 (C : Nat), by simp [results, Tryz.results39, go_sem, R8], by rw [← HC.out], E⟩

theorem lCheck {SA B : Option Addr} {sn sc m k : Nat} {S : List MsgV} {f : FieldD} {d : Int} {bs : List UInt8} {w : World} (hs : SchemaAt w SA sn sc S) (hb : BytesAt w B m k bs) (hm : m ≤ 1000000000) :
  Calls Tryz.prog 39 #[.slice SA sn sc, fieldV f, .slice B m k, .int .i64 d] w fun e w' => e = .returned (.int .u8 (codeL (S.map MsgV.d) f bs d : Nat)) ∧ Ext w w' := by
 by_cases h0 : argsL (S.map MsgV.d) f d = 0
 · rcases hr : runL f with _ | _
   · rw [codeL_items h0 hr]
     exact lCheck_items hs hb hm h0 hr
   · rw [codeL_run h0 hr]
     exact lCheck_run hs hb hm h0 hr
 · rw [codeL_bad h0]
   exact lCheck_bad hs h0

end Go.Proofs.YtnnphodgegcddaaGreat

/- Contracts of layer 20: what a load means: texts, words. (Printed by gen_lvalue.py.) -/



namespace Go.Proofs.YtnnphodgegcddaaGreat
open Go.RowKit Go.Shelf
set_option linter.unusedVariables false
attribute [local go_sem] Oper.semAt_some

theorem row_appendedO {W w2 w4 : World} {base B k : Nat} {e : TypeId} {size n c : Nat} {A : Option Addr} {xs : List Value} {o : Obj} (row : W.ownsRow base e size (.slice A n c) n xs) (E2 : Ext W w2) (hbase : base ≤ W.heap.size) (hg : (w2.alloc o).grownBy w4 (Value.slice A n c).ownBlock) (hB : B < base) (v : Value) :
  KeepsOthers W (w4.setCell ⟨B, k, none⟩ v) ∧ (∀ b, b < base → b ≠ B → (w4.setCell ⟨B, k, none⟩ v).heap[b]? = W.heap[b]?) ∧ (∀ w0, Ext w0 W → w0.heap.size ≤ B → Ext w0 (w4.setCell ⟨B, k, none⟩ v)) ∧ W.heap.size ≤ (w4.setCell ⟨B, k, none⟩ v).heap.size := by
 have hk : KeepsOthers W w2 := ⟨E2.size, fun l o h _ => (E2.block l (Array.getElem?_eq_some_iff.1 h).1).trans h⟩
 have hk4 : KeepsOthers W w4 := (hk.trans (KeepsOthers.alloc w2 o)).trans (KeepsOthers.of_grownBy hg fun j o' ej hj => by
  obtain ⟨_, o2, h2, hc⟩ := row_block row ej
  have h3 := (Below.heap_alloc w2 o j (by have := (Array.getElem?_eq_some_iff.1 h2).1; have := E2.size; omega)).trans ((E2.block j (Array.getElem?_eq_some_iff.1 h2).1).trans h2)
  rw [h3] at hj
  cases hj
  exact hc)
 refine ⟨hk4.trans (KeepsOthers.setCell _ _ _), fun b hb hne => (Below.heap_setCell w4 ⟨B, k, none⟩ v b hne).trans (row_beside row E2 hbase hg hb), fun w0 h0 hw => ?_, (hk4.trans (KeepsOthers.setCell _ _ _)).size⟩
 refine Ext.setCell (p := ⟨B, k, none⟩) (Below.grown ((h0.trans E2).alloc o) hg (((h0.trans E2).alloc o).size) (fun k hk => ?_)) hw v
 have := (row_block row hk).1
 omega


def valW (SA : Option Addr) (sn sc : Nat) (f : FieldD) (d : Int) (w : World) : World :=
 (((w.alloc (.cells #[.slice SA sn sc] 23)).alloc (.cells #[.string f.name, .int .i64 f.number, .int .i64 f.kind, .bool f.rep, .bool f.packed, .int .i64 f.of_] 48)).alloc (.cells #[.int .i64 d] 3)).alloc (.cells #[.int .i64 0, .slice none 0 0, .slice none 0 0, .slice none 0 0] 52)

structure ValB (SA : Option Addr) (sn sc : Nat) (f : FieldD) (d : Int) (w W : World) : Prop where
 b4 : BlkT W w.heap.size 23 #[.slice SA sn sc]
 b5 : BlkT W (w.heap.size + 1) 48 #[.string f.name, .int .i64 f.number, .int .i64 f.kind, .bool f.rep, .bool f.packed, .int .i64 f.of_]
 b7 : BlkT W (w.heap.size + 1 + 1) 3 #[.int .i64 d]
 b8 : BlkT W (w.heap.size + 1 + 1 + 1) 52 #[.int .i64 0, .slice none 0 0, .slice none 0 0, .slice none 0 0]

theorem valW_at (SA : Option Addr) (sn sc : Nat) (f : FieldD) (d : Int) (w : World) : ValB SA sn sc f d w (valW SA sn sc f d w) ∧ Ext w (valW SA sn sc f d w) := by
 unfold valW
 exact ⟨⟨(((BlkT.new w _ _ rfl).alloc _).alloc _).alloc _, ((BlkT.new _ _ _ (by simp)).alloc _).alloc _, (BlkT.new _ _ _ (by simp)).alloc _, BlkT.new _ _ _ (by simp)⟩, (by repeat with_reducible (first | exact Ext.refl _ | refine Ext.alloc ?_ _ | refine Ext.drew ?_ | refine Ext.drewN ?_ _ | refine Ext.setCell ?_ (by first | omega | (simp <;> omega)) _))⟩

theorem ValB.up {SA : Option Addr} {sn sc : Nat} {f : FieldD} {d : Int} {w W W' : World} (h : ValB SA sn sc f d w W) (E : Ext W W') : ValB SA sn sc f d w W' := ⟨h.b4.up E, h.b5.up E, h.b7.up E, h.b8.up E⟩

theorem ValB.besides {SA : Option Addr} {sn sc : Nat} {f : FieldD} {d : Int} {w W W' : World} {b : Nat} {o : Obj} (h : ValB SA sn sc f d w W) (ho : W.heap[b]? = some o) (hc : o.isCells = false) (hO : Only b W W') : ValB SA sn sc f d w W' :=
 ⟨h.b4.besides ho hc hO, h.b5.besides ho hc hO, h.b7.besides ho hc hO, h.b8.besides ho hc hO⟩

theorem ValB.onlyB {SA : Option Addr} {sn sc : Nat} {f : FieldD} {d : Int} {w W W' : World} {B : Nat} (h : ValB SA sn sc f d w W) (hO : Only B W W') (hB : w.heap.size + 1 + 1 + 1 < B) : ValB SA sn sc f d w W' :=
 ⟨h.b4.onlyB hO (by omega), h.b5.onlyB hO (by omega), h.b7.onlyB hO (by omega), h.b8.onlyB hO (by omega)⟩

theorem ValB.same {SA : Option Addr} {sn sc : Nat} {f : FieldD} {d : Int} {w W W' : World} (h : ValB SA sn sc f d w W) (hs : ∀ b, b ≤ w.heap.size + 1 + 1 + 1 → W'.heap[b]? = W.heap[b]?) : ValB SA sn sc f d w W' :=
 ⟨(hs _ (by omega)).trans h.b4, (hs _ (by omega)).trans h.b5, (hs _ (by omega)).trans h.b7, (hs _ (by omega)).trans h.b8⟩

theorem reads_nil (w : World) (size : Nat) : Reads w none 0 0 size [] := (Own.nil (Ext.refl w) 0 size).reads

def ValTold (S : List MsgD) (y0 : ValT) (C : Nat) (w : World) (e : Ending) (w' : World) : Prop :=
 ∃ y : ValR, e = .returned (.tuple #[tvalV y, .int .u8 (C : Nat)]) ∧ bareV y = y0 ∧ ValAt w' y ∧ (∀ b, UsesV y b → w.heap.size ≤ b) ∧ Ext w w'

set_option maxRecDepth 100000 in
set_option maxHeartbeats 4000000 in
theorem lValue_bad {SA B : Option Addr} {sn sc m k : Nat} {S : List MsgV} {f : FieldD} {d : Int} {bs : List UInt8} {w : World} (hs : SchemaAt w SA sn sc S) (hb : BytesAt w B m k bs) (hm : m ≤ 1000000000) (h0 : codeL (S.map MsgV.d) f bs d ≠ 0) :
  Calls Tryz.prog 38 #[.slice SA sn sc, fieldV f, .slice B m k, .int .i64 d] w (ValTold (S.map MsgV.d) ⟨(), (), (), 0, [], [], []⟩ (codeL (S.map MsgV.d) f bs d) w) := by
 have hc := fun W (h : SchemaAt W SA sn sc S) (q : BytesAt W B m k bs) => lCheck (f := f) (d := d) h q hm
 have hN2 : (((codeL (S.map MsgV.d) f bs d : Nat) : Int) != 0) = true := by rw [bne_iff_ne]; omega
 obtain ⟨h, X⟩ := valW_at SA sn sc f d w
 have Hc := Lib.hid hc
 have HS := Lib.hid hs
 have HB := Lib.hid hb
 clear hc h0 hs hb
 generalize codeL (S.map MsgV.d) f bs d = C at *
 unfold fieldV
 unfold fieldV at Hc
 refine (callsIn_wide (n := 3)).1 ?_
 refine callsIn_of_wp_marks Tryz.func38 rfl trivial ?_ rfl
 simp only [Tryz.ntmps38, List.size_toArray, List.length_cons, List.length_nil, Nat.reduceAdd, Nat.reduceSub, Array.replicate_succ, Array.replicate_zero, List.push_toArray, List.append_toArray, List.nil_append, List.cons_append]
 gi_wp2_with fail
 rw [show (((w.alloc (.cells #[.slice SA sn sc] 23)).alloc (.cells #[.string f.name, .int .i64 f.number, .int .i64 f.kind, .bool f.rep, .bool f.packed, .int .i64 f.of_] 48)).alloc (.cells #[.int .i64 d] 3)).alloc (.cells #[.int .i64 0, .slice none 0 0, .slice none 0 0, .slice none 0 0] 52) = valW SA sn sc f d w from rfl]
 generalize valW SA sn sc f d w = wa at *
 have z4 := h.b4.cell 0
 have z7 := h.b7.cell 0
 have z50 : wa.cell? ⟨w.heap.size + 1, 0, none⟩ = some (.string f.name) := h.b5.cell 0
 have z51 : wa.cell? ⟨w.heap.size + 1, 1, none⟩ = some (.int .i64 f.number) := h.b5.cell 1
 have z52 : wa.cell? ⟨w.heap.size + 1, 2, none⟩ = some (.int .i64 f.kind) := h.b5.cell 2
 have z53 : wa.cell? ⟨w.heap.size + 1, 3, none⟩ = some (.bool f.rep) := h.b5.cell 3
 have z54 : wa.cell? ⟨w.heap.size + 1, 4, none⟩ = some (.bool f.packed) := h.b5.cell 4
 have z55 : wa.cell? ⟨w.heap.size + 1, 5, none⟩ = some (.int .i64 f.of_) := h.b5.cell 5
 have B8 := h.b8
 clear h
 gi_wp2_with (first | (refine ⟨trivial, ?_⟩; gi_at_call 39; refine (callsIn_wide.2 (Hc.out _ (HS.out.up X) (HB.out.up X))).mono ?_; rintro e w1 ⟨rfl, E1⟩; replace B8 := B8.up E1; have b80 := B8.cell 0; have b81 := B8.free 0; have b82 := B8.lt; have b8a := B8.cell 1; have b8b := B8.cell 2; have b8c := B8.cell 3; have b8d := B8.free 1; have b8e := B8.free 2; have b8f := B8.free 3; have X1 := X.trans E1))
 have BF : BlkT ((((w1.setCell ⟨w.heap.size + 1 + 1 + 1, 0, none⟩ (.int .i64 0)).setCell ⟨w.heap.size + 1 + 1 + 1, 1, none⟩ (.slice none 0 0)).setCell ⟨w.heap.size + 1 + 1 + 1, 2, none⟩ (.slice none 0 0)).setCell ⟨w.heap.size + 1 + 1 + 1, 3, none⟩ (.slice none 0 0)) (w.heap.size + 1 + 1 + 1) 52 #[.int .i64 0, .slice none 0 0, .slice none 0 0, .slice none 0 0] := by
  have := (((B8.set_ 0 (.int .i64 0)).set_ 1 (.slice none 0 0)).set_ 2 (.slice none 0 0)).set_ 3 (.slice none 0 0)
  simpa using this
 refine ⟨_, results_cell_row2 (ty := 52) rfl _ _ (w.heap.size + 1 + 1 + 1) _ _ (0, 0) _ rfl BF Tryz.underlying52 rfl (by kernel_rfl), ⟨(none, 0), (none, 0), (none, 0), 0, [], [], []⟩, rfl, rfl, ⟨⟨by simp, reads_nil _ _, (fun x h => by cases h), ⟨reads_nil _ _, fun t h => by cases h⟩, reads_nil _ _⟩, fun y h => by cases h⟩, ?_, ?_⟩
 · rintro b ((h | h | h) | ⟨y, hy, _⟩)
   · exact absurd h.1 (Nat.lt_irrefl 0)
   · exact absurd h.1 (Nat.lt_irrefl 0)
   · exact absurd h.1 (Nat.lt_irrefl 0)
   · cases hy
 · exact (by repeat with_reducible (first | exact X1 | exact Ext.refl _ | refine Ext.alloc ?_ _ | refine Ext.drew ?_ | refine Ext.drewN ?_ _ | refine Ext.setCell ?_ (by first | omega | (simp <;> omega)) _))

structure TxtI (SA : Option Addr) (sn sc : Nat) (f : FieldD) (d : Int) (w wa : World) (b11 : Nat) (vs : List RunV) (j : Nat) (W : World) : Prop where
 box : ValB SA sn sc f d w W
 out : ∃ A c, BlkT W b11 52 #[.int .i64 f.number, .slice none 0 0, .slice A j c, .slice none 0 0] ∧ W.ownsRow wa.heap.size 9 1 (.slice A j c) j ((vs.take j).map fun v => strV ⟨v.bs.toArray⟩)
 ext : Ext w W
 size : wa.heap.size ≤ W.heap.size

set_option maxRecDepth 100000 in
set_option maxHeartbeats 4000000 in
theorem lValue_texts {SA B : Option Addr} {sn sc m k : Nat} {S : List MsgV} {f : FieldD} {d : Int} {bs : List UInt8} {w : World} (hs : SchemaAt w SA sn sc S) (hb : BytesAt w B m k bs) (hm : m ≤ 1000000000) (h0 : codeL (S.map MsgV.d) f bs d = 0) (hr : runL f = false) (hk : numberB f.kind = false) (h17 : f.kind ≠ 17) (hnum : -9223372036854775808 ≤ f.number ∧ f.number < 9223372036854775808) :
  Calls Tryz.prog 38 #[.slice SA sn sc, fieldV f, .slice B m k, .int .i64 d] w (ValTold (S.map MsgV.d) ⟨(), (), (), f.number, [], (itemsL f.rep bs).map (fun x => (⟨x.1.toArray⟩ : ByteArray)), []⟩ 0 w) := by
 have hc := fun W (h : SchemaAt W SA sn sc S) (q : BytesAt W B m k bs) => lCheck (f := f) (d := d) h q hm
 rw [h0] at hc
 have hp := fun W => lPacked (f := f) (w := W)
 unfold runL at hr
 rw [hr] at hp
 have ha := fun W (E : Ext w W) => lAll (f := f) hb E hm
 have hn := fun W => kNumber f.kind W
 rw [hk] at hn
 obtain ⟨h, X⟩ := valW_at SA sn sc f d w
 have Hc := Lib.hid hc
 have Hp := Lib.hid hp
 have Ha := Lib.hid ha
 have Hn := Lib.hid hn
 have HS := Lib.hid hs
 have HB := Lib.hid hb
 have h17b : (f.kind == 17) = false := by rw [beq_eq_false_iff_ne]; exact h17
 clear h17
 have HK := Lib.hid hk
 clear hc hp ha hn h0 hs hb hr hk
 obtain ⟨y0, hy0⟩ : ∃ y0 : ValT, y0 = ⟨(), (), (), f.number, [], (itemsL f.rep bs).map (fun x => (⟨x.1.toArray⟩ : ByteArray)), []⟩ := ⟨_, rfl⟩
 rw [← hy0]
 have Hy0 := Lib.hid hy0
 clear hy0
 unfold fieldV
 unfold fieldV at Hc Hp Ha
 refine (callsIn_wide (n := 3)).1 ?_
 refine callsIn_of_wp_marks Tryz.func38 rfl trivial ?_ rfl
 simp only [Tryz.ntmps38, List.size_toArray, List.length_cons, List.length_nil, Nat.reduceAdd, Nat.reduceSub, Array.replicate_succ, Array.replicate_zero, List.push_toArray, List.append_toArray, List.nil_append, List.cons_append]
 gi_wp2_with fail
 rw [show (((w.alloc (.cells #[.slice SA sn sc] 23)).alloc (.cells #[.string f.name, .int .i64 f.number, .int .i64 f.kind, .bool f.rep, .bool f.packed, .int .i64 f.of_] 48)).alloc (.cells #[.int .i64 d] 3)).alloc (.cells #[.int .i64 0, .slice none 0 0, .slice none 0 0, .slice none 0 0] 52) = valW SA sn sc f d w from rfl]
 generalize valW SA sn sc f d w = wa at *
 have z4 := h.b4.cell 0
 have z7 := h.b7.cell 0
 have z50 : wa.cell? ⟨w.heap.size + 1, 0, none⟩ = some (.string f.name) := h.b5.cell 0
 have z51 : wa.cell? ⟨w.heap.size + 1, 1, none⟩ = some (.int .i64 f.number) := h.b5.cell 1
 have z52 : wa.cell? ⟨w.heap.size + 1, 2, none⟩ = some (.int .i64 f.kind) := h.b5.cell 2
 have z53 : wa.cell? ⟨w.heap.size + 1, 3, none⟩ = some (.bool f.rep) := h.b5.cell 3
 have z54 : wa.cell? ⟨w.heap.size + 1, 4, none⟩ = some (.bool f.packed) := h.b5.cell 4
 have z55 : wa.cell? ⟨w.heap.size + 1, 5, none⟩ = some (.int .i64 f.of_) := h.b5.cell 5
 have H0 := Lib.hid h
 have lb8 := h.b8.lt
 clear h
 gi_wp2_with (first
  | (refine ⟨trivial, ?_⟩; gi_at_call 39; refine (callsIn_wide.2 (Hc.out _ (HS.out.up X) (HB.out.up X))).mono ?_; rintro e w1 ⟨rfl, E1⟩; have X1 := X.trans E1; have lb1 := Nat.lt_of_lt_of_le lb8 E1.size; have lb1a : w.heap.size + 1 < w1.heap.size := (by omega); have lb1b : w.heap.size < w1.heap.size := (by omega); have lb1c : w.heap.size + 1 + 1 < w1.heap.size := (by omega); replace z4 := E1.of_cell z4; replace z7 := E1.of_cell z7; replace z50 := E1.of_cell z50; replace z51 := E1.of_cell z51; replace z52 := E1.of_cell z52; replace z53 := E1.of_cell z53; replace z54 := E1.of_cell z54; replace z55 := E1.of_cell z55)
  | (refine ⟨trivial, ?_⟩; gi_at_call 60; refine (callsIn_wide.2 (Hp.out _)).mono ?_; rintro e w2 ⟨rfl, E2⟩; have EX : Ext w1 w2 := Ext.trans (by repeat with_reducible (first | exact Ext.refl _ | refine Ext.alloc ?_ _ | refine Ext.drew ?_ | refine Ext.drewN ?_ _ | refine Ext.setCell ?_ (by first | omega | (simp <;> omega)) _)) E2; have BO := (BlkT.new w1 52 #[.int .i64 f.number, .slice none 0 0, .slice none 0 0, .slice none 0 0] rfl).up E2; have X2 := X1.trans EX; replace z4 := EX.of_cell z4; replace z7 := EX.of_cell z7; replace z50 := EX.of_cell z50; replace z51 := EX.of_cell z51; replace z52 := EX.of_cell z52; replace z53 := EX.of_cell z53; replace z54 := EX.of_cell z54; replace z55 := EX.of_cell z55)
  | (refine ⟨trivial, ?_⟩; gi_at_call 85; refine (callsIn_wide.2 (Ha.out _ X2)).mono ?_; rintro e w3 ⟨gf, lb, B0, vs, rfl, eg, hV, hit, hB1, hB2, E3⟩; have X3 := X2.trans E3; have EA := (E1.trans EX).trans E3))
 have hw1 := E1.size
 have hw2 := BO.lt
 have hw3 := E3.size
 have hx0 := X.size
 have hvl : vs.length ≤ m + 1 := by have := itemsL_len f.rep bs; rw [← hV.list, List.length_map, HB.out.length] at this; exact this
 refine wp_range (w := w3) rfl eg hit (fun b h => by omega) hB2 (fun _ => rfl)
  (TxtI SA sn sc f d w w3 w1.heap.size vs) (fun _ _ => False)
  (fun j x a₁ W => TxtI SA sn sc f d w w3 w1.heap.size vs j W ∧ ∃ b12, BlkT W b12 145 #[.slice x.A x.n x.c, .int .u8 (x.e : Int)] ∧ w3.heap.size ≤ b12 ∧ a₁ = { tmps := #[.slice SA sn sc, .agg #[.string f.name, .int .i64 f.number, .int .i64 f.kind, .bool f.rep, .bool f.packed, .int .i64 f.of_], .slice B m k, .int .i64 d, .pointer (some ⟨w.heap.size, 0, none⟩), .pointer (some ⟨w.heap.size + 1, 0, none⟩), undef, .pointer (some ⟨w.heap.size + 1 + 1, 0, none⟩), .pointer (some ⟨w.heap.size + 1 + 1 + 1, 0, none⟩), .int .u8 0, .int .u8 0, .pointer (some ⟨w1.heap.size, 0, none⟩), .pointer (some ⟨b12, 0, none⟩), undef, undef, undef, undef, .slice SA sn sc, .agg #[.string f.name, .int .i64 f.number, .int .i64 f.kind, .bool f.rep, .bool f.packed, .int .i64 f.of_], .slice B m k, .int .i64 d, .int .u8 0, .int .u8 0, .bool false, undef, undef, .pointer (some ⟨w.heap.size + 1, 1, none⟩), .int .i64 f.number, .agg #[.int .i64 f.number, .slice none 0 0, .slice none 0 0, .slice none 0 0], .agg #[.string f.name, .int .i64 f.number, .int .i64 f.kind, .bool f.rep, .bool f.packed, .int .i64 f.of_], .bool false, undef, undef, undef, undef, undef, undef, undef, undef, undef, .agg #[.string f.name, .int .i64 f.number, .int .i64 f.kind, .bool f.rep, .bool f.packed, .int .i64 f.of_], .slice B m k, .func (.func gf) #[] lb, runV x, undef, undef, undef, undef, undef, undef, undef, undef, undef, undef, undef, undef, undef, undef, undef, undef, undef, undef, undef, undef, undef, undef, undef, undef, undef, undef, undef, undef, undef, undef, undef, undef, undef, undef, undef, undef, undef, undef, undef, undef, undef, undef, undef, undef, undef, undef, undef], defers := [] })
  (fun j W h => h.size) ?hI ?hIB ?hIx ?hIxB ?hA ⟨H0.out.up EA, ⟨none, 0, BO.up E3, World.ownsRow_nil _ _ _ _⟩, X3, Nat.le_refl _⟩ ?assign ?body ?done ?stop
 case hI =>
  intro j W W' b o h hb2 ho hc hO
  obtain ⟨A2, c2, r2, row⟩ := h.out
  exact ⟨h.box.besides ho hc hO, ⟨A2, c2, r2.besides ho hc hO, row_besides row ho hc hO⟩, hO.toExt h.ext (by omega), Nat.le_trans h.size hO.size⟩
 case hIB =>
  intro j W W' h hO
  obtain ⟨A2, c2, r2, row⟩ := h.out
  exact ⟨h.box.onlyB hO (by omega), ⟨A2, c2, r2.onlyB hO (by omega), row_only row hO (by omega)⟩, hO.toExt h.ext (by omega), Nat.le_trans h.size hO.size⟩
 case hIx => exact fun _ _ _ _ _ h => h.elim
 case hIxB => exact fun _ _ _ h => h.elim
 case hA =>
  rintro j x a₁ W W' b o ⟨h, b12, h12, hl, rfl⟩ hb2 ho hc hO
  obtain ⟨A2, c2, r2, row⟩ := h.out
  exact ⟨⟨h.box.besides ho hc hO, ⟨A2, c2, r2.besides ho hc hO, row_besides row ho hc hO⟩, hO.toExt h.ext (by omega), Nat.le_trans h.size hO.size⟩, b12, h12.besides ho hc hO, hl, rfl⟩
 case assign =>
  intro l j x W K h hx hK
  unfold runV
  gi_wp2
  refine hK _ _ ⟨?_, W.heap.size, BlkT.new W _ _ rfl, h.size, rfl⟩ (Ext.alloc (Ext.refl W) _)
  obtain ⟨A2, c2, r2, row⟩ := h.out
  exact ⟨h.box.up ((Ext.refl W).alloc _), ⟨A2, c2, r2.alloc _, row.alloc _⟩, h.ext.alloc _, Nat.le_trans h.size (by simp)⟩
 case body =>
  rintro l j x a₁ W ⟨h, b12, h12, hl, rfl⟩ hx
  have y0 : W.cell? ⟨b12, 0, none⟩ = some (.slice x.A x.n x.c) := h12.cell 0
  have yl := h12.lt
  obtain ⟨A2, c2, r2, row⟩ := h.out
  have hbx : BytesAt W x.A x.n x.c x.bs := ((hV.each x (List.mem_of_getElem? hx)).1).up h.ext
  have z52' : W.cell? ⟨w.heap.size + 1, 2, none⟩ = some (.int .i64 f.kind) := h.box.b5.cell 2
  have l5 := h.box.b5.lt
  have H := Lib.hid h
  have Hx := Lib.hid hx
  have hj : j < vs.length := (List.getElem?_eq_some_iff.1 hx).1
  have R2 := Lib.hid r2
  have Row := Lib.hid row
  have hsz := h.size
  have l11 := r2.lt
  clear h h12 hx r2 row z4 z7 z50 z51 z52 z53 z54 z55 hit
  gi_wp2_with (first
   | (refine ⟨trivial, ?_⟩; gi_at_call 62; refine (CallsIn.inRound l (callsIn_wide.2 (Hn.out _))).mono ?_; rintro e w5 ⟨rfl, E5⟩; have c52 := E5.of_cell z52'; have yy0 := E5.of_cell y0; have q11 := R2.out.up E5; have c11 : w5.cell? ⟨w1.heap.size, 2, none⟩ = some (.slice A2 j c2) := q11.cell 2; have l11b := q11.lt; have Hbx := hbx.up E5; have hcv := Hbx.convert (P := Tryz.prog) 24 5 9 Tryz.underlying24 Tryz.underlying5 Tryz.underlying9)
   | (gi_at_builtin; apply wpListIn_rowOne elemStr rfl (.tmp 45) (.tmp 49) rfl rfl; (case row => exact row_up Row.out E5); (case hx => rfl); (case hb0 => first | rfl | simp); (case h1 => rfl); (case hb => omega); (case h63 => unfold maxLen; omega); (case hbase => have := E5.size; omega); intro A4 c4 w4 row4 g4; have z4 := (show BlkT w4 w1.heap.size 52 #[.int .i64 f.number, .slice none 0 0, .slice A2 j c2, .slice none 0 0] from (row_beside Row.out E5 hsz g4 (by omega)).trans R2.out); have y4 : w4.cell? ⟨w1.heap.size, 2, none⟩ = some (.slice A2 j c2) := z4.cell 2; have f4 := z4.free 2; have l4 := z4.lt; have Z4 := Lib.hid z4; have G4 := Lib.hid g4; have Row4 := Lib.hid row4; clear z4 g4 row4))
  have h := H.out
  obtain ⟨K1, K2, K3, K4⟩ := row_appendedO (k := 2) Row.out E5 hsz G4.out (show w1.heap.size < w3.heap.size by omega) (.slice A4 (j + 1) c4)
  refine ⟨K1, fun b hb3 => K2 b (by omega) (by omega), ?_⟩
  refine ⟨h.box.same (fun b hb => K2 b (by omega) (by omega)), ⟨A4, c4, ?_, ?_⟩, K3 w h.ext (by omega), Nat.le_trans hsz K4⟩
  · have := Z4.out.set_ 2 (.slice A4 (j + 1) c4)
    simpa using this
  · refine ownsRow_setCell_below ?_ (by show w1.heap.size < w3.heap.size; omega) _
    have e : (vs.take (j + 1)).map (fun v => strV ⟨v.bs.toArray⟩) = (vs.take j).map (fun v => strV ⟨v.bs.toArray⟩) ++ [strV ⟨x.bs.toArray⟩] := by
     rw [List.take_add_one, Hx.out]
     simp
    rw [e]
    simpa [strV, uv] using Row4.out
 case done =>
  intro D W hD h hK
  obtain ⟨A2, c2, r2, row⟩ := h.out
  have o0 : W.cell? ⟨w1.heap.size, 0, none⟩ = some (.int .i64 f.number) := r2.cell 0
  have o1 := r2.cell 1
  have o2 := r2.cell 2
  have o3 : W.cell? ⟨w1.heap.size, 3, none⟩ = some (.slice none 0 0) := r2.cell 3
  have ol := r2.lt
  have B8 := h.box.b8
  have v0 : W.cell? ⟨w.heap.size + 1 + 1 + 1, 0, none⟩ = some (.int .i64 0) := B8.cell 0
  have v1 : W.cell? ⟨w.heap.size + 1 + 1 + 1, 1, none⟩ = some (.slice none 0 0) := B8.cell 1
  have v2 : W.cell? ⟨w.heap.size + 1 + 1 + 1, 2, none⟩ = some (.slice none 0 0) := B8.cell 2
  have v3 : W.cell? ⟨w.heap.size + 1 + 1 + 1, 3, none⟩ = some (.slice none 0 0) := B8.cell 3
  have g0 := B8.free 0
  have g1 := B8.free 1
  have g2 := B8.free 2
  have g3 := B8.free 3
  have vl := B8.lt
  have H := Lib.hid h
  have HK2 := Lib.hid hK
  have Row := Lib.hid row
  have HB8 := Lib.hid B8
  clear h hK row r2 B8 z4 z7 z50 z51 z52 z53 z54 z55 hit
  simp only [List.getElem?_toArray, List.getElem?_cons_succ, List.getElem?_cons_zero] at o1 o2
  gi_wp2
  have h := H.out
  have BF : BlkT ((((W.setCell ⟨w.heap.size + 1 + 1 + 1, 0, none⟩ (.int .i64 f.number)).setCell ⟨w.heap.size + 1 + 1 + 1, 1, none⟩ (.slice none 0 0)).setCell ⟨w.heap.size + 1 + 1 + 1, 2, none⟩ (.slice A2 vs.length c2)).setCell ⟨w.heap.size + 1 + 1 + 1, 3, none⟩ (.slice none 0 0)) (w.heap.size + 1 + 1 + 1) 52 #[.int .i64 f.number, (.slice none 0 0), (.slice A2 vs.length c2), .slice none 0 0] := by
   have := (((HB8.out.set_ 0 (.int .i64 f.number)).set_ 1 ((.slice none 0 0))).set_ 2 ((.slice A2 vs.length c2))).set_ 3 (.slice none 0 0)
   simpa using this
  have BF2 := BF.putObj (D := D) (by omega) (.deferred none)
  have E : Ext w (((((W.setCell ⟨w.heap.size + 1 + 1 + 1, 0, none⟩ (.int .i64 f.number)).setCell ⟨w.heap.size + 1 + 1 + 1, 1, none⟩ (.slice none 0 0)).setCell ⟨w.heap.size + 1 + 1 + 1, 2, none⟩ (.slice A2 vs.length c2)).setCell ⟨w.heap.size + 1 + 1 + 1, 3, none⟩ (.slice none 0 0)).putObj D (.deferred none)) :=
   (only_putObj _ _ _).toExt ((((h.ext.setCell (p := ⟨w.heap.size + 1 + 1 + 1, 0, none⟩) (by show w.heap.size ≤ w.heap.size + 1 + 1 + 1; omega) _).setCell (p := ⟨w.heap.size + 1 + 1 + 1, 1, none⟩) (by show w.heap.size ≤ w.heap.size + 1 + 1 + 1; omega) _).setCell (p := ⟨w.heap.size + 1 + 1 + 1, 2, none⟩) (by show w.heap.size ≤ w.heap.size + 1 + 1 + 1; omega) _).setCell (p := ⟨w.heap.size + 1 + 1 + 1, 3, none⟩) (by show w.heap.size ≤ w.heap.size + 1 + 1 + 1; omega) _) (by omega)
  have row4 := ownsRow_setCell_below (ownsRow_setCell_below (ownsRow_setCell_below (ownsRow_setCell_below Row.out (a := ⟨w.heap.size + 1 + 1 + 1, 0, none⟩) (by show w.heap.size + 1 + 1 + 1 < w3.heap.size; omega) (.int .i64 f.number)) (a := ⟨w.heap.size + 1 + 1 + 1, 1, none⟩) (by show w.heap.size + 1 + 1 + 1 < w3.heap.size; omega) ((.slice none 0 0))) (a := ⟨w.heap.size + 1 + 1 + 1, 2, none⟩) (by show w.heap.size + 1 + 1 + 1 < w3.heap.size; omega) ((.slice A2 vs.length c2))) (a := ⟨w.heap.size + 1 + 1 + 1, 3, none⟩) (by show w.heap.size + 1 + 1 + 1 < w3.heap.size; omega) (.slice none 0 0)
  have hD4 : ((((W.setCell ⟨w.heap.size + 1 + 1 + 1, 0, none⟩ (.int .i64 f.number)).setCell ⟨w.heap.size + 1 + 1 + 1, 1, none⟩ (.slice none 0 0)).setCell ⟨w.heap.size + 1 + 1 + 1, 2, none⟩ (.slice A2 vs.length c2)).setCell ⟨w.heap.size + 1 + 1 + 1, 3, none⟩ (.slice none 0 0)).heap[D]? = some (.deferred (some [])) := by
   rw [Below.heap_setCell _ ⟨w.heap.size + 1 + 1 + 1, 3, none⟩ _ D (by show D ≠ w.heap.size + 1 + 1 + 1; omega), Below.heap_setCell _ ⟨w.heap.size + 1 + 1 + 1, 2, none⟩ _ D (by show D ≠ w.heap.size + 1 + 1 + 1; omega), Below.heap_setCell _ ⟨w.heap.size + 1 + 1 + 1, 1, none⟩ _ D (by show D ≠ w.heap.size + 1 + 1 + 1; omega), Below.heap_setCell _ ⟨w.heap.size + 1 + 1 + 1, 0, none⟩ _ D (by show D ≠ w.heap.size + 1 + 1 + 1; omega)]
   exact HK2.out
  have row5 := ownsRow_putObj row4 (.deferred none) (l := D) (o := .deferred (some [])) hD4 rfl
  rw [List.take_length] at row5
  have own5 : Own w _ 9 1 A2 vs.length c2 _ := ⟨ownsRow_more row5 (by omega), E⟩
  refine ⟨by simp, .inl ⟨_, _, rfl, run_takeDeferred (b := D) (ds := []) hD4, ?_⟩⟩
  refine ⟨_, results_cell_row2 (ty := 52) rfl _ _ (w.heap.size + 1 + 1 + 1) _ _ (0, 0) _ rfl BF2 Tryz.underlying52 rfl (by kernel_rfl), ⟨⟨(none, 0), (A2, c2), (none, 0), f.number, [], vs.map (fun v => (⟨v.bs.toArray⟩ : ByteArray)), []⟩, by simp [tvalV], ?_, ⟨⟨hnum, reads_nil _ _, (fun x h => by cases h), ⟨by simp only [List.length_map, List.map_map]; exact own5.reads, fun t ht => by
   obtain ⟨x, hx, rfl⟩ := List.mem_map.1 ht
   have h1 := hV.each x hx
   have h2 := h1.1.length
   show x.bs.toArray.size ≤ _
   unfold maxLen
   simp
   omega⟩, reads_nil _ _⟩, fun y h => by cases h⟩, ?_, E⟩⟩
  · rw [Hy0.out, ← hV.list, List.map_map]
    rfl
  · rintro b ((q | q | q) | ⟨y, hy, _⟩)
    · exact absurd q.1 (Nat.lt_irrefl 0)
    · exact own_new own5 b (by simpa using q)
    · exact absurd q.1 (Nat.lt_irrefl 0)
    · cases hy
 case stop => exact fun _ _ _ _ h _ => h.elim

structure WrdI (SA : Option Addr) (sn sc : Nat) (f : FieldD) (d : Int) (w wa : World) (b11 : Nat) (vs : List RunV) (j : Nat) (W : World) : Prop where
 box : ValB SA sn sc f d w W
 out : ∃ A c, BlkT W b11 52 #[.int .i64 f.number, .slice A j c, .slice none 0 0, .slice none 0 0] ∧ W.ownsRow wa.heap.size 112 1 (.slice A j c) j ((vs.take j).map fun v => uv (readS f.kind v.bs).1)
 ext : Ext w W
 size : wa.heap.size ≤ W.heap.size

set_option maxRecDepth 100000 in
set_option maxHeartbeats 4000000 in
theorem lValue_words {SA B : Option Addr} {sn sc m k : Nat} {S : List MsgV} {f : FieldD} {d : Int} {bs : List UInt8} {w : World} (hs : SchemaAt w SA sn sc S) (hb : BytesAt w B m k bs) (hm : m ≤ 1000000000) (h0 : codeL (S.map MsgV.d) f bs d = 0) (hr : runL f = false) (hk : numberB f.kind = true) (hnum : -9223372036854775808 ≤ f.number ∧ f.number < 9223372036854775808) :
  Calls Tryz.prog 38 #[.slice SA sn sc, fieldV f, .slice B m k, .int .i64 d] w (ValTold (S.map MsgV.d) ⟨(), (), (), f.number, (itemsL f.rep bs).map (fun x => (readS f.kind x.1).1), [], []⟩ 0 w) := by
 have hc := fun W (h : SchemaAt W SA sn sc S) (q : BytesAt W B m k bs) => lCheck (f := f) (d := d) h q hm
 rw [h0] at hc
 have hp := fun W => lPacked (f := f) (w := W)
 unfold runL at hr
 rw [hr] at hp
 have ha := fun W (E : Ext w W) => lAll (f := f) hb E hm
 have hn := fun W => kNumber f.kind W
 rw [hk] at hn
 obtain ⟨h, X⟩ := valW_at SA sn sc f d w
 have Hc := Lib.hid hc
 have Hp := Lib.hid hp
 have Ha := Lib.hid ha
 have Hn := Lib.hid hn
 have HS := Lib.hid hs
 have HB := Lib.hid hb
 have HK := Lib.hid hk
 clear hc hp ha hn h0 hs hb hr hk
 obtain ⟨y0, hy0⟩ : ∃ y0 : ValT, y0 = ⟨(), (), (), f.number, (itemsL f.rep bs).map (fun x => (readS f.kind x.1).1), [], []⟩ := ⟨_, rfl⟩
 rw [← hy0]
 have Hy0 := Lib.hid hy0
 clear hy0
 unfold fieldV
 unfold fieldV at Hc Hp Ha
 refine (callsIn_wide (n := 3)).1 ?_
 refine callsIn_of_wp_marks Tryz.func38 rfl trivial ?_ rfl
 simp only [Tryz.ntmps38, List.size_toArray, List.length_cons, List.length_nil, Nat.reduceAdd, Nat.reduceSub, Array.replicate_succ, Array.replicate_zero, List.push_toArray, List.append_toArray, List.nil_append, List.cons_append]
 gi_wp2_with fail
 rw [show (((w.alloc (.cells #[.slice SA sn sc] 23)).alloc (.cells #[.string f.name, .int .i64 f.number, .int .i64 f.kind, .bool f.rep, .bool f.packed, .int .i64 f.of_] 48)).alloc (.cells #[.int .i64 d] 3)).alloc (.cells #[.int .i64 0, .slice none 0 0, .slice none 0 0, .slice none 0 0] 52) = valW SA sn sc f d w from rfl]
 generalize valW SA sn sc f d w = wa at *
 have z4 := h.b4.cell 0
 have z7 := h.b7.cell 0
 have z50 : wa.cell? ⟨w.heap.size + 1, 0, none⟩ = some (.string f.name) := h.b5.cell 0
 have z51 : wa.cell? ⟨w.heap.size + 1, 1, none⟩ = some (.int .i64 f.number) := h.b5.cell 1
 have z52 : wa.cell? ⟨w.heap.size + 1, 2, none⟩ = some (.int .i64 f.kind) := h.b5.cell 2
 have z53 : wa.cell? ⟨w.heap.size + 1, 3, none⟩ = some (.bool f.rep) := h.b5.cell 3
 have z54 : wa.cell? ⟨w.heap.size + 1, 4, none⟩ = some (.bool f.packed) := h.b5.cell 4
 have z55 : wa.cell? ⟨w.heap.size + 1, 5, none⟩ = some (.int .i64 f.of_) := h.b5.cell 5
 have H0 := Lib.hid h
 have lb8 := h.b8.lt
 clear h
 gi_wp2_with (first
  | (refine ⟨trivial, ?_⟩; gi_at_call 39; refine (callsIn_wide.2 (Hc.out _ (HS.out.up X) (HB.out.up X))).mono ?_; rintro e w1 ⟨rfl, E1⟩; have X1 := X.trans E1; have lb1 := Nat.lt_of_lt_of_le lb8 E1.size; have lb1a : w.heap.size + 1 < w1.heap.size := (by omega); have lb1b : w.heap.size < w1.heap.size := (by omega); have lb1c : w.heap.size + 1 + 1 < w1.heap.size := (by omega); replace z4 := E1.of_cell z4; replace z7 := E1.of_cell z7; replace z50 := E1.of_cell z50; replace z51 := E1.of_cell z51; replace z52 := E1.of_cell z52; replace z53 := E1.of_cell z53; replace z54 := E1.of_cell z54; replace z55 := E1.of_cell z55)
  | (refine ⟨trivial, ?_⟩; gi_at_call 60; refine (callsIn_wide.2 (Hp.out _)).mono ?_; rintro e w2 ⟨rfl, E2⟩; have EX : Ext w1 w2 := Ext.trans (by repeat with_reducible (first | exact Ext.refl _ | refine Ext.alloc ?_ _ | refine Ext.drew ?_ | refine Ext.drewN ?_ _ | refine Ext.setCell ?_ (by first | omega | (simp <;> omega)) _)) E2; have BO := (BlkT.new w1 52 #[.int .i64 f.number, .slice none 0 0, .slice none 0 0, .slice none 0 0] rfl).up E2; have X2 := X1.trans EX; replace z4 := EX.of_cell z4; replace z7 := EX.of_cell z7; replace z50 := EX.of_cell z50; replace z51 := EX.of_cell z51; replace z52 := EX.of_cell z52; replace z53 := EX.of_cell z53; replace z54 := EX.of_cell z54; replace z55 := EX.of_cell z55)
  | (refine ⟨trivial, ?_⟩; gi_at_call 85; refine (callsIn_wide.2 (Ha.out _ X2)).mono ?_; rintro e w3 ⟨gf, lb, B0, vs, rfl, eg, hV, hit, hB1, hB2, E3⟩; have X3 := X2.trans E3; have EA := (E1.trans EX).trans E3))
 have hw1 := E1.size
 have hw2 := BO.lt
 have hw3 := E3.size
 have hx0 := X.size
 have hvl : vs.length ≤ m + 1 := by have := itemsL_len f.rep bs; rw [← hV.list, List.length_map, HB.out.length] at this; exact this
 refine wp_range (w := w3) rfl eg hit (fun b h => by omega) hB2 (fun _ => rfl)
  (WrdI SA sn sc f d w w3 w1.heap.size vs) (fun _ _ => False)
  (fun j x a₁ W => WrdI SA sn sc f d w w3 w1.heap.size vs j W ∧ ∃ b12, BlkT W b12 145 #[.slice x.A x.n x.c, .int .u8 (x.e : Int)] ∧ w3.heap.size ≤ b12 ∧ a₁ = { tmps := #[.slice SA sn sc, .agg #[.string f.name, .int .i64 f.number, .int .i64 f.kind, .bool f.rep, .bool f.packed, .int .i64 f.of_], .slice B m k, .int .i64 d, .pointer (some ⟨w.heap.size, 0, none⟩), .pointer (some ⟨w.heap.size + 1, 0, none⟩), undef, .pointer (some ⟨w.heap.size + 1 + 1, 0, none⟩), .pointer (some ⟨w.heap.size + 1 + 1 + 1, 0, none⟩), .int .u8 0, .int .u8 0, .pointer (some ⟨w1.heap.size, 0, none⟩), .pointer (some ⟨b12, 0, none⟩), undef, undef, undef, undef, .slice SA sn sc, .agg #[.string f.name, .int .i64 f.number, .int .i64 f.kind, .bool f.rep, .bool f.packed, .int .i64 f.of_], .slice B m k, .int .i64 d, .int .u8 0, .int .u8 0, .bool false, undef, undef, .pointer (some ⟨w.heap.size + 1, 1, none⟩), .int .i64 f.number, .agg #[.int .i64 f.number, .slice none 0 0, .slice none 0 0, .slice none 0 0], .agg #[.string f.name, .int .i64 f.number, .int .i64 f.kind, .bool f.rep, .bool f.packed, .int .i64 f.of_], .bool false, undef, undef, undef, undef, undef, undef, undef, undef, undef, .agg #[.string f.name, .int .i64 f.number, .int .i64 f.kind, .bool f.rep, .bool f.packed, .int .i64 f.of_], .slice B m k, .func (.func gf) #[] lb, runV x, undef, undef, undef, undef, undef, undef, undef, undef, undef, undef, undef, undef, undef, undef, undef, undef, undef, undef, undef, undef, undef, undef, undef, undef, undef, undef, undef, undef, undef, undef, undef, undef, undef, undef, undef, undef, undef, undef, undef, undef, undef, undef, undef, undef, undef, undef, undef], defers := [] })
  (fun j W h => h.size) ?hI ?hIB ?hIx ?hIxB ?hA ⟨H0.out.up EA, ⟨none, 0, BO.up E3, World.ownsRow_nil _ _ _ _⟩, X3, Nat.le_refl _⟩ ?assign ?body ?done ?stop
 case hI =>
  intro j W W' b o h hb2 ho hc hO
  obtain ⟨A2, c2, r2, row⟩ := h.out
  exact ⟨h.box.besides ho hc hO, ⟨A2, c2, r2.besides ho hc hO, row_besides row ho hc hO⟩, hO.toExt h.ext (by omega), Nat.le_trans h.size hO.size⟩
 case hIB =>
  intro j W W' h hO
  obtain ⟨A2, c2, r2, row⟩ := h.out
  exact ⟨h.box.onlyB hO (by omega), ⟨A2, c2, r2.onlyB hO (by omega), row_only row hO (by omega)⟩, hO.toExt h.ext (by omega), Nat.le_trans h.size hO.size⟩
 case hIx => exact fun _ _ _ _ _ h => h.elim
 case hIxB => exact fun _ _ _ h => h.elim
 case hA =>
  rintro j x a₁ W W' b o ⟨h, b12, h12, hl, rfl⟩ hb2 ho hc hO
  obtain ⟨A2, c2, r2, row⟩ := h.out
  exact ⟨⟨h.box.besides ho hc hO, ⟨A2, c2, r2.besides ho hc hO, row_besides row ho hc hO⟩, hO.toExt h.ext (by omega), Nat.le_trans h.size hO.size⟩, b12, h12.besides ho hc hO, hl, rfl⟩
 case assign =>
  intro l j x W K h hx hK
  unfold runV
  gi_wp2
  refine hK _ _ ⟨?_, W.heap.size, BlkT.new W _ _ rfl, h.size, rfl⟩ (Ext.alloc (Ext.refl W) _)
  obtain ⟨A2, c2, r2, row⟩ := h.out
  exact ⟨h.box.up ((Ext.refl W).alloc _), ⟨A2, c2, r2.alloc _, row.alloc _⟩, h.ext.alloc _, Nat.le_trans h.size (by simp)⟩
 case body =>
  rintro l j x a₁ W ⟨h, b12, h12, hl, rfl⟩ hx
  have y0 : W.cell? ⟨b12, 0, none⟩ = some (.slice x.A x.n x.c) := h12.cell 0
  have yl := h12.lt
  obtain ⟨A2, c2, r2, row⟩ := h.out
  have hbx : BytesAt W x.A x.n x.c x.bs := ((hV.each x (List.mem_of_getElem? hx)).1).up h.ext
  have z52' : W.cell? ⟨w.heap.size + 1, 2, none⟩ = some (.int .i64 f.kind) := h.box.b5.cell 2
  have l5 := h.box.b5.lt
  have H := Lib.hid h
  have Hx := Lib.hid hx
  have hj : j < vs.length := (List.getElem?_eq_some_iff.1 hx).1
  have R2 := Lib.hid r2
  have Row := Lib.hid row
  have hsz := h.size
  have l11 := r2.lt
  rcases hrs : readS f.kind x.bs with ⟨Wd, Cd⟩
  have Hrs := Lib.hid hrs
  clear hrs
  clear h h12 hx r2 row z4 z7 z50 z51 z52 z53 z54 z55 hit
  gi_wp2_with (first
   | (refine ⟨trivial, ?_⟩; gi_at_call 62; refine (CallsIn.inRound l (callsIn_wide.2 (Hn.out _))).mono ?_; rintro e w5 ⟨rfl, E5⟩; have c52 := E5.of_cell z52'; have yy0 := E5.of_cell y0; have q11 := R2.out.up E5; have c11 : w5.cell? ⟨w1.heap.size, 1, none⟩ = some (.slice A2 j c2) := q11.cell 1; have l11b := q11.lt; have Hbx := hbx.up E5)
   | (refine ⟨trivial, ?_⟩; gi_at_call 86; refine (CallsIn.inRound l (callsIn_wide.2 (sRead Hbx Hrs.out))).mono ?_; rintro e w6 ⟨rfl, E6⟩; have X6 := E5.trans E6; have q11b := R2.out.up X6; have c11b : w6.cell? ⟨w1.heap.size, 1, none⟩ = some (.slice A2 j c2) := q11b.cell 1; have l11c := q11b.lt)
   | (gi_at_builtin; apply wpListIn_rowOne elemU rfl (.tmp 65) (.tmp 67) rfl rfl; (case row => exact row_up Row.out X6); (case hx => rfl); (case hb0 => first | rfl | simp); (case h1 => rfl); (case hb => omega); (case h63 => unfold maxLen; omega); (case hbase => have := X6.size; omega); intro A4 c4 w4 row4 g4; have z4 := (show BlkT w4 w1.heap.size 52 #[.int .i64 f.number, .slice A2 j c2, .slice none 0 0, .slice none 0 0] from (row_beside Row.out X6 hsz g4 (by omega)).trans R2.out); have y4 : w4.cell? ⟨w1.heap.size, 1, none⟩ = some (.slice A2 j c2) := z4.cell 1; have f4 := z4.free 1; have l4 := z4.lt; have Z4 := Lib.hid z4; have G4 := Lib.hid g4; have Row4 := Lib.hid row4; clear z4 g4 row4))
  have h := H.out
  obtain ⟨K1, K2, K3, K4⟩ := row_appendedO (k := 1) Row.out X6 hsz G4.out (show w1.heap.size < w3.heap.size by omega) (.slice A4 (j + 1) c4)
  refine ⟨K1, fun b hb3 => K2 b (by omega) (by omega), ?_⟩
  refine ⟨h.box.same (fun b hb => K2 b (by omega) (by omega)), ⟨A4, c4, ?_, ?_⟩, K3 w h.ext (by omega), Nat.le_trans hsz K4⟩
  · have := Z4.out.set_ 1 (.slice A4 (j + 1) c4)
    simpa using this
  · refine ownsRow_setCell_below ?_ (by show w1.heap.size < w3.heap.size; omega) _
    have e : (vs.take (j + 1)).map (fun v => uv (readS f.kind v.bs).1) = (vs.take j).map (fun v => uv (readS f.kind v.bs).1) ++ [uv Wd] := by
     rw [List.take_add_one, Hx.out]
     simp [Hrs.out]
    rw [e]
    simpa [strV, uv] using Row4.out
 case done =>
  intro D W hD h hK
  obtain ⟨A2, c2, r2, row⟩ := h.out
  have o0 : W.cell? ⟨w1.heap.size, 0, none⟩ = some (.int .i64 f.number) := r2.cell 0
  have o1 := r2.cell 1
  have o2 := r2.cell 2
  have o3 : W.cell? ⟨w1.heap.size, 3, none⟩ = some (.slice none 0 0) := r2.cell 3
  have ol := r2.lt
  have B8 := h.box.b8
  have v0 : W.cell? ⟨w.heap.size + 1 + 1 + 1, 0, none⟩ = some (.int .i64 0) := B8.cell 0
  have v1 : W.cell? ⟨w.heap.size + 1 + 1 + 1, 1, none⟩ = some (.slice none 0 0) := B8.cell 1
  have v2 : W.cell? ⟨w.heap.size + 1 + 1 + 1, 2, none⟩ = some (.slice none 0 0) := B8.cell 2
  have v3 : W.cell? ⟨w.heap.size + 1 + 1 + 1, 3, none⟩ = some (.slice none 0 0) := B8.cell 3
  have g0 := B8.free 0
  have g1 := B8.free 1
  have g2 := B8.free 2
  have g3 := B8.free 3
  have vl := B8.lt
  have H := Lib.hid h
  have HK2 := Lib.hid hK
  have Row := Lib.hid row
  have HB8 := Lib.hid B8
  clear h hK row r2 B8 z4 z7 z50 z51 z52 z53 z54 z55 hit
  simp only [List.getElem?_toArray, List.getElem?_cons_succ, List.getElem?_cons_zero] at o1 o2
  gi_wp2
  have h := H.out
  have BF : BlkT ((((W.setCell ⟨w.heap.size + 1 + 1 + 1, 0, none⟩ (.int .i64 f.number)).setCell ⟨w.heap.size + 1 + 1 + 1, 1, none⟩ (.slice A2 vs.length c2)).setCell ⟨w.heap.size + 1 + 1 + 1, 2, none⟩ (.slice none 0 0)).setCell ⟨w.heap.size + 1 + 1 + 1, 3, none⟩ (.slice none 0 0)) (w.heap.size + 1 + 1 + 1) 52 #[.int .i64 f.number, (.slice A2 vs.length c2), (.slice none 0 0), .slice none 0 0] := by
   have := (((HB8.out.set_ 0 (.int .i64 f.number)).set_ 1 ((.slice A2 vs.length c2))).set_ 2 ((.slice none 0 0))).set_ 3 (.slice none 0 0)
   simpa using this
  have BF2 := BF.putObj (D := D) (by omega) (.deferred none)
  have E : Ext w (((((W.setCell ⟨w.heap.size + 1 + 1 + 1, 0, none⟩ (.int .i64 f.number)).setCell ⟨w.heap.size + 1 + 1 + 1, 1, none⟩ (.slice A2 vs.length c2)).setCell ⟨w.heap.size + 1 + 1 + 1, 2, none⟩ (.slice none 0 0)).setCell ⟨w.heap.size + 1 + 1 + 1, 3, none⟩ (.slice none 0 0)).putObj D (.deferred none)) :=
   (only_putObj _ _ _).toExt ((((h.ext.setCell (p := ⟨w.heap.size + 1 + 1 + 1, 0, none⟩) (by show w.heap.size ≤ w.heap.size + 1 + 1 + 1; omega) _).setCell (p := ⟨w.heap.size + 1 + 1 + 1, 1, none⟩) (by show w.heap.size ≤ w.heap.size + 1 + 1 + 1; omega) _).setCell (p := ⟨w.heap.size + 1 + 1 + 1, 2, none⟩) (by show w.heap.size ≤ w.heap.size + 1 + 1 + 1; omega) _).setCell (p := ⟨w.heap.size + 1 + 1 + 1, 3, none⟩) (by show w.heap.size ≤ w.heap.size + 1 + 1 + 1; omega) _) (by omega)
  have row4 := ownsRow_setCell_below (ownsRow_setCell_below (ownsRow_setCell_below (ownsRow_setCell_below Row.out (a := ⟨w.heap.size + 1 + 1 + 1, 0, none⟩) (by show w.heap.size + 1 + 1 + 1 < w3.heap.size; omega) (.int .i64 f.number)) (a := ⟨w.heap.size + 1 + 1 + 1, 1, none⟩) (by show w.heap.size + 1 + 1 + 1 < w3.heap.size; omega) ((.slice A2 vs.length c2))) (a := ⟨w.heap.size + 1 + 1 + 1, 2, none⟩) (by show w.heap.size + 1 + 1 + 1 < w3.heap.size; omega) ((.slice none 0 0))) (a := ⟨w.heap.size + 1 + 1 + 1, 3, none⟩) (by show w.heap.size + 1 + 1 + 1 < w3.heap.size; omega) (.slice none 0 0)
  have hD4 : ((((W.setCell ⟨w.heap.size + 1 + 1 + 1, 0, none⟩ (.int .i64 f.number)).setCell ⟨w.heap.size + 1 + 1 + 1, 1, none⟩ (.slice A2 vs.length c2)).setCell ⟨w.heap.size + 1 + 1 + 1, 2, none⟩ (.slice none 0 0)).setCell ⟨w.heap.size + 1 + 1 + 1, 3, none⟩ (.slice none 0 0)).heap[D]? = some (.deferred (some [])) := by
   rw [Below.heap_setCell _ ⟨w.heap.size + 1 + 1 + 1, 3, none⟩ _ D (by show D ≠ w.heap.size + 1 + 1 + 1; omega), Below.heap_setCell _ ⟨w.heap.size + 1 + 1 + 1, 2, none⟩ _ D (by show D ≠ w.heap.size + 1 + 1 + 1; omega), Below.heap_setCell _ ⟨w.heap.size + 1 + 1 + 1, 1, none⟩ _ D (by show D ≠ w.heap.size + 1 + 1 + 1; omega), Below.heap_setCell _ ⟨w.heap.size + 1 + 1 + 1, 0, none⟩ _ D (by show D ≠ w.heap.size + 1 + 1 + 1; omega)]
   exact HK2.out
  have row5 := ownsRow_putObj row4 (.deferred none) (l := D) (o := .deferred (some [])) hD4 rfl
  rw [List.take_length] at row5
  have own5 : Own w _ 112 1 A2 vs.length c2 _ := ⟨ownsRow_more row5 (by omega), E⟩
  refine ⟨by simp, .inl ⟨_, _, rfl, run_takeDeferred (b := D) (ds := []) hD4, ?_⟩⟩
  refine ⟨_, results_cell_row2 (ty := 52) rfl _ _ (w.heap.size + 1 + 1 + 1) _ _ (0, 0) _ rfl BF2 Tryz.underlying52 rfl (by kernel_rfl), ⟨⟨(A2, c2), (none, 0), (none, 0), f.number, vs.map (fun v => (readS f.kind v.bs).1), [], []⟩, by simp [tvalV], ?_, ⟨⟨hnum, (by simp only [List.length_map, List.map_map]; exact own5.reads), (fun x h => by
   obtain ⟨v, _, rfl⟩ := List.mem_map.1 h
   exact (readS_bd f.kind v.bs).1), ⟨reads_nil _ _, fun t h => by cases h⟩, reads_nil _ _⟩, fun y h => by cases h⟩, ?_, E⟩⟩
  · rw [Hy0.out, ← hV.list, List.map_map]
    rfl
  · rintro b ((q | q | q) | ⟨y, hy, _⟩)
    · exact own_new own5 b (by simpa using q)
    · exact absurd q.1 (Nat.lt_irrefl 0)
    · exact absurd q.1 (Nat.lt_irrefl 0)
    · cases hy
 case stop => exact fun _ _ _ _ h _ => h.elim

end Go.Proofs.YtnnphodgegcddaaGreat
