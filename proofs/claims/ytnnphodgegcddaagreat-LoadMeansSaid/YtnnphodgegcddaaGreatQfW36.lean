/- Contracts of layer 20: a load from texts or nested meanings. -/
import Derived.Test.YtnnphodgegcddaaGreatQfW34
import Derived.Test.YtnnphodgegcddaaGreatQfW21

namespace Go.Proofs.YtnnphodgegcddaaGreat
open Go.RowKit Go.Shelf
open Go.Lib (uvarint)
set_option linter.unusedVariables false

set_option maxRecDepth 100000 in
set_option maxHeartbeats 4000000 in
theorem lFrom_parts {A : Option Addr} {n c : Nat} {S : List MsgV} {f : FieldD} {v : ValR} {w : World} {se : MsgR → List UInt8} {P : List (List UInt8)} (hs : SchemaAt w A n c S) (hv : ValAt w v) (hF : FitV 1000000000000 1000000000 (bareV v)) (h0 : argsL (S.map MsgV.d) f 0 = 0) (h1 : FitP (S.map MsgV.d) f (bareV v)) (hk : numberB f.kind = false)
  (hP : P = (v.texts.map fun t => t.data.toList) ++ v.subs.map se)
  (hc : ∀ y ∈ v.subs, ∀ W, SchemaAt W A n c S → TreeAt W y → Calls Tryz.prog 64 #[.slice A n c, .int .i64 f.of_, treeV y] W fun e w' => ∃ A' n2 c2, e = .returned (.tuple #[.slice A' n2 c2, .int .u8 0]) ∧ Hid (n2 = (se y).length) ∧ Own W w' 5 1 A' n2 c2 ((se y).map bv))
  (hl : ∀ b ∈ P, b.length ≤ 1000000) (hl2 : ((P.map (partL f.rep)).flatten).length ≤ 1000000) (hl3 : P.length ≤ 1000000) :
  Calls Tryz.prog 21 #[.slice A n c, fieldV f, tvalV v] w fun e w' => ∃ A' n2 c2, e = .returned (.tuple #[.slice A' n2 c2, .int .u8 0]) ∧ Hid (n2 = ((P.map (partL f.rep)).flatten).length) ∧ BytesAt w' A' n2 c2 ((P.map (partL f.rep)).flatten) ∧ Ext w w' := by
 obtain ⟨R, hRR⟩ : ∃ R, R = (P.map (partL f.rep)).flatten := ⟨_, rfl⟩
 rw [← hRR]
 have HRR := Lib.hid hRR
 clear hRR
 have hR : rightS (S.map MsgV.d) = true := by
  rcases hR : rightS (S.map MsgV.d) with _ | _
  · rw [argsL_ill hR] at h0
    cases h0
  · rfl
 have hla := fun W (h : SchemaAt W A n c S) => lArgs (f := f) (d := 0) h
 have hf := fun W (h : SchemaAt W A n c S) (q : ValAt W v) => tFitsT (f := f) hR h q hF
 have hp := fun W => lPacked (f := f) (w := W)
 have hn := fun W => kNumber f.kind W
 rw [h0] at hla
 rw [hk, Bool.and_false] at hp
 rw [hk] at hn
 rw [eqB_yes h1] at hf
 have hb := hF.lens
 have hone : f.rep = false → P.length = 1 := fun hr => by
  obtain ⟨_, q, hh⟩ := h1
  have q := q hr
  rw [hP, List.length_append, List.length_map, List.length_map]
  unfold manyU at q
  have hw : (bareV v).words = [] := by
   rcases hh with ⟨a, _⟩ | ⟨_, _, _, b, _⟩ | ⟨_, b, _⟩
   · rw [hk] at a
     cases a
   · exact b
   · exact b
  rw [hw] at q
  have q' : 0 + v.texts.length + (v.subs.map bare).length = 1 := q
  rw [List.length_map] at q'
  omega
 have hPl : P.length = v.texts.length + v.subs.length := by rw [hP, List.length_append, List.length_map, List.length_map]
 have hcnt : v.texts.length + v.subs.length ≤ 1000000 := by rw [← hPl]; exact hl3
 have hPt : ∀ k t, v.texts[k]? = some t → P.take (k + 1) = P.take k ++ [t.data.toList] ∧ t.data.toList.length ≤ 1000000 := fun k t h => by
  have hm : P[k]? = some t.data.toList := by
   rw [hP, List.getElem?_append_left (by rw [List.length_map]; exact (List.getElem?_eq_some_iff.1 h).1), List.getElem?_map, h]
   rfl
  exact ⟨take_snoc _ _ _ hm, hl _ (List.mem_of_getElem? hm)⟩
 have hPs : ∀ k y, v.subs[k]? = some y → P.take (v.texts.length + (k + 1)) = P.take (v.texts.length + k) ++ [se y] ∧ (se y).length ≤ 1000000 := fun k y h => by
  have hm : P[v.texts.length + k]? = some (se y) := by
   rw [hP, List.getElem?_append_right (by rw [List.length_map]; omega), List.length_map, show v.texts.length + k - v.texts.length = k by omega, List.getElem?_map, h]
   rfl
  exact ⟨take_snoc _ _ _ hm, hl _ (List.mem_of_getElem? hm)⟩
 have tcap := hv.own.texts.at_.cap
 have scap := hv.own.subs.cap
 have tmax := hv.own.texts.at_.max
 have smax := hv.own.subs.max
 unfold maxLen at tmax smax
 have Hl := Lib.hid hla
 have Hf := Lib.hid hf
 have Hp := Lib.hid hp
 have Hn := Lib.hid hn
 have Hc := Lib.hid hc
 have Hone := Lib.hid hone
 have HPl := Lib.hid hPl
 have HPt := Lib.hid hPt
 have HPs := Lib.hid hPs
 have HLb := Lib.hid hl
 have HL2 := Lib.hid hl2
 clear hla hf hp hn h0 h1 hF hR hk hP hc hone hPl hPt hPs hl hl2
 unfold fieldV tvalV
 unfold fieldV tvalV at Hf
 unfold fieldV at Hl Hp
 have BF := (BlkT.new w 48 #[.string f.name, .int .i64 f.number, .int .i64 f.kind, .bool f.rep, .bool f.packed, .int .i64 f.of_] rfl).alloc (.cells #[.int .i64 v.number, .slice v.a.1 v.words.length v.a.2, .slice v.b.1 v.texts.length v.b.2, .slice v.c.1 v.subs.length v.c.2] 52)
 have BV := BlkT.new (w.alloc (.cells #[.string f.name, .int .i64 f.number, .int .i64 f.kind, .bool f.rep, .bool f.packed, .int .i64 f.of_] 48)) 52 #[.int .i64 v.number, .slice v.a.1 v.words.length v.a.2, .slice v.b.1 v.texts.length v.b.2, .slice v.c.1 v.subs.length v.c.2] (show w.heap.size + 1 = _ by simp)
 have X0 : Ext w ((w.alloc (.cells #[.string f.name, .int .i64 f.number, .int .i64 f.kind, .bool f.rep, .bool f.packed, .int .i64 f.of_] 48)).alloc (.cells #[.int .i64 v.number, .slice v.a.1 v.words.length v.a.2, .slice v.b.1 v.texts.length v.b.2, .slice v.c.1 v.subs.length v.c.2] 52)) := ((Ext.refl w).alloc _).alloc _
 go_enter Tryz.func21, Tryz.ntmps21
 go_wp2_with fail
 generalize (w.alloc (.cells #[.string f.name, .int .i64 f.number, .int .i64 f.kind, .bool f.rep, .bool f.packed, .int .i64 f.of_] 48)).alloc (.cells #[.int .i64 v.number, .slice v.a.1 v.words.length v.a.2, .slice v.b.1 v.texts.length v.b.2, .slice v.c.1 v.subs.length v.c.2] 52) = wx at *
 have z0 : wx.cell? ⟨w.heap.size, 0, none⟩ = some (.string f.name) := BF.cell 0
 have z1 : wx.cell? ⟨w.heap.size, 1, none⟩ = some (.int .i64 f.number) := BF.cell 1
 have z2 : wx.cell? ⟨w.heap.size, 2, none⟩ = some (.int .i64 f.kind) := BF.cell 2
 have z3 : wx.cell? ⟨w.heap.size, 3, none⟩ = some (.bool f.rep) := BF.cell 3
 have z4 : wx.cell? ⟨w.heap.size, 4, none⟩ = some (.bool f.packed) := BF.cell 4
 have z5 : wx.cell? ⟨w.heap.size, 5, none⟩ = some (.int .i64 f.of_) := BF.cell 5
 have y0 : wx.cell? ⟨w.heap.size + 1, 0, none⟩ = some (.int .i64 v.number) := BV.cell 0
 have y1 : wx.cell? ⟨w.heap.size + 1, 1, none⟩ = some (.slice v.a.1 v.words.length v.a.2) := BV.cell 1
 have y2 : wx.cell? ⟨w.heap.size + 1, 2, none⟩ = some (.slice v.b.1 v.texts.length v.b.2) := BV.cell 2
 have y3 : wx.cell? ⟨w.heap.size + 1, 3, none⟩ = some (.slice v.c.1 v.subs.length v.c.2) := BV.cell 3
 have lf := BF.lt
 have lv := BV.lt
 have hX := Ext.refl wx
 replace hs := hs.up X0
 replace hv := hv.up X0
 clear BF BV
 go_wp2_with (first
  | (go_at_call 58; refine (Hl.out _ hs).mono ?_; rintro e w1 ⟨rfl, E1⟩; have X_ : Ext wx w1 := Ext.trans (by repeat with_reducible (first | exact Ext.refl _ | refine Ext.alloc ?_ _ | refine Ext.drew ?_ | refine Ext.drewN ?_ _ | refine Ext.setCell ?_ (by first | omega | (simp <;> omega)) _)) E1; replace hX := hX.up X_; replace hs := hs.up X_; replace hv := hv.up X_; replace z0 := X_.of_cell z0; replace z1 := X_.of_cell z1; replace z2 := X_.of_cell z2; replace z3 := X_.of_cell z3; replace z4 := X_.of_cell z4; replace z5 := X_.of_cell z5; replace y0 := X_.of_cell y0; replace y1 := X_.of_cell y1; replace y2 := X_.of_cell y2; replace y3 := X_.of_cell y3; clear X_)
  | (go_at_call 59; refine (Hf.out _ hs hv).mono ?_; rintro e w2 ⟨rfl, E2⟩; have X_ : Ext w1 w2 := Ext.trans (by repeat with_reducible (first | exact Ext.refl _ | refine Ext.alloc ?_ _ | refine Ext.drew ?_ | refine Ext.drewN ?_ _ | refine Ext.setCell ?_ (by first | omega | (simp <;> omega)) _)) E2; replace hX := hX.up X_; replace hs := hs.up X_; replace hv := hv.up X_; replace z0 := X_.of_cell z0; replace z1 := X_.of_cell z1; replace z2 := X_.of_cell z2; replace z3 := X_.of_cell z3; replace z4 := X_.of_cell z4; replace z5 := X_.of_cell z5; replace y0 := X_.of_cell y0; replace y1 := X_.of_cell y1; replace y2 := X_.of_cell y2; replace y3 := X_.of_cell y3; clear X_)
  | (go_at_call 60; refine (Hp.out _).mono ?_; rintro e w3 ⟨rfl, E3⟩; have X_ : Ext w2 w3 := Ext.trans (by repeat with_reducible (first | exact Ext.refl _ | refine Ext.alloc ?_ _ | refine Ext.drew ?_ | refine Ext.drewN ?_ _ | refine Ext.setCell ?_ (by first | omega | (simp <;> omega)) _)) E3; replace hX := hX.up X_; replace hs := hs.up X_; replace hv := hv.up X_; replace z2 := X_.of_cell z2; replace z3 := X_.of_cell z3; replace z5 := X_.of_cell z5; replace y2 := X_.of_cell y2; replace y3 := X_.of_cell y3; clear X_)
  | (go_at_call 62; refine (Hn.out _).mono ?_; rintro e w4 ⟨rfl, E4⟩; have X_ : Ext w3 w4 := Ext.trans (by repeat with_reducible (first | exact Ext.refl _ | refine Ext.alloc ?_ _ | refine Ext.drew ?_ | refine Ext.drewN ?_ _ | refine Ext.setCell ?_ (by first | omega | (simp <;> omega)) _)) E4; replace hX := hX.up X_; replace hs := hs.up X_; replace hv := hv.up X_; replace z2 := X_.of_cell z2; replace z3 := X_.of_cell z3; replace z5 := X_.of_cell z5; replace y2 := X_.of_cell y2; replace y3 := X_.of_cell y3; clear X_))
 have hX0 := X0.trans hX
 clear z0 z1 z2 z4 y0 y1 hX X0
 go_loopw [10, 12, 75] (fun u _ i wr => ∃ (k : Nat) (A1 : Option Addr) (c1 : Nat) (rows : List BRow), k ≤ v.texts.length ∧ i = .int .i64 (k : Int) ∧ u = .slice A1 k c1 ∧ PartsB w4 wr A1 k c1 rows ∧ Hid (rows.map (·.bs) = P.take k)) (fun _ _ i _ => v.texts.length - (intOf i).toNat)
 case atStart => exact ⟨0, none, 0, [], Nat.zero_le _, rfl, rfl, PartsB.nil _, rfl⟩
 case round =>
  rename World => wr
  obtain ⟨k, A1, c1, rows, hkk, rfl, rfl, hp, hrows⟩ := hrel
  have Xr := hp.own.ext
  have y3r := Xr.of_cell y3
  by_cases hlt : k < v.texts.length
  · have hltI : (k : Int) < v.texts.length := by omega
    obtain ⟨b5, off5, t, hA, htk, hb5, ht, e0⟩ := (hv.own.texts.up Xr).text hlt
    obtain ⟨hs1, hs2⟩ := HPt.out k t htk
    obtain ⟨A7, c7, W7, run7, X7, hb7, hu7⟩ := conv_textN wr t ht
    generalize t.data.toList = T at *
    obtain ⟨L, hL⟩ : ∃ L, L = T.length := ⟨_, rfl⟩
    rw [← hL] at run7 hb7 hs2 hu7
    have Hs1 := Lib.hid hs1
    have HL := Lib.hid hL
    have Hb7 := Lib.hid hb7
    have Hp := Lib.hid hp
    clear hs1 hL hb7 hp htk
    rw [hA]
    go_wp2_with (at_builtin; refine wpList_moreW elemBB rfl (.tmp 79) (.tmp 82) rfl rfl ((Hp.out.own.up X7).alloc _) rfl (reads_one W7 (.slice A7 L c7) 24 rfl) (by simp [Value.oneCell']) (by omega) (by unfold maxLen; omega) ?_; intro A4 c4 w9 own4 g4 m4)
    go_roundw
    case rel =>
     refine ⟨k + 1, A4, c4, rows ++ [⟨A7, L, c7, T⟩], by omega, by go_num, rfl, Hp.out.more (r := ⟨A7, L, c7, T⟩) (X7.alloc _) (Hb7.out.up ((Ext.refl _).alloc _)) hu7 own4 g4 m4, ?_⟩
     show _ = _
     rw [List.map_append, hrows.out, Hs1.out]
     rfl
    case measure => simp [intOf]; omega
  · have hge : ¬ (k : Int) < v.texts.length := by omega
    obtain rfl : k = v.texts.length := by omega
    go_wp2
    go_loopw [10, 14, 15, 16, 88] (fun u _ _ _ i wr => ∃ (k : Nat) (A1 : Option Addr) (c1 : Nat) (rows : List BRow), k ≤ v.subs.length ∧ i = .int .i64 (k : Int) ∧ u = .slice A1 (v.texts.length + k) c1 ∧ PartsB w4 wr A1 (v.texts.length + k) c1 rows ∧ Hid (rows.map (·.bs) = P.take (v.texts.length + k))) (fun _ _ _ _ i _ => v.subs.length - (intOf i).toNat)
    case atStart => exact ⟨0, A1, c1, rows, Nat.zero_le _, rfl, rfl, hp, hrows⟩
    case round =>
     rename World => wq
     obtain ⟨j, A2, c2, rows2, hjj, rfl, rfl, hp2, hrows2⟩ := hrel
     have Xq := hp2.own.ext
     have z3q := Xq.of_cell z3
     have z5q := Xq.of_cell z5
     have lfq : w.heap.size < wq.heap.size := World.block_lt_of_cell? wq _ z5q
     by_cases hlt2 : j < v.subs.length
     · have hltI : (j : Int) < v.subs.length := by omega
       obtain ⟨b5, off5, y, hA, hyk, hb5, e0, e1⟩ := treeCells (hv.own.subs.ext Xq) hlt2
       have hym := List.mem_of_getElem? hyk
       have hcall := Hc.out y hym
       have hyT := hv.sub y hym
       obtain ⟨hs1, hs2⟩ := HPs.out j y hyk
       unfold treeV at hcall
       generalize se y = T at *
       obtain ⟨L, hL⟩ : ∃ L, L = T.length := ⟨_, rfl⟩
       rw [← hL] at hcall hs2
       have Hs1 := Lib.hid hs1
       have HL := Lib.hid hL
       have Hp := Lib.hid hp2
       have Hcall := Lib.hid hcall
       clear hs1 hL hp2 hyk hcall
       rw [hA]
       go_wp2_with (first
        | (go_at_call 64; refine (Hcall.out _ (hs.up (Xq.trans (by repeat with_reducible (first | exact Ext.refl _ | refine Ext.alloc ?_ _ | refine Ext.drew ?_ | refine Ext.drewN ?_ _ | refine Ext.setCell ?_ (by first | omega | (simp <;> omega)) _)))) (hyT.up (Xq.trans (by repeat with_reducible (first | exact Ext.refl _ | refine Ext.alloc ?_ _ | refine Ext.drew ?_ | refine Ext.drewN ?_ _ | refine Ext.setCell ?_ (by first | omega | (simp <;> omega)) _))))).mono ?_; rintro e w5 ⟨A5, n5, c5, rfl, hn5, own5⟩; have X5 : Ext wq w5 := Ext.trans (by repeat with_reducible (first | exact Ext.refl _ | refine Ext.alloc ?_ _ | refine Ext.drew ?_ | refine Ext.drewN ?_ _ | refine Ext.setCell ?_ (by first | omega | (simp <;> omega)) _)) own5.ext; have hu5 : ∀ b, UsesA A5 n5 b → wq.heap.size ≤ b := fun b hb => Nat.le_trans (show wq.heap.size ≤ _ from ((by repeat with_reducible (first | exact Ext.refl _ | refine Ext.alloc ?_ _ | refine Ext.drew ?_ | refine Ext.drewN ?_ _ | refine Ext.setCell ?_ (by first | omega | (simp <;> omega)) _)) : Ext wq _).size) (own_new own5 b hb))
        | (at_builtin; refine wpList_moreW elemBB rfl (.tmp 100) (.tmp 102) rfl rfl ((Hp.out.own.up X5).alloc _) rfl (reads_one w5 (.slice A5 n5 c5) 24 rfl) (by simp [Value.oneCell']) (by omega) (by unfold maxLen; omega) ?_; intro A4 c4 w9 own4 g4 m4))
       go_roundw
       case rel =>
        refine ⟨j + 1, A4, c4, rows2 ++ [⟨A5, n5, c5, T⟩], by omega, by go_num, rfl, Hp.out.more (r := ⟨A5, n5, c5, T⟩) (X5.alloc _) (own5.bytes.up ((Ext.refl _).alloc _)) hu5 own4 g4 m4, ?_⟩
        show _ = _
        rw [List.map_append, hrows2.out, Hs1.out]
        rfl
       case measure => simp [intOf]; omega
     · have hge2 : ¬ (j : Int) < v.subs.length := by omega
       obtain rfl : j = v.subs.length := by omega
       have hrP : rows2.map (·.bs) = P := by rw [hrows2.out, List.take_of_length_le (by have := HPl.out; omega)]
       have HrP := Lib.hid hrP
       have hB := hp2.rows
       have HB := Lib.hid hB
       have HXq := hX0.trans Xq
       clear hrP hp2 hB hv hs
       rcases (show f.rep = false ∨ f.rep = true by cases f.rep <;> simp) with hr | hr
       · rw [hr] at z3q
         have hP1 := Hone.out hr
         have hn1 : v.texts.length + v.subs.length = 1 := by have := HPl.out; omega
         obtain ⟨b, off, r, hA, hrr, hb8, hbr, cr⟩ := HB.out.row (k := 0) (by omega)
         rw [Nat.add_zero] at cr
         have hR : (P.map (partL f.rep)).flatten = r.bs := by
          have h1 : P[0]? = some r.bs := by rw [← HrP.out, List.getElem?_map, hrr]; rfl
          obtain ⟨x, hx⟩ := List.length_eq_one_iff.1 hP1
          rw [hx] at h1
          simp only [List.getElem?_cons_zero, Option.some.injEq] at h1
          rw [hx, h1, hr]
          simp [partL_no]
         have HR := Lib.hid hR
         have hi1 : (0 : Int) < (v.texts.length : Int) + v.subs.length := by omega
         have hi2 : 0 < v.texts.length + v.subs.length := by omega
         have Hbr := Lib.hid hbr
         rw [hA]
         clear hR hr hP1 hrr hbr hn1
         go_wp2
         go_ret2
         rw [HRR.out, HR.out]
         exact ⟨r.A, r.n, r.c, rfl, Lib.hid Hbr.out.length.symm, Hbr.out, HXq⟩
       · rw [hr] at z3q
         obtain ⟨G, hG⟩ : ∃ G, G = P.map (partL f.rep) := ⟨_, rfl⟩
         have hGl : G.length = v.texts.length + v.subs.length := by rw [hG, List.length_map]; exact HPl.out
         have hbd : ∀ k, (G.take k).flatten.length ≤ 1000000 := fun k => Nat.le_trans (flat_upto k) (by rw [hG]; exact HL2.out)
         have hGr : ∀ (k : Nat) (r : BRow), rows2[k]? = some r → (G.take (k + 1)).flatten = (G.take k).flatten ++ (uvarint r.bs.length ++ r.bs) ∧ r.bs.length ≤ 1000000 := fun k r h => by
          have hm : P[k]? = some r.bs := by rw [← HrP.out, List.getElem?_map, h]; rfl
          have hg : G[k]? = some (partL f.rep r.bs) := by rw [hG, List.getElem?_map, hm]; rfl
          rw [hr, partL_yes] at hg
          refine ⟨?_, HLb.out _ (List.mem_of_getElem? hm)⟩
          rw [take_snoc _ _ _ hg, List.flatten_append]
          simp
         have HG := Lib.hid hG
         have HGl := Lib.hid hGl
         have Hbd := Lib.hid hbd
         have HGr := Lib.hid hGr
         clear hG hGl hbd hGr hr
         go_wp2
         go_loopw [17, 19, 113] (fun u _ i wr => ∃ (k : Nat) (V : Option Addr) (vn vc : Nat), k ≤ v.texts.length + v.subs.length ∧ i = .int .i64 (k : Int) ∧ u = .slice V vn vc ∧ Hid (vn = (G.take k).flatten.length) ∧ BytesAt wr V vn vc (G.take k).flatten ∧ Ext wq wr) (fun _ _ i _ => v.texts.length + v.subs.length - (intOf i).toNat)
         case atStart => exact ⟨0, none, 0, 0, Nat.zero_le _, rfl, rfl, rfl, BytesAt.nil _, Ext.refl _⟩
         case round =>
          rename World => wz
          obtain ⟨k, V, vn, vc, hkk, rfl, rfl, hvn, hbz, Xz⟩ := hrel
          have hbk := Hbd.out k
          rw [← hvn.out] at hbk
          by_cases hlt3 : k < v.texts.length + v.subs.length
          · have hltI : (k : Int) < (v.texts.length : Int) + v.subs.length := by omega
            obtain ⟨b, off, r, hA, hrr, hb8, hbr, cr⟩ := (HB.out.up Xz).row hlt3
            obtain ⟨hs1, hs2⟩ := HGr.out k r hrr
            have hrl := hbr.length
            rw [hrl] at hs1 hs2
            have hp8 := fun W (h : BytesAt W V vn vc (G.take k).flatten) => vPut (x := (r.n : Int)) h (by omega) (by omega) (by omega)
            have hU := Go.Lib.uvarint_length64 (x := r.n) (by omega)
            rw [Int.toNat_natCast] at hp8
            have Hs1 := Lib.hid hs1
            have Hp8 := Lib.hid hp8
            have Hbr := Lib.hid hbr
            have Hbz := Lib.hid hbz
            have Hrl := Lib.hid hrl
            clear hs1 hp8 hbr hbz hrr hrl
            generalize uvarint r.n = U at *
            generalize hF : (G.take k).flatten = F at *
            have HF := Lib.hid hF
            clear hF
            rw [hA]
            go_wp2_with (first
             | (go_at_call 65; refine (Hp8.out _ Hbz.out).mono ?_; rintro e w8 ⟨A8, c8, rfl, own8⟩; have X8 : Ext wz w8 := own8.ext)
             | (at_builtin; refine wpList_more elemB rfl (.tmp 121) (.tmp 122) rfl rfl own8 rfl (Hbr.out.up X8) (bv_one _) (by omega) (by unfold maxLen; omega) ?_; intro A9 c9 w9 own9 g9))
            go_roundw
            case rel =>
             refine ⟨k + 1, A9, vn + U.length + r.n, c9, by omega, by go_num, rfl, ?_, ?_, Xz.trans own9.ext⟩
             · show _ = _
               rw [Hs1.out, List.length_append, List.length_append, ← hvn.out, Hrl.out]
               omega
             · rw [Hs1.out, ← List.append_assoc]
               have := own9.reads
               rw [← List.map_append] at this
               exact this
            case measure => simp [intOf]; omega
          · have hge3 : ¬ (k : Int) < (v.texts.length : Int) + v.subs.length := by omega
            have hkG : (G.take k).flatten = G.flatten := by rw [List.take_of_length_le (by have := HGl.out; omega)]
            rw [hkG] at hvn hbz
            have Hbz := Lib.hid hbz
            clear hkG hbz
            go_wp2
            go_ret2
            rw [HRR.out, ← HG.out]
            exact ⟨V, vn, vc, rfl, hvn, Hbz.out, HXq.trans Xz⟩

set_option maxRecDepth 100000 in
set_option maxHeartbeats 4000000 in
theorem lFrom_none {A : Option Addr} {n c : Nat} {S : List MsgV} {f : FieldD} {v : ValR} {w : World} (hs : SchemaAt w A n c S) (hv : ValAt w v) (hF : FitV 1000000000000 1000000000 (bareV v)) (h0 : argsL (S.map MsgV.d) f 0 = 0) (h1 : manyU (bareV v) = 0) (hr : f.rep = true) (hk : numberB f.kind = false) (h2 : ¬ FitP (S.map MsgV.d) f (bareV v)) :
  Calls Tryz.prog 21 #[.slice A n c, fieldV f, tvalV v] w fun e w' => e = .returned (.tuple #[.slice none 0 0, .int .u8 0]) ∧ Ext w w' := by
 have hR : rightS (S.map MsgV.d) = true := by
  rcases hR : rightS (S.map MsgV.d) with _ | _
  · rw [argsL_ill hR] at h0
    cases h0
  · rfl
 have hla := fun W (h : SchemaAt W A n c S) => lArgs (f := f) (d := 0) h
 have hf := fun W (h : SchemaAt W A n c S) (q : ValAt W v) => tFitsT (f := f) hR h q hF
 have hp := fun W => lPacked (f := f) (w := W)
 have hn := fun W => kNumber f.kind W
 rw [h0] at hla
 rw [hk, Bool.and_false] at hp
 rw [hk] at hn
 rw [eqB_no h2] at hf
 obtain ⟨hm, ht, hsb⟩ : v.words.length = 0 ∧ v.texts.length = 0 ∧ v.subs.length = 0 := by
  have q : v.words.length + v.texts.length + (v.subs.map bare).length = 0 := h1
  rw [List.length_map] at q
  omega
 have Hl := Lib.hid hla
 have Hf := Lib.hid hf
 have Hp := Lib.hid hp
 have Hn := Lib.hid hn
 clear hla hf hp hn h0 h1 h2 hF hR hk
 unfold fieldV tvalV
 unfold fieldV tvalV at Hf
 unfold fieldV at Hl Hp
 rw [hr] at Hl Hf Hp ⊢
 rw [hm, ht, hsb] at Hf ⊢
 clear hr hm ht hsb
 have BF := (BlkT.new w 48 #[.string f.name, .int .i64 f.number, .int .i64 f.kind, .bool true, .bool f.packed, .int .i64 f.of_] rfl).alloc (.cells #[.int .i64 v.number, .slice v.a.1 0 v.a.2, .slice v.b.1 0 v.b.2, .slice v.c.1 0 v.c.2] 52)
 have BV := BlkT.new (w.alloc (.cells #[.string f.name, .int .i64 f.number, .int .i64 f.kind, .bool true, .bool f.packed, .int .i64 f.of_] 48)) 52 #[.int .i64 v.number, .slice v.a.1 0 v.a.2, .slice v.b.1 0 v.b.2, .slice v.c.1 0 v.c.2] (show w.heap.size + 1 = _ by simp)
 have X0 : Ext w ((w.alloc (.cells #[.string f.name, .int .i64 f.number, .int .i64 f.kind, .bool true, .bool f.packed, .int .i64 f.of_] 48)).alloc (.cells #[.int .i64 v.number, .slice v.a.1 0 v.a.2, .slice v.b.1 0 v.b.2, .slice v.c.1 0 v.c.2] 52)) := ((Ext.refl w).alloc _).alloc _
 go_enter Tryz.func21, Tryz.ntmps21
 go_wp2_with fail
 generalize (w.alloc (.cells #[.string f.name, .int .i64 f.number, .int .i64 f.kind, .bool true, .bool f.packed, .int .i64 f.of_] 48)).alloc (.cells #[.int .i64 v.number, .slice v.a.1 0 v.a.2, .slice v.b.1 0 v.b.2, .slice v.c.1 0 v.c.2] 52) = wx at *
 have z0 : wx.cell? ⟨w.heap.size, 0, none⟩ = some (.string f.name) := BF.cell 0
 have z1 : wx.cell? ⟨w.heap.size, 1, none⟩ = some (.int .i64 f.number) := BF.cell 1
 have z2 : wx.cell? ⟨w.heap.size, 2, none⟩ = some (.int .i64 f.kind) := BF.cell 2
 have z3 : wx.cell? ⟨w.heap.size, 3, none⟩ = some (.bool true) := BF.cell 3
 have z4 : wx.cell? ⟨w.heap.size, 4, none⟩ = some (.bool f.packed) := BF.cell 4
 have z5 : wx.cell? ⟨w.heap.size, 5, none⟩ = some (.int .i64 f.of_) := BF.cell 5
 have y0 : wx.cell? ⟨w.heap.size + 1, 0, none⟩ = some (.int .i64 v.number) := BV.cell 0
 have y1 : wx.cell? ⟨w.heap.size + 1, 1, none⟩ = some (.slice v.a.1 0 v.a.2) := BV.cell 1
 have y2 : wx.cell? ⟨w.heap.size + 1, 2, none⟩ = some (.slice v.b.1 0 v.b.2) := BV.cell 2
 have y3 : wx.cell? ⟨w.heap.size + 1, 3, none⟩ = some (.slice v.c.1 0 v.c.2) := BV.cell 3
 have lf := BF.lt
 have lv := BV.lt
 have hX := Ext.refl wx
 replace hs := hs.up X0
 replace hv := hv.up X0
 clear BF BV
 go_wp2_with (first
  | (go_at_call 58; refine (Hl.out _ hs).mono ?_; rintro e w1 ⟨rfl, E1⟩; have X_ : Ext wx w1 := Ext.trans (by repeat with_reducible (first | exact Ext.refl _ | refine Ext.alloc ?_ _ | refine Ext.drew ?_ | refine Ext.drewN ?_ _ | refine Ext.setCell ?_ (by first | omega | (simp <;> omega)) _)) E1; replace hX := hX.up X_; replace hs := hs.up X_; replace hv := hv.up X_; replace z0 := X_.of_cell z0; replace z1 := X_.of_cell z1; replace z2 := X_.of_cell z2; replace z3 := X_.of_cell z3; replace z4 := X_.of_cell z4; replace z5 := X_.of_cell z5; replace y0 := X_.of_cell y0; replace y1 := X_.of_cell y1; replace y2 := X_.of_cell y2; replace y3 := X_.of_cell y3; clear X_)
  | (go_at_call 59; refine (Hf.out _ hs hv).mono ?_; rintro e w2 ⟨rfl, E2⟩; have X_ : Ext w1 w2 := Ext.trans (by repeat with_reducible (first | exact Ext.refl _ | refine Ext.alloc ?_ _ | refine Ext.drew ?_ | refine Ext.drewN ?_ _ | refine Ext.setCell ?_ (by first | omega | (simp <;> omega)) _)) E2; replace hX := hX.up X_; replace hs := hs.up X_; replace hv := hv.up X_; replace z0 := X_.of_cell z0; replace z1 := X_.of_cell z1; replace z2 := X_.of_cell z2; replace z3 := X_.of_cell z3; replace z4 := X_.of_cell z4; replace z5 := X_.of_cell z5; replace y0 := X_.of_cell y0; replace y1 := X_.of_cell y1; replace y2 := X_.of_cell y2; replace y3 := X_.of_cell y3; clear X_)
  | (go_at_call 60; refine (Hp.out _).mono ?_; rintro e w3 ⟨rfl, E3⟩; have X_ : Ext w2 w3 := Ext.trans (by repeat with_reducible (first | exact Ext.refl _ | refine Ext.alloc ?_ _ | refine Ext.drew ?_ | refine Ext.drewN ?_ _ | refine Ext.setCell ?_ (by first | omega | (simp <;> omega)) _)) E3; replace hX := hX.up X_; replace hs := hs.up X_; replace hv := hv.up X_; replace z2 := X_.of_cell z2; replace z3 := X_.of_cell z3; replace z5 := X_.of_cell z5; replace y2 := X_.of_cell y2; replace y3 := X_.of_cell y3; clear X_)
  | (go_at_call 62; refine (Hn.out _).mono ?_; rintro e w4 ⟨rfl, E4⟩; have X_ : Ext w3 w4 := Ext.trans (by repeat with_reducible (first | exact Ext.refl _ | refine Ext.alloc ?_ _ | refine Ext.drew ?_ | refine Ext.drewN ?_ _ | refine Ext.setCell ?_ (by first | omega | (simp <;> omega)) _)) E4; replace hX := hX.up X_; replace hs := hs.up X_; replace hv := hv.up X_; replace z2 := X_.of_cell z2; replace z3 := X_.of_cell z3; replace z5 := X_.of_cell z5; replace y2 := X_.of_cell y2; replace y3 := X_.of_cell y3; clear X_))
 have hX0 := X0.trans hX
 clear z0 z1 z2 z4 y0 y1 hX X0
 go_loopw [10, 12, 75] (fun u _ i wr => i = .int .i64 (0 : Int) ∧ u = .slice none 0 0 ∧ Ext w4 wr) (fun _ _ i _ => (intOf i).toNat)
 case atStart => exact ⟨rfl, rfl, Ext.refl _⟩
 case round =>
  rename World => wr
  obtain ⟨rfl, rfl, Xr⟩ := hrel
  have y3r := Xr.of_cell y3
  go_wp2
  go_loopw [10, 14, 15, 16, 88] (fun u _ _ _ i wq => i = .int .i64 (0 : Int) ∧ u = .slice none 0 0 ∧ Ext w4 wq) (fun _ _ _ _ i _ => (intOf i).toNat)
  case atStart => exact ⟨rfl, rfl, Xr⟩
  case round =>
   rename World => wq
   obtain ⟨rfl, rfl, Xq⟩ := hrel
   have z3q := Xq.of_cell z3
   go_wp2
   go_loopw [17, 19, 113] (fun u _ i wz => i = .int .i64 (0 : Int) ∧ u = .slice none 0 0 ∧ Ext w4 wz) (fun _ _ i _ => (intOf i).toNat)
   case atStart => exact ⟨rfl, rfl, Xq⟩
   case round =>
    rename World => wz
    obtain ⟨rfl, rfl, Xz⟩ := hrel
    go_wp2
    go_ret2
    exact ⟨rfl, hX0.trans Xz⟩

end Go.Proofs.YtnnphodgegcddaaGreat
