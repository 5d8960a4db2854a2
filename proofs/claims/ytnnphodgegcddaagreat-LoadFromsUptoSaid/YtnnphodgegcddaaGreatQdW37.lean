/- Contracts of layer 20: the reference's load of a value. -/
import Derived.Test.YtnnphodgegcddaaGreatQdS35
import Derived.Test.YtnnphodgegcddaaGreatQdM36
import Derived.Test.YtnnphodgegcddaaGreatQdW16
import Derived.Test.YtnnphodgegcddaaGreatQdW9
import Derived.Test.YtnnphodgegcddaaGreatQdW36

namespace Go.Proofs.YtnnphodgegcddaaGreat
open Go.RowKit Go.Shelf
open Go.Lib (uvarint)
set_option linter.unusedVariables false

theorem flat_to1 {G : List (List UInt8)} {k : Nat} {g : List UInt8} (h : G[k]? = some g) : (G.take (k + 1)).flatten = (G.take k).flatten ++ g := by
 rw [take_snoc _ _ _ h, List.flatten_append]
 simp

set_option maxRecDepth 100000 in
set_option maxHeartbeats 4000000 in
theorem rFrom_words {w : World} {SA : Option Addr} {sn sc : Nat} {f : FieldD} {v : ValR} (hv : ValAt w v) (hk : numberB f.kind = true) (hm : v.words.length ≤ 1000000000) :
  Calls Tryz.prog 27 #[.slice SA sn sc, fieldV f, tvalV v] w (MakesB (packW f.kind v.words) w) := by
 have hN := fun W => kNumberR f.kind W
 rw [hk] at hN
 have hu := fun W (h : WordsAt W v.a.1 v.words.length v.a.2 v.words) => uPackR (k := f.kind) h hv.own.small hm
 have Hu := Lib.hid hu
 have HN := Lib.hid hN
 have HV := Lib.hid hv
 clear hu hN hk hm hv
 generalize packW f.kind v.words = R at *
 unfold fieldV tvalV
 go_enter Tryz.func27, Tryz.ntmps27
 go_wp2_with fail
 have BF := (BlkT.new w 48 #[.string f.name, .int .i64 f.number, .int .i64 f.kind, .bool f.rep, .bool f.packed, .int .i64 f.of_] rfl).alloc (.cells #[.int .i64 v.number, .slice v.a.1 v.words.length v.a.2, .slice v.b.1 v.texts.length v.b.2, .slice v.c.1 v.subs.length v.c.2] 57)
 have BV := BlkT.new (w.alloc (.cells #[.string f.name, .int .i64 f.number, .int .i64 f.kind, .bool f.rep, .bool f.packed, .int .i64 f.of_] 48)) 57 #[.int .i64 v.number, .slice v.a.1 v.words.length v.a.2, .slice v.b.1 v.texts.length v.b.2, .slice v.c.1 v.subs.length v.c.2] (show w.heap.size + 1 = _ by simp)
 have X0 : Ext w ((w.alloc (.cells #[.string f.name, .int .i64 f.number, .int .i64 f.kind, .bool f.rep, .bool f.packed, .int .i64 f.of_] 48)).alloc (.cells #[.int .i64 v.number, .slice v.a.1 v.words.length v.a.2, .slice v.b.1 v.texts.length v.b.2, .slice v.c.1 v.subs.length v.c.2] 57)) := ((Ext.refl w).alloc _).alloc _
 generalize (w.alloc (.cells #[.string f.name, .int .i64 f.number, .int .i64 f.kind, .bool f.rep, .bool f.packed, .int .i64 f.of_] 48)).alloc (.cells #[.int .i64 v.number, .slice v.a.1 v.words.length v.a.2, .slice v.b.1 v.texts.length v.b.2, .slice v.c.1 v.subs.length v.c.2] 57) = wx at *
 have z2 : wx.cell? ⟨w.heap.size, 2, none⟩ = some (.int .i64 f.kind) := BF.cell 2
 have y1 : wx.cell? ⟨w.heap.size + 1, 1, none⟩ = some (.slice v.a.1 v.words.length v.a.2) := BV.cell 1
 clear BF BV
 go_wp2_with (first
  | (go_at_call 55; refine (HN.out _).mono ?_; rintro e w1 ⟨rfl, hw1⟩; subst hw1)
  | (go_at_call 71; refine (Hu.out _ (HV.out.own.words.ext X0)).mono ?_; rintro e w4 ⟨A4, c4, rfl, own4⟩))
 go_ret
 exact ⟨A4, _, c4, rfl, Lib.hid rfl, own4.since X0⟩

set_option maxRecDepth 100000 in
set_option maxHeartbeats 4000000 in
theorem rFrom_parts {w : World} {SA : Option Addr} {sn sc : Nat} {f : FieldD} {v : ValR} {se : MsgR → List UInt8} {P : List (List UInt8)} (hv : ValAt w v) (hk : numberB f.kind = false)
  (hP : P = (v.texts.map fun t => t.data.toList) ++ v.subs.map se)
  (hc : ∀ y ∈ v.subs, ∀ W : World, Ext w W → Calls Tryz.prog 37 #[.slice SA sn sc, .int .i64 f.of_, treeV y] W (MakesB (se y) W))
  (hl : ∀ b ∈ P, b.length ≤ 1000000) (hl2 : ((P.map (partL f.rep)).flatten).length ≤ 1000000) (hl3 : P.length ≤ 1000000) :
  Calls Tryz.prog 27 #[.slice SA sn sc, fieldV f, tvalV v] w (MakesB ((P.map (partL f.rep)).flatten) w) := by
 have hN := fun W => kNumberR f.kind W
 rw [hk] at hN
 obtain ⟨G, hG⟩ : ∃ G, G = P.map (partL f.rep) := ⟨_, rfl⟩
 rw [← hG] at hl2 ⊢
 have hGl : G.length = v.texts.length + v.subs.length := by rw [hG, List.length_map, hP, List.length_append, List.length_map, List.length_map]
 have hbd : ∀ k, (G.take k).flatten.length ≤ 1000000 := fun k => Nat.le_trans (flat_upto k) hl2
 have hGt : ∀ k t, v.texts[k]? = some t → (G.take (k + 1)).flatten = (G.take k).flatten ++ partL f.rep t.data.toList ∧ t.data.toList.length ≤ 1000000 := fun k t h => by
  have hm : P[k]? = some t.data.toList := by
   rw [hP, List.getElem?_append_left (by rw [List.length_map]; exact (List.getElem?_eq_some_iff.1 h).1), List.getElem?_map, h]
   rfl
  exact ⟨flat_to1 (by rw [hG, List.getElem?_map, hm]; rfl), hl _ (List.mem_of_getElem? hm)⟩
 have hGs : ∀ k y, v.subs[k]? = some y → (G.take (v.texts.length + k + 1)).flatten = (G.take (v.texts.length + k)).flatten ++ partL f.rep (se y) ∧ (se y).length ≤ 1000000 := fun k y h => by
  have hm : P[v.texts.length + k]? = some (se y) := by
   rw [hP, List.getElem?_append_right (by rw [List.length_map]; omega), List.length_map, show v.texts.length + k - v.texts.length = k by omega, List.getElem?_map, h]
   rfl
  exact ⟨flat_to1 (by rw [hG, List.getElem?_map, hm]; rfl), hl _ (List.mem_of_getElem? hm)⟩
 have hlt : v.texts.length + v.subs.length ≤ 1000000 := by rw [← hGl, hG, List.length_map]; exact hl3
 have HN := Lib.hid hN
 have Hc := Lib.hid hc
 have Hbd := Lib.hid hbd
 have HGt := Lib.hid hGt
 have HGs := Lib.hid hGs
 have HGl := Lib.hid hGl
 have Hv := Lib.hid hv
 clear hN hc hbd hGt hGs hGl hl hl2 hl3 hG hP hk hv
 unfold fieldV tvalV
 go_enter Tryz.func27, Tryz.ntmps27
 go_wp2_with fail
 have BF := (BlkT.new w 48 #[.string f.name, .int .i64 f.number, .int .i64 f.kind, .bool f.rep, .bool f.packed, .int .i64 f.of_] rfl).alloc (.cells #[.int .i64 v.number, .slice v.a.1 v.words.length v.a.2, .slice v.b.1 v.texts.length v.b.2, .slice v.c.1 v.subs.length v.c.2] 57)
 have BV := BlkT.new (w.alloc (.cells #[.string f.name, .int .i64 f.number, .int .i64 f.kind, .bool f.rep, .bool f.packed, .int .i64 f.of_] 48)) 57 #[.int .i64 v.number, .slice v.a.1 v.words.length v.a.2, .slice v.b.1 v.texts.length v.b.2, .slice v.c.1 v.subs.length v.c.2] (show w.heap.size + 1 = _ by simp)
 have X0 : Ext w ((w.alloc (.cells #[.string f.name, .int .i64 f.number, .int .i64 f.kind, .bool f.rep, .bool f.packed, .int .i64 f.of_] 48)).alloc (.cells #[.int .i64 v.number, .slice v.a.1 v.words.length v.a.2, .slice v.b.1 v.texts.length v.b.2, .slice v.c.1 v.subs.length v.c.2] 57)) := ((Ext.refl w).alloc _).alloc _
 generalize (w.alloc (.cells #[.string f.name, .int .i64 f.number, .int .i64 f.kind, .bool f.rep, .bool f.packed, .int .i64 f.of_] 48)).alloc (.cells #[.int .i64 v.number, .slice v.a.1 v.words.length v.a.2, .slice v.b.1 v.texts.length v.b.2, .slice v.c.1 v.subs.length v.c.2] 57) = wx at *
 have z2 : wx.cell? ⟨w.heap.size, 2, none⟩ = some (.int .i64 f.kind) := BF.cell 2
 have z3 : wx.cell? ⟨w.heap.size, 3, none⟩ = some (.bool f.rep) := BF.cell 3
 have z5 : wx.cell? ⟨w.heap.size, 5, none⟩ = some (.int .i64 f.of_) := BF.cell 5
 have y2 : wx.cell? ⟨w.heap.size + 1, 2, none⟩ = some (.slice v.b.1 v.texts.length v.b.2) := BV.cell 2
 have y3 : wx.cell? ⟨w.heap.size + 1, 3, none⟩ = some (.slice v.c.1 v.subs.length v.c.2) := BV.cell 3
 have lf := BF.lt
 have lv := BV.lt
 clear BF BV
 go_wp2_with (go_at_call 55; refine (HN.out _).mono ?_; rintro e w1 ⟨rfl, hw1⟩; subst hw1)
 go_loopw [7, 8, 9] (fun u i _ wr => ∃ (k : Nat) (V : Option Addr) (vn vc : Nat), k ≤ v.texts.length + v.subs.length ∧ i = .int .i64 (k : Int) ∧ u = .slice V vn vc ∧ Hid (vn = (G.take k).flatten.length) ∧ Own wx wr 5 1 V vn vc ((G.take k).flatten.map bv)) (fun _ i _ _ => v.texts.length + v.subs.length - (intOf i).toNat)
 case atStart => exact ⟨0, none, 0, 0, Nat.zero_le _, rfl, rfl, rfl, Own.nil (Ext.refl _) _ _⟩
 case round =>
  rename World => wr
  obtain ⟨k, V, vn, vc, hkk, rfl, rfl, hvn, ownr⟩ := hrel
  have Xr := ownr.ext
  have z3r := Xr.of_cell z3
  have z5r := Xr.of_cell z5
  have y2r := Xr.of_cell y2
  have y3r := Xr.of_cell y3
  have hbk := Hbd.out k
  rw [← hvn.out] at hbk
  by_cases hin : k < v.texts.length + v.subs.length
  · have hinI : (k : Int) < v.texts.length + v.subs.length := by omega
    by_cases hlt : k < v.texts.length
    · have hltI : (k : Int) < v.texts.length := by omega
      obtain ⟨b5, off5, t, hA, htk, hb5, ht, e0⟩ := (Hv.out.own.texts.up X0).text hlt
      have e0r := Xr.of_cell e0
      rw [hA] at y2r
      obtain ⟨hs1, hs2⟩ := HGt.out k t htk
      obtain ⟨A7, c7, W7, run7, X7, hb7, hu7⟩ := conv_textN wr t ht
      have z3s := X7.of_cell z3r
      generalize t.data.toList = T at *
      obtain ⟨L, hL⟩ : ∃ L, L = T.length := ⟨_, rfl⟩
      rw [← hL] at run7 hb7 hs2 hu7
      have hp8 := fun W => vPutRI (L : Int) W (by omega) (by omega)
      have hU := Go.Lib.uvarint_length64 (x := L) (by omega)
      rw [Int.toNat_natCast] at hp8
      rcases (show f.rep = false ∨ f.rep = true by cases f.rep <;> simp) with hr | hr
      · rw [hr, partL_no] at hs1
        rw [hr] at z3r z3s
        have Hs1 := Lib.hid hs1
        have HL := Lib.hid hL
        have Hb7 := Lib.hid hb7
        have Hown := Lib.hid ownr
        clear hs1 hL hb7 ownr hA htk hr hp8
        go_wp2_with (at_builtin; refine wpList_more elemB rfl (.tmp 61) (.tmp 62) rfl rfl (Hown.out.up X7) rfl Hb7.out (bv_one _) (by omega) (by unfold maxLen; omega) ?_; intro A4 c4 w4 own4 g4)
        go_roundw
        case rel =>
         refine ⟨k + 1, A4, vn + L, c4, by omega, by go_num, rfl, ?_, ?_⟩
         · show _ = _
           rw [Hs1.out, List.length_append, ← hvn.out, HL.out]
         · rw [Hs1.out, List.map_append]
           exact own4
        case measure => simp [intOf]; omega
      · rw [hr, partL_yes, ← hL] at hs1
        rw [hr] at z3r z3s
        have Hs1 := Lib.hid hs1
        have HL := Lib.hid hL
        have Hb7 := Lib.hid hb7
        have Hown := Lib.hid ownr
        have Hp8 := Lib.hid hp8
        clear hs1 hL hb7 ownr hA htk hr hp8
        generalize uvarint L = U at *
        go_wp2_with (first
         | (go_at_call 72; refine (Hp8.out _).mono ?_; rintro e w8 ⟨A8, c8, rfl, own8⟩; have X8 : Ext W7 w8 := own8.ext)
         | (at_builtin; refine wpList_more elemB rfl (.tmp 55) (.tmp 59) rfl rfl (Hown.out.up (X7.trans X8)) rfl own8.reads (bv_one _) (by omega) (by unfold maxLen; omega) ?_; intro A9 c9 w9 own9 g9; have Hb9 := bytes_aside (Hown.out) (Hb7.out.up X8) hu7 (by rw [ownBlock_any V vn vc 0 0] at g9 ⊢; exact g9))
         | (at_builtin; refine wpList_more elemB rfl (.tmp 61) (.tmp 62) rfl rfl own9 rfl Hb9 (bv_one _) (by omega) (by unfold maxLen; omega) ?_; intro A4 c4 w4 own4 g4))
        go_roundw
        case rel =>
         refine ⟨k + 1, A4, vn + U.length + L, c4, by omega, by go_num, rfl, ?_, ?_⟩
         · show _ = _
           rw [Hs1.out, List.length_append, List.length_append, ← hvn.out, ← HL.out]
           omega
         · rw [Hs1.out, ← List.append_assoc, List.map_append, List.map_append]
           exact own4
        case measure => simp [intOf]; omega
    · obtain ⟨j, hj⟩ : ∃ j, k = v.texts.length + j := ⟨k - v.texts.length, by omega⟩
      have hltI : ¬ (k : Int) < v.texts.length := by omega
      have hji : IntKind.i64.wrap ((k : Int) - v.texts.length) = (j : Int) := by
       rw [IntKind.wrap_i64]
       omega
      have hjl : j < v.subs.length := by omega
      have hjI : (j : Int) < v.subs.length := by omega
      obtain ⟨b5, off5, y, hA, hyk, hb5, e0, e1⟩ := treeCells (Hv.out.own.subs.ext X0) hjl
      have hym := List.mem_of_getElem? hyk
      have hcall := Hc.out y hym
      unfold treeV MakesB at hcall
      rw [hA] at y3r
      obtain ⟨hs1, hs2⟩ := HGs.out j y hyk
      rw [← hj] at hs1
      generalize se y = T at *
      obtain ⟨L, hL⟩ : ∃ L, L = T.length := ⟨_, rfl⟩
      rw [← hL] at hcall hs2
      have hp8 := fun W => vPutRI (L : Int) W (by omega) (by omega)
      have hU := Go.Lib.uvarint_length64 (x := L) (by omega)
      rw [Int.toNat_natCast] at hp8
      rw [hA] at y3
      have Hcall := Lib.hid hcall
      have HL := Lib.hid hL
      have Hown := Lib.hid ownr
      have Hp8 := Lib.hid hp8
      have Hs1 := Lib.hid hs1
      clear hcall hL ownr hp8 hs1 hA hyk hj
      go_wp2
      go_region_held3 (fun W => Ext wx W ∧ ∀ b o, b < wx.heap.size → W.cell? ⟨b, o, none⟩ = wx.cell? ⟨b, o, none⟩) ((refine Ext.keep ?_; repeat with_reducible (first | assumption | exact Ext.refl _ | refine Ext.alloc ?_ _ | refine Ext.drew ?_ | refine Ext.drewN ?_ _ | refine Ext.setCell ?_ (by first | omega | (simp <;> omega)) _))) (first
       | (go_split_ands; go_at_call 37; refine (Hcall.out _ (X0.trans (by with_reducible assumption))).mono ?_; rintro e w5 ⟨A5, n5, c5, rfl, hn5, own5⟩; have q5 : Ext wx w5 := Ext.trans (by with_reducible assumption) own5.ext; have r5 : Ext wr w5 := Ext.trans (by repeat with_reducible (first | exact Ext.refl _ | refine Ext.alloc ?_ _ | refine Ext.drew ?_ | refine Ext.drewN ?_ _ | refine Ext.setCell ?_ (by first | omega | (simp <;> omega)) _)) own5.ext))
      obtain rfl : n5 = L := hn5.out
      have z3s := q5.of_cell z3
      have hu5 : ∀ b, UsesA A5 n5 b → wr.heap.size ≤ b := fun b hb => own_new own5 b hb
      rcases (show f.rep = false ∨ f.rep = true by cases f.rep <;> simp) with hr | hr
      · have hs1 := Hs1.out
        rw [hr, partL_no] at hs1
        have Hs2 := Lib.hid hs1
        rw [hr] at z3 z3r z3s
        clear hs1 hr
        go_simp
        go_wp2_with (at_builtin; refine wpList_more elemB rfl (.tmp 61) (.tmp 62) rfl rfl (Hown.out.up r5) rfl own5.reads (bv_one _) (by omega) (by unfold maxLen; omega) ?_; intro A4 c4 w4 own4 g4)
        go_roundw
        case rel =>
         refine ⟨k + 1, A4, vn + n5, c4, by omega, by go_num, rfl, ?_, ?_⟩
         · show _ = _
           rw [Hs2.out, List.length_append, ← hvn.out, HL.out]
         · rw [Hs2.out, List.map_append]
           exact own4
        case measure => simp [intOf]; omega
      · have hs1 := Hs1.out
        rw [hr, partL_yes, ← HL.out] at hs1
        have Hs2 := Lib.hid hs1
        rw [hr] at z3 z3r z3s
        clear hs1 hr
        generalize uvarint n5 = U at *
        go_simp
        go_wp2_with (first
         | (go_at_call 72; refine (Hp8.out _).mono ?_; rintro e w8 ⟨A8, c8, rfl, own8⟩; have X8 : Ext w5 w8 := own8.ext)
         | (at_builtin; refine wpList_more elemB rfl (.tmp 55) (.tmp 59) rfl rfl (Hown.out.up (r5.trans X8)) rfl own8.reads (bv_one _) (by omega) (by unfold maxLen; omega) ?_; intro A9 c9 w9 own9 g9; have Hb9 := bytes_aside (Hown.out) (own5.bytes.up X8) hu5 (by rw [ownBlock_any V vn vc 0 0] at g9 ⊢; exact g9))
         | (at_builtin; refine wpList_more elemB rfl (.tmp 61) (.tmp 62) rfl rfl own9 rfl Hb9 (bv_one _) (by omega) (by unfold maxLen; omega) ?_; intro A4 c4 w4 own4 g4))
        go_roundw
        case rel =>
         refine ⟨k + 1, A4, vn + U.length + n5, c4, by omega, by go_num, rfl, ?_, ?_⟩
         · show _ = _
           rw [Hs2.out, List.length_append, List.length_append, ← hvn.out, ← HL.out]
           omega
         · rw [Hs2.out, ← List.append_assoc, List.map_append, List.map_append]
           exact own4
        case measure => simp [intOf]; omega
  · have hinI : ¬ (k : Int) < v.texts.length + v.subs.length := by omega
    have hkG : (G.take k).flatten = G.flatten := by rw [List.take_of_length_le (by have := HGl.out; omega)]
    rw [hkG] at hvn ownr
    clear hkG
    go_wp2
    go_ret
    exact ⟨V, vn, vc, rfl, hvn, ownr.since X0⟩

end Go.Proofs.YtnnphodgegcddaaGreat

/- Contracts of layer 20: the load of a value, by its code. -/



namespace Go.Proofs.YtnnphodgegcddaaGreat
open Go.RowKit Go.Shelf
set_option linter.unusedVariables false

theorem codeFL_cases {S : List MsgD} {f : FieldD} {v : ValT} : (argsL S f 0 ≠ 0 ∧ codeFL S f v = argsL S f 0) ∨ (argsL S f 0 = 0 ∧ ¬ FitP S f v ∧ ¬ (manyU v = 0 ∧ f.rep = true) ∧ codeFL S f v = 12) ∨ (argsL S f 0 = 0 ∧ (FitP S f v ∨ (manyU v = 0 ∧ f.rep = true)) ∧ codeFL S f v = 0) := by
 by_cases h0 : argsL S f 0 = 0
 · by_cases h1 : FitP S f v
   · exact .inr (.inr ⟨h0, .inl h1, codeFL_fine h0 (.inl h1)⟩)
   · by_cases h2 : manyU v = 0 ∧ f.rep = true
     · exact .inr (.inr ⟨h0, .inr h2, codeFL_fine h0 (.inr h2)⟩)
     · exact .inr (.inl ⟨h0, h1, h2, codeFL_form h0 h1 h2⟩)
 · exact .inl ⟨h0, codeFL_bad h0⟩

theorem lFrom_no {A : Option Addr} {n c : Nat} {S : List MsgV} {f : FieldD} {v : ValR} {w : World} (hs : SchemaAt w A n c S) (hv : ValAt w v) (hF : FitV 1000000000000 1000000000 (bareV v)) (h : codeFL (S.map MsgV.d) f (bareV v) ≠ 0) :
  Calls Tryz.prog 21 #[.slice A n c, fieldV f, tvalV v] w fun e w' => e = .returned (.tuple #[.slice none 0 0, .int .u8 (codeFL (S.map MsgV.d) f (bareV v) : Nat)]) ∧ Ext w w' := by
 rcases codeFL_cases (S := S.map MsgV.d) (f := f) (v := bareV v) with ⟨h0, e⟩ | ⟨h0, h1, h2, e⟩ | ⟨_, _, e⟩
 · rw [e]
   exact lFrom_args hs h0
 · rw [e]
   exact lFrom_form hs hv hF h0 h1 h2
 · exact absurd e h

theorem subs_depth {S : List MsgD} {f : FieldD} {v : ValT} (h1 : FitP S f v ∨ (manyU v = 0 ∧ f.rep = true)) : ∃ D, ∀ y ∈ v.subs, RightV S D f.of_.toNat y := by
 rcases FitP.kinds h1 with ⟨_, _, h⟩ | ⟨_, _, h⟩ | ⟨_, _, h⟩
 · exact ⟨0, fun y hy => by rw [h] at hy; cases hy⟩
 · exact depth_all (fun y hy => (h y hy).2)
 · exact ⟨0, fun y hy => by rw [h] at hy; cases hy⟩

theorem rightV_msg {S : List MsgD} {D m : Nat} {x : MsgT} (h : RightV S D m x) : ∃ M, S[m]? = some M := by
 cases D with
 | zero => obtain ⟨M, hM, _⟩ := h; exact ⟨M, hM⟩
 | succ D => obtain ⟨M, hM, _⟩ := h; exact ⟨M, hM⟩

theorem lFrom_ok {A : Option Addr} {n c D : Nat} {S : List MsgV} {f : FieldD} {v : ValR} {w : World} (hs : SchemaAt w A n c S) (hv : ValAt w v) (hF : FitV 1000000000000 1000000000 (bareV v)) (hsz : sizeU (bareV v) ≤ 3000) (h : codeFL (S.map MsgV.d) f (bareV v) = 0) (hD : ∀ y ∈ (bareV v).subs, RightV (S.map MsgV.d) D f.of_.toNat y) :
  Calls Tryz.prog 21 #[.slice A n c, fieldV f, tvalV v] w fun e w' => ∃ A' n2 c2, e = .returned (.tuple #[.slice A' n2 c2, .int .u8 0]) ∧ Hid (n2 = (fromL (S.map MsgV.d) D f (bareV v)).length) ∧ BytesAt w' A' n2 c2 (fromL (S.map MsgV.d) D f (bareV v)) ∧ Ext w w' := by
 rcases codeFL_cases (S := S.map MsgV.d) (f := f) (v := bareV v) with ⟨h0, e⟩ | ⟨h0, _, _, e⟩ | ⟨h0, h1, _⟩
 · rw [e] at h
   exact absurd h h0
 · rw [e] at h
   cases h
 have hR : rightS (S.map MsgV.d) = true := by
  rcases hR : rightS (S.map MsgV.d) with _ | _
  · rw [argsL_ill hR] at h0
    cases h0
  · rfl
 have hl := sizeU_lens (bareV v)
 rcases hk : numberB f.kind with _ | _
 · have e : fromL (S.map MsgV.d) D f (bareV v) = ((partsL (S.map MsgV.d) D f (bareV v)).map (partL f.rep)).flatten := by
    unfold fromL
    rw [if_neg (by rw [hk]; decide)]
   rw [e]
   obtain ⟨p1, p2, p3⟩ := parts_size (f := f) hR hD hsz
   by_cases hfit : FitP (S.map MsgV.d) f (bareV v)
   · refine lFrom_parts (se := fun y => encV (S.map MsgV.d) D f.of_.toNat (bare y)) hs hv hF h0 hfit hk ?_ ?_ p1 p2 p3
     · unfold partsL bareV
       simp only [List.map_map]
       rfl
     · intro y hy W hs2 hy2
       have hyb : bare y ∈ (bareV v).subs := List.mem_map_of_mem hy
       have hRI : RI (S.map MsgV.d) f.of_ (bare y) := by
        rcases FitP.kinds (.inl hfit) with ⟨_, _, q⟩ | ⟨_, _, q⟩ | ⟨_, _, q⟩
        · rw [q] at hyb
          cases hyb
        · exact q _ hyb
        · rw [q] at hyb
          cases hyb
       have hRV := hD _ hyb
       obtain ⟨M, hM⟩ := rightV_msg hRV
       have hm : f.of_.toNat < n := by
        have := (List.getElem?_eq_some_iff.1 hM).1
        rw [List.length_map, hs2.length] at this
        exact this
       have h3 := sizeT_mem hyb
       have h4 := encV_size hR D _ _ hRV (by omega)
       have hfs := hF.subs y hy
       have ho : ((f.of_.toNat : Nat) : Int) = f.of_ := by have := hRI.1; omega
       have hc := cEncode (w := W) (m := f.of_.toNat) hR hm hs2 hy2 hRV hfs.1 hfs.2.unkT (by omega)
       rw [ho] at hc
       exact hc
   · have h2 : manyU (bareV v) = 0 ∧ f.rep = true := by
      rcases h1 with q | q
      · exact absurd q hfit
      · exact q
     have hP : partsL (S.map MsgV.d) D f (bareV v) = [] := by
      have q := h2.1
      unfold manyU at q
      unfold partsL
      rw [List.eq_nil_of_length_eq_zero (show (bareV v).texts.length = 0 by omega), List.eq_nil_of_length_eq_zero (show (bareV v).subs.length = 0 by omega)]
      rfl
     rw [hP]
     refine (lFrom_none hs hv hF h0 h2.1 h2.2 hk hfit).mono ?_
     rintro e w' ⟨rfl, E⟩
     exact ⟨none, 0, 0, rfl, rfl, BytesAt.nil _, E⟩
 · have e : fromL (S.map MsgV.d) D f (bareV v) = packW f.kind v.words := by
    unfold fromL
    rw [if_pos hk]
    rfl
   rw [e]
   have hwl : v.words.length ≤ 1000000000 := by
    have : (bareV v).words.length = v.words.length := rfl
    omega
   rcases hr : f.rep with _ | _
   · have hfit : FitP (S.map MsgV.d) f (bareV v) := by
      rcases h1 with q | q
      · exact q
      · rw [hr] at q
        cases q.2
     refine (lFrom_number hs hv hF h0 hfit hr hk).mono ?_
     rintro e w' ⟨A', c', rfl, own⟩
     exact ⟨A', _, c', rfl, rfl, own.bytes, own.ext⟩
   · refine (lFrom_run hs hv hF h0 h1 hr hk hwl).mono ?_
     rintro e w' ⟨A', c', rfl, own⟩
     exact ⟨A', _, c', rfl, rfl, own.bytes, own.ext⟩

theorem rFrom_ok {A : Option Addr} {n c D : Nat} {S : List MsgV} {f : FieldD} {v : ValR} {w : World} (hs : SchemaAt w A n c S) (hv : ValAt w v) (hsz : sizeU (bareV v) ≤ 3000) (h : codeFL (S.map MsgV.d) f (bareV v) = 0) (hD : ∀ y ∈ (bareV v).subs, RightV (S.map MsgV.d) D f.of_.toNat y) :
  Calls Tryz.prog 27 #[.slice A n c, fieldV f, tvalV v] w (MakesB (fromL (S.map MsgV.d) D f (bareV v)) w) := by
 rcases codeFL_cases (S := S.map MsgV.d) (f := f) (v := bareV v) with ⟨h0, e⟩ | ⟨h0, _, _, e⟩ | ⟨h0, h1, _⟩
 · rw [e] at h
   exact absurd h h0
 · rw [e] at h
   cases h
 have hR : rightS (S.map MsgV.d) = true := by
  rcases hR : rightS (S.map MsgV.d) with _ | _
  · rw [argsL_ill hR] at h0
    cases h0
  · rfl
 have hl := sizeU_lens (bareV v)
 rcases hk : numberB f.kind with _ | _
 · have e : fromL (S.map MsgV.d) D f (bareV v) = ((partsL (S.map MsgV.d) D f (bareV v)).map (partL f.rep)).flatten := by
    unfold fromL
    rw [if_neg (by rw [hk]; decide)]
   rw [e]
   obtain ⟨p1, p2, p3⟩ := parts_size (f := f) hR hD hsz
   refine rFrom_parts (se := fun y => encV (S.map MsgV.d) D f.of_.toNat (bare y)) hv hk ?_ ?_ p1 p2 p3
   · unfold partsL bareV
     simp only [List.map_map]
     rfl
   · intro y hy W hW
     have hyb : bare y ∈ (bareV v).subs := List.mem_map_of_mem hy
     have hRI : RI (S.map MsgV.d) f.of_ (bare y) := by
      rcases FitP.kinds h1 with ⟨_, _, q⟩ | ⟨_, _, q⟩ | ⟨_, _, q⟩
      · rw [q] at hyb
        cases hyb
      · exact q _ hyb
      · rw [q] at hyb
        cases hyb
     have hRV := hD _ hyb
     have h3 := sizeT_mem hyb
     have h4 := encV_size hR D _ _ hRV (by omega)
     have ho : ((f.of_.toNat : Nat) : Int) = f.of_ := by have := hRI.1; omega
     have hc := rEncode hR D f.of_.toNat y W A n c (hs.up hW) ((hv.sub y hy).up hW) hRV (by omega)
     rw [ho] at hc
     exact hc
 · have e : fromL (S.map MsgV.d) D f (bareV v) = packW f.kind v.words := by
    unfold fromL
    rw [if_pos hk]
    rfl
   rw [e]
   have hwl : v.words.length ≤ 1000000000 := by
    have : (bareV v).words.length = v.words.length := rfl
    omega
   exact rFrom_words hv hk hwl

end Go.Proofs.YtnnphodgegcddaaGreat
