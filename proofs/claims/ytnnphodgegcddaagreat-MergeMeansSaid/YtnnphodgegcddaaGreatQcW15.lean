/- Contracts of layer 15: a value put in its place. -/
import Derived.Test.YtnnphodgegcddaaGreatQcS15
import Derived.Test.YtnnphodgegcddaaGreatQcW14w
import Derived.Test.YtnnphodgegcddaaGreatQcW14c

namespace Go.Proofs.YtnnphodgegcddaaGreat
open Go.RowKit Go.Shelf
set_option linter.unusedVariables false

structure PutAt (w w1 wr : World) (bx : Nat) (x : MsgR) (v : ValR) (V : Option Addr) (vn vc : Nat) (ys : List ValR) : Prop where
 out : BlkT wr bx 40 #[.slice V vn vc, .slice x.b.1 x.unk.length x.b.2]
 own : Own w wr 57 4 V vn vc (ys.flatMap tvalC)
 vnL : vn = ys.length
 mem : ∀ y ∈ ys, y ∈ x.vals ∨ y = v
 vnew : ∀ b, (Value.slice V 0 0).ownBlock = some b → w1.heap.size ≤ b
 stays : Stays (fun b => b ≠ bx) w1 wr

section
variable {w w1 wr w' w7 : World} {bx : Nat} {x : MsgR} {v : ValR} {V : Option Addr} {vn vc : Nat} {ys : List ValR}

theorem PutAt.up (h : PutAt w w1 wr bx x v V vn vc ys) (k : Ext wr w') : PutAt w w1 w' bx x v V vn vc ys := ⟨h.out.up k, h.own.up k, h.vnL, h.mem, h.vnew, h.stays.trans (Stays.of_ext k)⟩

theorem PutAt.more (h : PutAt w w1 wr bx x v V vn vc ys) (hb : w.heap.size ≤ bx) {u : ValR} (hu : u ∈ x.vals ∨ u = v) {W0 : World} (X : Ext wr W0) {V7 : Option Addr} {c7 : Nat} (own7 : Own w w7 57 4 V7 (vn + 1) c7 (ys.flatMap tvalC ++ tvalC u)) (g7 : W0.grownBy w7 (Value.slice V vn vc).ownBlock) (m7 : Moved W0 V V7) :
  PutAt w w1 (w7.setCell ⟨bx, 0, none⟩ (.slice V7 (vn + 1) c7)) bx x v V7 (vn + 1) c7 (ys ++ [u]) := by
 have hB := (h.out.up X).beside (h.own.up X) (by decide) g7
 have hfar := own7.far hB (by decide) hb 0 (.slice V7 (vn + 1) c7)
 have hsz := h.stays.size
 have hsx := X.size
 have hS0 : Stays (fun b => (Value.slice V 0 0).ownBlock ≠ some b ∧ b ≠ bx) W0 (w7.setCell ⟨bx, 0, none⟩ (.slice V7 (vn + 1) c7)) :=
  (Stays.grown g7 (fun b hb q => q.1 (by rw [ownBlock_any V vn vc 0 0] at hb; exact hb))).set (fun q => q.2 rfl) _
 refine ⟨hB.set_ 0 _, ?_, ?_, fun y hy => ?_, fun b hb => ?_, ?_⟩
 · rw [List.flatMap_append]
   simpa using hfar
 · rw [List.length_append, ← h.vnL]
   rfl
 · rcases List.mem_append.1 hy with hy | hy
   · exact h.mem y hy
   · rw [List.mem_singleton] at hy
     subst hy
     exact hu
 · rcases m7 with q | q
   · rw [q] at hb
     exact h.vnew b hb
   · rw [q] at hb
     injection hb with hb
     omega
 · refine ⟨Nat.le_trans hsz (Nat.le_trans hsx hS0.size), fun b hb hlt => ?_⟩
   rw [hS0.block b ⟨fun q => ?_, hb⟩ (by omega), X.block b (by omega), h.stays.block b hb hlt]
   have := h.vnew b q
   omega
end

theorem PutAt.done {w w1 wq : World} {bx br : Nat} {x : MsgR} {v : ValR} {V : Option Addr} {vn vc : Nat} {ys : List ValR} (h : PutAt w w1 wq bx x v V vn vc ys) (hx : TreeAt w x) (hv : ValAt w v) (hb : w.heap.size ≤ br) (BR : BlkT wq br 40 #[.slice none 0 0, .slice none 0 0]) :
  ∃ y : MsgR, Value.agg #[.slice V vn vc, .slice x.b.1 x.unk.length x.b.2] = treeV y ∧ y.vals = ys ∧ y.unk = x.unk ∧ TreeAt ((wq.setCell ⟨br, 0, none⟩ (.slice V vn vc)).setCell ⟨br, 1, none⟩ (.slice x.b.1 x.unk.length x.b.2)) y ∧
    (∀ b, UsesT y b → UsesT x b ∨ UsesV v b ∨ w.heap.size ≤ b) ∧ Ext w ((wq.setCell ⟨br, 0, none⟩ (.slice V vn vc)).setCell ⟨br, 1, none⟩ (.slice x.b.1 x.unk.length x.b.2)) := by
 have EF : Ext w ((wq.setCell ⟨br, 0, none⟩ (.slice V vn vc)).setCell ⟨br, 1, none⟩ (.slice x.b.1 x.unk.length x.b.2)) := (h.own.ext.setCell (p := ⟨br, 0, none⟩) hb _).setCell (p := ⟨br, 1, none⟩) hb _
 have o1 := h.own.far BR (by decide) hb 0 (.slice V vn vc)
 have o2 := o1.far (BR.set_ 0 (.slice V vn vc)) (by decide) hb 1 (.slice x.b.1 x.unk.length x.b.2)
 have hL := h.vnL
 refine ⟨.mk (V, vc) x.b ys x.unk, ?_, rfl, rfl, ?_, ?_, EF⟩
 · show _ = Value.agg #[.slice V ys.length vc, .slice x.b.1 x.unk.length x.b.2]
   rw [hL]
 · refine TreeAt.of ?_ (hx.unk.up EF) (fun y hy => ?_)
   · show Reads _ V ys.length vc 4 (ys.flatMap tvalC)
     rw [← hL]
     exact o2.reads
   · rcases h.mem y hy with q | q
     · exact (hx.val q).up EF
     · rw [q]
       exact hv.up EF
 · intro b hb2
   rcases hb2.cases' with q | q | ⟨y, hy, q⟩
   · have q' : UsesA V ys.length b := q
     rw [← hL] at q'
     exact .inr (.inr (o2.uses_new q'))
   · exact .inl (.unk q)
   · rcases h.mem y hy with r | r
     · exact .inl (UsesT.of_val r q)
     · rw [r] at q
       exact .inr (.inl q)

set_option maxRecDepth 100000 in
set_option maxHeartbeats 4000000 in
theorem jPut {x : MsgR} {v : ValR} {w : World} (hx : TreeAt w x) (hv : ValAt w v) (hn : x.vals.length ≤ 1000000000) (h1 : v.words.length ≤ 1000000000) (h2 : v.texts.length ≤ 1000000000) (h3 : v.subs.length ≤ 1000000000) :
  Calls Tryz.prog 51 #[treeV x, tvalV v] w fun e w' => ∃ y : MsgR, e = .returned (treeV y) ∧ y.vals.map bareV = putT (x.vals.map bareV) (bareV v) ∧ y.unk = x.unk ∧ TreeAt w' y ∧ (∀ u ∈ y.vals, u ∈ x.vals ∨ u = v) ∧ (∀ b, UsesT y b → UsesT x b ∨ UsesV v b ∨ w.heap.size ≤ b) ∧ Ext w w' := by
 have hmany := fun W => rMany (u := v) (w := W) (by omega) (by omega) (by omega)
 have hmu := manyU_bare v
 have hvn := hv.own.num
 unfold treeV tvalV at *
 generalize hm : x.vals.length = n at *
 obtain ⟨va, hva⟩ : ∃ va, va = x.a.1 := ⟨_, rfl⟩
 rw [← hva]
 have Hva := Lib.hid hva
 have Hm := Lib.hid hm
 have Hmany := Lib.hid hmany
 clear hva hm hmany
 go_enter Tryz.func51, Tryz.ntmps51
 go_wp2_with (go_at_call 25; refine (Hmany.out _).mono ?_; rintro e w1 ⟨rfl, E1⟩)
 have BX := (((BlkT.new w 40 #[.slice va n x.a.2, .slice x.b.1 x.unk.length x.b.2] rfl).alloc (.cells #[.int .i64 v.number, .slice v.a.1 v.words.length v.a.2, .slice v.b.1 v.texts.length v.b.2, .slice v.c.1 v.subs.length v.c.2] 57)).alloc (.cells #[.slice none 0 0, .slice none 0 0] 40)).alloc (.cells #[.slice none 0 0, .slice x.b.1 x.unk.length x.b.2] 40)
 have BV := ((BlkT.new (w.alloc (.cells #[.slice va n x.a.2, .slice x.b.1 x.unk.length x.b.2] 40)) 57 #[.int .i64 v.number, .slice v.a.1 v.words.length v.a.2, .slice v.b.1 v.texts.length v.b.2, .slice v.c.1 v.subs.length v.c.2] (b := w.heap.size + 1) (by simp)).alloc (.cells #[.slice none 0 0, .slice none 0 0] 40)).alloc (.cells #[.slice none 0 0, .slice x.b.1 x.unk.length x.b.2] 40)
 have BR := (BlkT.new ((w.alloc (.cells #[.slice va n x.a.2, .slice x.b.1 x.unk.length x.b.2] 40)).alloc (.cells #[.int .i64 v.number, .slice v.a.1 v.words.length v.a.2, .slice v.b.1 v.texts.length v.b.2, .slice v.c.1 v.subs.length v.c.2] 57)) 40 #[.slice none 0 0, .slice none 0 0] (b := w.heap.size + 1 + 1) (by simp)).alloc (.cells #[.slice none 0 0, .slice x.b.1 x.unk.length x.b.2] 40)
 have BO := BlkT.new (((w.alloc (.cells #[.slice va n x.a.2, .slice x.b.1 x.unk.length x.b.2] 40)).alloc (.cells #[.int .i64 v.number, .slice v.a.1 v.words.length v.a.2, .slice v.b.1 v.texts.length v.b.2, .slice v.c.1 v.subs.length v.c.2] 57)).alloc (.cells #[.slice none 0 0, .slice none 0 0] 40)) 40 #[.slice none 0 0, .slice x.b.1 x.unk.length x.b.2] (b := w.heap.size + 1 + 1 + 1) (by simp)
 have X1 : Ext w w1 := Ext.trans (by repeat with_reducible (first | exact Ext.refl _ | refine Ext.alloc ?_ _ | refine Ext.drew ?_ | refine Ext.drewN ?_ _ | refine Ext.setCell ?_ (by first | omega | (simp <;> omega)) _)) E1
 replace BX := BX.up E1
 replace BV := BV.up E1
 replace BR := BR.up E1
 replace BO := BO.up E1
 have start : PutAt w w1 w1 (w.heap.size + 1 + 1 + 1) x v none 0 0 [] := ⟨BO, Own.nil X1 _ _, rfl, (fun y h => by cases h), (fun b h => by cases h), Stays.refl _ _⟩
 have s1 := E1.size
 have s1' : w.heap.size + 1 + 1 + 1 + 1 ≤ w1.heap.size := by simpa using s1
 have HBX := Lib.hid BX
 have HBV := Lib.hid BV
 have HBR := Lib.hid BR
 obtain ⟨d0, hd0⟩ : ∃ d0 : Bool, d0 = (((manyU v : Nat) : Int) == 0) := ⟨_, rfl⟩
 rw [← hd0]
 have hput0 : putT (x.vals.map bareV) (bareV v) = putL (bareV v) d0 (x.vals.map bareV) := by
  unfold putT
  rw [hmu, hd0]
  congr 1
  rw [Bool.eq_iff_iff, decide_eq_true_iff, beq_iff_eq]
  omega
 have Hput0 := Lib.hid hput0
 clear BX BV BR BO E1 s1 hd0 hput0 hmu
 go_loopw [6, 7] (fun dn i wr => ∃ (k : Nat) (d : Bool) (V : Option Addr) (vn vc : Nat) (ys : List ValR), k ≤ n ∧ i = .int .i64 (k : Int) ∧ dn = .bool d ∧ PutAt w w1 wr (w.heap.size + 1 + 1 + 1) x v V vn vc ys ∧ Hid (putT (x.vals.map bareV) (bareV v) = ys.map bareV ++ putL (bareV v) d ((x.vals.drop k).map bareV)) ∧ vn ≤ k + d.toNat) (fun _ i _ => n - (intOf i).toNat)
 case atStart => exact ⟨0, d0, none, 0, 0, [], Nat.zero_le _, rfl, rfl, start, by show _ = _; rw [Hput0.out]; rfl, by omega⟩
 case round =>
  rename World => wr
  obtain ⟨k, d, V, vn, vc, ys, hk, rfl, rfl, hp, hD, hvnk⟩ := hrel
  by_cases hlt : k < n
  · have hltI : (k : Int) < n := by omega
    have Xw := hp.own.ext
    have hxr := hx.vals.ext Xw
    rw [Hm.out, ← Hva.out] at hxr
    obtain ⟨b5, off5, u, hA, hu, hb5, e0, e1, e2, e3⟩ := valCells hxr hlt
    subst hA
    have hum := List.mem_of_getElem? hu
    have hun := (hx.each u hum).num
    have hdrop : x.vals.drop k = u :: x.vals.drop (k + 1) := by
     obtain ⟨q1, q2⟩ := List.getElem?_eq_some_iff.1 hu
     rw [List.drop_eq_getElem_cons q1, q2]
    have bx := HBX.out.stays hp.stays (by omega)
    have bv := HBV.out.stays hp.stays (by omega)
    have x0 : wr.cell? ⟨w.heap.size, 0, none⟩ = some (.slice (some ⟨b5, off5, none⟩) n x.a.2) := bx.cell 0
    have xl := bx.lt
    have v0 : wr.cell? ⟨w.heap.size + 1, 0, none⟩ = some (.int .i64 v.number) := bv.cell 0
    have v1 : wr.cell? ⟨w.heap.size + 1, 1, none⟩ = some (.slice v.a.1 v.words.length v.a.2) := bv.cell 1
    have v2 : wr.cell? ⟨w.heap.size + 1, 2, none⟩ = some (.slice v.b.1 v.texts.length v.b.2) := bv.cell 2
    have v3 : wr.cell? ⟨w.heap.size + 1, 3, none⟩ = some (.slice v.c.1 v.subs.length v.c.2) := bv.cell 3
    have vl := bv.lt
    have ol := hp.out.lt
    have Hp := Lib.hid hp
    have Hdrop := Lib.hid hdrop
    have Hu := Lib.hid hu
    clear hp hdrop hxr bx bv hu
    obtain ⟨cc, hcc⟩ : ∃ cc : Bool, cc = (!d && decide (v.number ≤ u.number)) := ⟨_, rfl⟩
    have Hcc := Lib.hid hcc
    clear hcc
    go_upto_region 6 with (fail)
    go_cut [33] from 21 to 33 (fun q wz => q = .bool cc ∧ Ext wr wz)
    case first =>
     rcases d with _ | _
     · go_quiet (fail)
       go_wp2_with fail
       go_meet
       exact ⟨by rw [Hcc.out]; simp, (by repeat with_reducible (first | exact Ext.refl _ | refine Ext.alloc ?_ _ | refine Ext.drew ?_ | refine Ext.drewN ?_ _ | refine Ext.setCell ?_ (by first | omega | (simp <;> omega)) _))⟩
     · go_quiet (fail)
       go_wp2_with fail
       go_meet
       exact ⟨by rw [Hcc.out]; simp, (by repeat with_reducible (first | exact Ext.refl _ | refine Ext.alloc ?_ _ | refine Ext.drew ?_ | refine Ext.drewN ?_ _ | refine Ext.setCell ?_ (by first | omega | (simp <;> omega)) _))⟩
    case rest =>
    rename World => wy
    obtain ⟨rfl, Ey⟩ := hcut
    have hpy := Hp.out.up Ey
    have o0 : wy.cell? ⟨w.heap.size + 1 + 1 + 1, 0, none⟩ = some (.slice V vn vc) := hpy.out.cell 0
    have of := hpy.out.free 0
    have ol2 := hpy.out.lt
    replace v0 := Ey.of_cell v0
    replace v1 := Ey.of_cell v1
    replace v2 := Ey.of_cell v2
    replace v3 := Ey.of_cell v3
    have vl2 := Nat.lt_of_lt_of_le vl Ey.size
    have Hpy := Lib.hid hpy
    have hstep : ∀ d' : Bool, d' = (d || decide (v.number ≤ u.number)) → putL (bareV v) d ((x.vals.drop k).map bareV) = (if cc = true then [bareV v] else []) ++ ((if u.number = v.number then [] else [bareV u]) ++ putL (bareV v) d' ((x.vals.drop (k + 1)).map bareV)) := fun d' hd' => by
     rw [Hdrop.out, List.map_cons, putL, hd', Hcc.out]
     have q1 : (bareV v).number = v.number := rfl
     have q2 : (bareV u).number = u.number := rfl
     rw [q1, q2]
     congr 1
     rcases d with _ | _
     · by_cases h : v.number ≤ u.number
       · simp [h]
       · simp [h]
     · simp
    have Hstep := Lib.hid hstep
    clear hpy hstep
    go_upto_if 33 with (fail)
    go_cut [6] from 34 to 39 (fun q wz => ∃ (d' : Bool) (V' : Option Addr) (vn' vc' : Nat) (ys' : List ValR), q = .bool d' ∧ PutAt w w1 wz (w.heap.size + 1 + 1 + 1) x v V' vn' vc' ys' ∧ Hid (putT (x.vals.map bareV) (bareV v) = ys'.map bareV ++ ((if u.number = v.number then [] else [bareV u]) ++ putL (bareV v) d' ((x.vals.drop (k + 1)).map bareV))) ∧ vn' ≤ k + d'.toNat)
    case first =>
     rcases cc with _ | _
     · go_wp2
       go_meet
       have hd : d = (d || decide (v.number ≤ u.number)) := by
        have := Hcc.out
        rcases d with _ | _
        · simpa using this
        · rfl
       refine ⟨d, V, vn, vc, ys, rfl, Hpy.out, ?_, hvnk⟩
       show _ = _
       rw [hD.out, Hstep.out d hd]
       simp
     · have hc := Hcc.out
       have hd : d = false := by
        rcases d with _ | _
        · rfl
        · simp at hc
       subst hd
       have Hle := Lib.hid (show decide (v.number ≤ u.number) = true by simpa using hc.symm)
       clear hc
       have hvk : vn ≤ k := by simpa using hvnk
       go_wp2_with (at_builtin; refine wpList_moreW elemRV rfl (.tmp 35) (.tmp 37) rfl rfl (Hpy.out.own.alloc _) rfl (reads_oneN _ (tvalC v) 57 (by simp) rfl) (by simpa using tvalC_one [v]) (by omega) (by unfold maxLen; omega) ?_; intro V8 c8 w8 own8 g8 m8; have hx8 := (Hpy.out.out.alloc _).beside (Hpy.out.own.alloc _) (by decide) g8; have z8 : w8.cell? ⟨w.heap.size + 1 + 1 + 1, 0, none⟩ = some (.slice V vn vc) := hx8.cell 0; have z8f := hx8.free 0; have z8l := hx8.lt)
       go_meet
       have hm := Hpy.out.more (by omega) (u := v) (.inr rfl) ((Ext.refl _).alloc _) own8 g8 m8
       refine ⟨true, V8, vn + 1, c8, ys ++ [v], rfl, hm, ?_, ?_⟩
       · show _ = _
         rw [hD.out, Hstep.out true (by rw [Hle.out]; rfl), List.map_append]
         simp
       · have : (false : Bool).toNat = 0 := rfl
         have : (true : Bool).toNat = 1 := rfl
         omega
    case rest =>
    rename World => wa
    obtain ⟨d', V', vn', vc', ys', rfl, hp2, hD2, hvn2⟩ := hcut
    have Xa := hp2.own.ext
    have hxr2 := hx.vals.ext Xa
    rw [Hm.out, ← Hva.out] at hxr2
    obtain ⟨b6, off6, u', hA', hu', hb6, g0, g1, g2, g3⟩ := valCells hxr2 hlt
    cases hA'
    rw [Hu.out] at hu'
    cases hu'
    have bx2 := HBX.out.stays hp2.stays (by omega)
    have bv2 := HBV.out.stays hp2.stays (by omega)
    have x02 : wa.cell? ⟨w.heap.size, 0, none⟩ = some (.slice (some ⟨b5, off5, none⟩) n x.a.2) := bx2.cell 0
    have xl2 := bx2.lt
    have v02 : wa.cell? ⟨w.heap.size + 1, 0, none⟩ = some (.int .i64 v.number) := bv2.cell 0
    have vl3 := bv2.lt
    have o02 : wa.cell? ⟨w.heap.size + 1 + 1 + 1, 0, none⟩ = some (.slice V' vn' vc') := hp2.out.cell 0
    have of2 := hp2.out.free 0
    have ol3 := hp2.out.lt
    have hb01 : d'.toNat ≤ 1 := by cases d' <;> decide
    have Hp2 := Lib.hid hp2
    clear hp2 bx2 bv2 hxr2 e0 e1 e2 e3 x0 xl v0 v1 v2 v3 vl ol o0 of ol2 vl2 Hstep Hpy Ey
    by_cases hne : u.number = v.number
    · rw [hne] at g0
      go_wp2
      go_quiet (fail)
      go_wp2
      go_roundw
      case rel =>
       refine ⟨k + 1, d', V', vn', vc', ys', by omega, by go_num, rfl, Hp2.out.up (by repeat with_reducible (first | exact Ext.refl _ | refine Ext.alloc ?_ _ | refine Ext.drew ?_ | refine Ext.drewN ?_ _ | refine Ext.setCell ?_ (by first | omega | (simp <;> omega)) _)), ?_, by omega⟩
       show _ = _
       rw [hD2.out, if_pos hne]
       simp
      case measure => simp [intOf]; omega
    · have hneI : ((u.number : Int) != v.number) = true := by simpa using hne
      go_wp2
      go_quiet (fail)
      go_wp2
      have ad := alloc_drewN
      have sd := setCell_drewN
      go_region_law (first
       | (refine step_moreW elemRV (by rfl) (.tmp 50) (.tmp 56) (by rfl) (by rfl) ((Hp2.out.own.alloc _).up ((Ext.refl _).drewN _)) (by rfl) ((reads_oneN wa (tvalC u) 57 rfl rfl).ext ((Ext.refl _).drewN _)) (by simpa using tvalC_one [u]) (by omega) (by unfold maxLen; omega) ?_; intro V8 c8 w8 own8 g8 m8; have hx8 := ((Hp2.out.out.alloc _).up ((Ext.refl _).drewN _)).beside ((Hp2.out.own.alloc _).up ((Ext.refl _).drewN _)) (by decide) g8; have z8 : w8.cell? ⟨w.heap.size + 1 + 1 + 1, 0, none⟩ = some (.slice V' vn' vc') := hx8.cell 0; have z8f := hx8.free 0; have z8l := hx8.lt))
      all_goals
       go_simp
       go_wp2
       go_roundw
       case rel =>
        have hm := Hp2.out.more (by omega) (u := u) (.inl hum) (((Ext.refl wa).alloc _).drewN _) own8 g8 m8
        refine ⟨k + 1, d', V8, vn' + 1, c8, ys' ++ [u], by omega, by go_num, rfl, hm, ?_, by omega⟩
        show _ = _
        rw [hD2.out, if_neg hne, List.map_append]
        simp
       case measure => simp [intOf]; omega
  · obtain rfl : k = n := by omega
    have hltI : ¬ (k : Int) < k := by omega
    have bx := HBX.out.stays hp.stays (by omega)
    have bv := HBV.out.stays hp.stays (by omega)
    have br := HBR.out.stays hp.stays (by omega)
    have x0 : wr.cell? ⟨w.heap.size, 0, none⟩ = some (.slice va k x.a.2) := bx.cell 0
    have xl := bx.lt
    have hb01 : d.toNat ≤ 1 := by cases d <;> decide
    have hdr : x.vals.drop k = [] := List.drop_of_length_le (by have := Hm.out; omega)
    have hD' := hD.out
    rw [hdr] at hD'
    have HD := Lib.hid hD'
    have Hp := Lib.hid hp
    have Hbv := Lib.hid bv
    have Hbr := Lib.hid br
    clear hp bx bv br hD' hdr
    rcases d with _ | _
    · have v0 : wr.cell? ⟨w.heap.size + 1, 0, none⟩ = some (.int .i64 v.number) := Hbv.out.cell 0
      have v1 : wr.cell? ⟨w.heap.size + 1, 1, none⟩ = some (.slice v.a.1 v.words.length v.a.2) := Hbv.out.cell 1
      have v2 : wr.cell? ⟨w.heap.size + 1, 2, none⟩ = some (.slice v.b.1 v.texts.length v.b.2) := Hbv.out.cell 2
      have v3 : wr.cell? ⟨w.heap.size + 1, 3, none⟩ = some (.slice v.c.1 v.subs.length v.c.2) := Hbv.out.cell 3
      have vl := Hbv.out.lt
      have o0 : wr.cell? ⟨w.heap.size + 1 + 1 + 1, 0, none⟩ = some (.slice V vn vc) := Hp.out.out.cell 0
      have o1 : wr.cell? ⟨w.heap.size + 1 + 1 + 1, 1, none⟩ = some (.slice x.b.1 x.unk.length x.b.2) := Hp.out.out.cell 1
      have of := Hp.out.out.free 0
      have ol := Hp.out.out.lt
      have hvk : vn ≤ k := by simpa using hvnk
      go_wp2_with (at_builtin; refine wpList_moreW elemRV rfl (.tmp 62) (.tmp 64) rfl rfl (Hp.out.own.alloc _) rfl (reads_oneN _ (tvalC v) 57 (by simp) rfl) (by simpa using tvalC_one [v]) (by omega) (by unfold maxLen; omega) ?_; intro V8 c8 w8 own8 g8 m8; have hx8 := (Hp.out.out.alloc _).beside (Hp.out.own.alloc _) (by decide) g8; have z8 : w8.cell? ⟨w.heap.size + 1 + 1 + 1, 0, none⟩ = some (.slice V vn vc) := hx8.cell 0; have z81 : w8.cell? ⟨w.heap.size + 1 + 1 + 1, 1, none⟩ = some (.slice x.b.1 x.unk.length x.b.2) := hx8.cell 1; have z8f := hx8.free 0; have z8l := hx8.lt; have hr8 := (Hbr.out.alloc _).beside (Hp.out.own.alloc _) (by decide) g8; have t0 : w8.cell? ⟨w.heap.size + 1 + 1, 0, none⟩ = some (.slice none 0 0) := hr8.cell 0; have t1 : w8.cell? ⟨w.heap.size + 1 + 1, 1, none⟩ = some (.slice none 0 0) := hr8.cell 1; have tf0 := hr8.free 0; have tf1 := hr8.free 1; have tl := hr8.lt)
      (try simp only [Exit.inBlock, Exit.then])
      have hm := Hp.out.more (by omega) (u := v) (.inr rfl) ((Ext.refl _).alloc _) own8 g8 m8
      have hr9 := hr8.set_far 0 (b' := w.heap.size + 1 + 1 + 1) (by omega) (.slice V8 (vn + 1) c8)
      obtain ⟨y, q1, q2, q3, q4, q5, q6⟩ := hm.done hx hv (by omega) hr9
      refine bodyPost_ret (results_cell_row (ty := 40) rfl _ _ (w.heap.size + 1 + 1) _ _ (0, 0) _ rfl ((hr9.set_ 0 (.slice V8 (vn + 1) c8)).set_ 1 (.slice x.b.1 x.unk.length x.b.2)) Tryz.underlying40 rfl (by kernel_rfl)) rfl ?_
      refine ⟨y, ?_, ?_, q3, q4, ?_, q5, q6⟩
      · show Ending.returned (Value.agg #[.slice V8 (vn + 1) c8, .slice x.b.1 x.unk.length x.b.2]) = _
        rw [q1]
        rfl
      · rw [q2, HD.out, List.map_append]
        rfl
      · rw [q2]
        exact hm.mem
    · have o0 : wr.cell? ⟨w.heap.size + 1 + 1 + 1, 0, none⟩ = some (.slice V vn vc) := Hp.out.out.cell 0
      have o1 : wr.cell? ⟨w.heap.size + 1 + 1 + 1, 1, none⟩ = some (.slice x.b.1 x.unk.length x.b.2) := Hp.out.out.cell 1
      have ol := Hp.out.out.lt
      have t0 : wr.cell? ⟨w.heap.size + 1 + 1, 0, none⟩ = some (.slice none 0 0) := Hbr.out.cell 0
      have t1 : wr.cell? ⟨w.heap.size + 1 + 1, 1, none⟩ = some (.slice none 0 0) := Hbr.out.cell 1
      have tf0 := Hbr.out.free 0
      have tf1 := Hbr.out.free 1
      have tl := Hbr.out.lt
      go_wp2
      (try simp only [Exit.inBlock, Exit.then])
      obtain ⟨y, q1, q2, q3, q4, q5, q6⟩ := Hp.out.done hx hv (by omega) Hbr.out
      refine bodyPost_ret (results_cell_row (ty := 40) rfl _ _ (w.heap.size + 1 + 1) _ _ (0, 0) _ rfl ((Hbr.out.set_ 0 (.slice V vn vc)).set_ 1 (.slice x.b.1 x.unk.length x.b.2)) Tryz.underlying40 rfl (by kernel_rfl)) rfl ?_
      refine ⟨y, ?_, ?_, q3, q4, ?_, q5, q6⟩
      · show Ending.returned (Value.agg #[.slice V vn vc, .slice x.b.1 x.unk.length x.b.2]) = _
        rw [q1]
        rfl
      · rw [q2, HD.out]
        simp [putL]
      · rw [q2]
        exact Hp.out.mem

end Go.Proofs.YtnnphodgegcddaaGreat
