/- Contracts of layer 16: a text as bytes. -/
import Derived.Test.YtnnphodgegcddaaGreatQdWA
import Derived.Lib.ConvBytes
import Derived.Lib.AppendStr
import Derived.Test.YtnnphodgegcddaaGreatQdM14
import Derived.Test.YtnnphodgegcddaaGreatQdW10
import Derived.Test.YtnnphodgegcddaaGreatQdW9
import Derived.Test.YtnnphodgegcddaaGreatQdS18
import Derived.Test.YtnnphodgegcddaaGreatQdW14w

namespace Go.Proofs.YtnnphodgegcddaaGreat
open Go.RowKit
set_option linter.unusedVariables false

theorem freeze_row (w : World) (c : Array Value) (e : TypeId) (k : Nat) : (w.alloc (.cells c e)).freeze ⟨w.heap.size, k, none⟩ 1 = w.alloc (.cells c e (k, k + 1)) := by
 unfold World.freeze World.alloc
 rw [if_neg (by decide)]
 have hm : ∀ (a : Array Obj) (o : Obj) (f : Obj → Obj), (a.push o).modify a.size f = a.push (f o) := by
  intro a o f
  apply Array.ext_getElem?
  intro i
  simp only [Array.getElem?_modify, Array.getElem?_push]
  by_cases h : a.size = i
  · subst h; simp
  · have h' : ¬ i = a.size := fun e => h e.symm
    simp [h, h']
 simp only [hm]
 rfl

theorem conv_text (w : World) (t : ByteArray) (ht : t.data.toList.length ≤ maxLen) : ∃ (A : Option Addr) (c : Nat) (W2 : World), (convert 9 24 (.string t)).run Tryz.prog w = .ok (.slice A t.data.toList.length c) W2 ∧ Ext w W2 ∧ BytesAt W2 A t.data.toList.length c t.data.toList := by
 have hsz : t.size = t.data.toList.length := rfl
 have hr := Go.Lib.run_convert_string_bytes (P := Tryz.prog) w 9 24 5 t Tryz.underlying9 Tryz.underlying24 Tryz.underlying5
 have hw : Go.Lib.bytesWorld w 5 t = w.drew.alloc (.cells (Go.Lib.bytesCells w 5 t) 5 ((Go.Lib.bytesCells w 5 t).size, (Go.Lib.bytesCells w 5 t).size + 1)) := by
  unfold Go.Lib.bytesWorld
  have h0 : w.heap.size = w.drew.heap.size := rfl
  rw [h0]
  exact freeze_row w.drew _ _ _
 refine ⟨some ⟨w.heap.size, 0, none⟩, grownCap w t.size 0 5, Go.Lib.bytesWorld w 5 t, by rw [← hsz]; exact hr, ?_, ?_⟩
 · rw [hw]
   exact (Ext.refl w).drew.alloc _
 · refine ⟨by rw [List.length_map, Nat.mul_one], by rw [← hsz]; exact grownCap_ge _ _ _ _, grownCap_le_maxLen _ _ _ _ (by rw [hsz]; exact ht), fun _ => ⟨w.heap.size, 0, rfl, by rw [Go.Lib.bytesWorld_size]; omega, fun j u hj => ?_⟩⟩
   rw [List.getElem?_map] at hj
   rcases hb : t.data.toList[j]? with _ | b
   · rw [hb] at hj
     cases hj
   · rw [hb] at hj
     cases hj
     have hlt : j < t.size := by rw [hsz]; exact (List.getElem?_eq_some_iff.1 hb).1
     have h1 := Go.Lib.bytesWorld_cell w 5 t j hlt
     rw [Nat.zero_add, h1, List.getD_eq_getElem?_getD, hb]
     rfl

theorem infoB : ∃ i, Tryz.prog.info? 5 = some i ∧ i.zero = some (.int .u8 0) ∧ i.size = 1 ∧ i.bytes = 1 := by
 have h : (Tryz.prog.info? 5).map (fun i => (i.zero, i.size, i.bytes)) = some (some (Value.int IntKind.u8 0), 1, 1) := by kernel_rfl
 exact info_parts h

theorem run_append_text {w0 w : World} {A : Option Addr} {n c : Nat} {xs : List UInt8} (ty : TypeId) (h : Own w0 w 5 1 A n c (xs.map bv)) (t : ByteArray) (hb : n + t.data.toList.length ≤ 140737488355328) :
  ∃ A' c' w', (Builtin.append_ #[24, 9] ty #[.slice A n c, .string t]).run Tryz.prog w = .ok (.slice A' (n + t.data.toList.length) c') w' ∧ Own w0 w' 5 1 A' (n + t.data.toList.length) c' ((xs ++ t.data.toList).map bv) ∧ w.grownBy w' (Value.slice A n c).ownBlock := by
 obtain ⟨i, hi, hz, h1, h2⟩ := infoB
 obtain ⟨v', w', hrun, hrow, hg, _⟩ := Go.Lib.run_append_own_string (P := Tryz.prog) w w0.heap.size 24 9 ty 5 i Tryz.underlying24 Tryz.underlying9 hi hz h1 h2 (.slice A n c) n (xs.map bv) h.row t (by show n + t.data.toList.length ≤ _; unfold maxLen; omega) hb h.ext.size
 have hs : xs.map bv ++ Go.Lib.strCells t = (xs ++ t.data.toList).map bv := by rw [List.map_append]; rfl
 rw [hs] at hrow
 obtain ⟨A', c', rfl⟩ : ∃ A' c', v' = .slice A' (n + t.data.toList.length) c' := by
  rcases hrow.2 with ⟨rfl, e⟩ | ⟨g, cap, cur, rfl, _⟩
  · exact ⟨none, 0, by rw [show n + t.data.toList.length = 0 from e]⟩
  · exact ⟨_, _, rfl⟩
 exact ⟨A', c', w', hrun, ⟨hrow, grown_ext h hg h.ext⟩, hg⟩

theorem wpList_text {ops : Array Oper} {rest : List Oper} {o : Oper} {a : Act} {Q : Exit → Act → World → Prop} (hgd : Region.wanted o (yielded ops a.tmps) = true) (s x : Operand)
  (ho : o.op = .call { callee := .builtin .append, args := #[s, x], argTypes := #[24, 9] })
  {w0 w : World} {A : Option Addr} {n c : Nat} {xs : List UInt8} (hs : a.eval s = .slice A n c) (h : Own w0 w 5 1 A n c (xs.map bv)) {t : ByteArray} (hx : a.eval x = .string t) (hb : n + t.data.toList.length ≤ 140737488355328)
  (k : ∀ A' c' w', Own w0 w' 5 1 A' (n + t.data.toList.length) c' ((xs ++ t.data.toList).map bv) → w.grownBy w' (Value.slice A n c).ownBlock → wpList Tryz.prog ops Q rest (a.put o.dst (.slice A' (n + t.data.toList.length) c')) w') : wpList Tryz.prog ops Q (o :: rest) a w := by
 obtain ⟨A', c', w', hrun, h2, h3⟩ := run_append_text o.type h t hb
 refine wpList_step fun _ hK => ?_
 rw [if_pos hgd]
 unfold Oper.wp execOp
 simp only [ho, resolve, invoke, builtin, Sem.run_bind, Sem.run_pure, Result.andThen_ok, List.map_toArray, List.map_cons, List.map_nil, hs, hx, hrun]
 exact hK _ _ (k A' c' w' h2 h3)

end Go.Proofs.YtnnphodgegcddaaGreat

/- Contracts of layer 16: the reference's bytes of a value that fits a field. -/





namespace Go.Proofs.YtnnphodgegcddaaGreat
open Go.RowKit Go.Shelf
set_option linter.unusedVariables false

set_option maxRecDepth 100000 in
set_option maxHeartbeats 4000000 in
theorem rValueRun {w : World} {SA : Option Addr} {sn sc : Nat} {f : FieldD} {v : ValR} (hv : ValAt w v) (hk : numberB f.kind = true) (hr : f.rep = true) (h64 : ∀ x ∈ v.words, x < 18446744073709551616) (hwl : v.words.length ≤ 1000000) (r2 : rightB f.number 2 = true) :
  Calls Tryz.prog 83 #[.slice SA sn sc, fieldV f, tvalV v] w fun e w' => ∃ A' n2 c2, e = .returned (.slice A' n2 c2) ∧ Hid (n2 = (putB f.number 2 (packW f.kind v.words)).length) ∧ Own w w' 5 1 A' n2 c2 ((putB f.number 2 (packW f.kind v.words)).map bv) := by
 have hpl := packW_le f.kind _ h64
 have hN := fun W => kNumberR f.kind W
 rw [hk] at hN
 have hp := fun W (E : Ext w W) => uPackR (k := f.kind) (w := W) ((hv.up E).own.words) h64 (by omega)
 generalize hP : packW f.kind v.words = P at *
 have hpu := fun (W : World) (A9 : Option Addr) (c9 : Nat) (h : BytesAt W A9 P.length c9 P) => rPutR (number := f.number) (wire := 2) h (by omega) r2
 have HN := Lib.hid hN
 have Hp := Lib.hid hp
 have Hpu := Lib.hid hpu
 have HP := Lib.hid hP
 clear hN hp hpu hP
 unfold fieldV tvalV at *
 go_enter Tryz.func83, Tryz.ntmps83
 go_wp2_with (go_at_call 55; refine (HN.out _).mono ?_; rintro e w1 ⟨rfl, hw1⟩; subst hw1)
 have BF := (BlkT.new w 48 #[.string f.name, .int .i64 f.number, .int .i64 f.kind, .bool true, .bool f.packed, .int .i64 f.of_] rfl).alloc (.cells #[.int .i64 v.number, .slice v.a.1 v.words.length v.a.2, .slice v.b.1 v.texts.length v.b.2, .slice v.c.1 v.subs.length v.c.2] 57)
 have BV := BlkT.new (w.alloc (.cells #[.string f.name, .int .i64 f.number, .int .i64 f.kind, .bool true, .bool f.packed, .int .i64 f.of_] 48)) 57 #[.int .i64 v.number, .slice v.a.1 v.words.length v.a.2, .slice v.b.1 v.texts.length v.b.2, .slice v.c.1 v.subs.length v.c.2] (show w.heap.size + 1 = _ by simp)
 have X0 : Ext w ((w.alloc (.cells #[.string f.name, .int .i64 f.number, .int .i64 f.kind, .bool true, .bool f.packed, .int .i64 f.of_] 48)).alloc (.cells #[.int .i64 v.number, .slice v.a.1 v.words.length v.a.2, .slice v.b.1 v.texts.length v.b.2, .slice v.c.1 v.subs.length v.c.2] 57)) := ((Ext.refl w).alloc _).alloc _
 generalize (w.alloc (.cells #[.string f.name, .int .i64 f.number, .int .i64 f.kind, .bool true, .bool f.packed, .int .i64 f.of_] 48)).alloc (.cells #[.int .i64 v.number, .slice v.a.1 v.words.length v.a.2, .slice v.b.1 v.texts.length v.b.2, .slice v.c.1 v.subs.length v.c.2] 57) = wx at *
 have z1 : wx.cell? ⟨w.heap.size, 1, none⟩ = some (.int .i64 f.number) := BF.cell 1
 have z2 : wx.cell? ⟨w.heap.size, 2, none⟩ = some (.int .i64 f.kind) := BF.cell 2
 have z3 : wx.cell? ⟨w.heap.size + 1, 1, none⟩ = some (.slice v.a.1 v.words.length v.a.2) := BV.cell 1
 go_region_held3 (fun W => (W.cell? ⟨w.heap.size, 1, none⟩ = some (.int .i64 f.number)) ∧ (W.cell? ⟨w.heap.size, 2, none⟩ = some (.int .i64 f.kind)) ∧ (W.cell? ⟨w.heap.size + 1, 1, none⟩ = some (.slice v.a.1 v.words.length v.a.2)))
      (first | exact ⟨by assumption, by assumption, by assumption⟩ | exact ⟨by assumption, by assumption, by assumption⟩ | (go_split_ands; first | exact ⟨by assumption, by assumption, by assumption⟩ | exact ⟨Ext.of_cell (Ext.alloc (Ext.refl _) _) (by assumption), Ext.of_cell (Ext.alloc (Ext.refl _) _) (by assumption), Ext.of_cell (Ext.alloc (Ext.refl _) _) (by assumption)⟩)) (first
  | (go_simp; go_at_call 71; refine (Hp.out _ (X0.trans (by repeat with_reducible (first | exact Ext.refl _ | refine Ext.alloc ?_ _ | refine Ext.drew ?_ | refine Ext.drewN ?_ _ | refine Ext.setCell ?_ (by first | omega | (simp <;> omega)) _)))).mono ?_; rintro e w5 ⟨A5, c5, rfl, own5⟩; have E5 : Ext wx w5 := Ext.trans (by repeat with_reducible (first | exact Ext.refl _ | refine Ext.alloc ?_ _ | refine Ext.drew ?_ | refine Ext.drewN ?_ _ | refine Ext.setCell ?_ (by first | omega | (simp <;> omega)) _)) own5.ext; have y1 := E5.of_cell z1; have y2 := E5.of_cell z2; have y3 := E5.of_cell z3)
  | (go_simp; go_at_call 138; refine (Hpu.out _ _ _ (own5.bytes.up (by repeat with_reducible (first | exact Ext.refl _ | refine Ext.alloc ?_ _ | refine Ext.drew ?_ | refine Ext.drewN ?_ _ | refine Ext.setCell ?_ (by first | omega | (simp <;> omega)) _)))).mono ?_; rintro e w6 ⟨A6, c6, rfl, own6⟩; have E6 : Ext w5 w6 := Ext.trans (by repeat with_reducible (first | exact Ext.refl _ | refine Ext.alloc ?_ _ | refine Ext.drew ?_ | refine Ext.drewN ?_ _ | refine Ext.setCell ?_ (by first | omega | (simp <;> omega)) _)) own6.ext; have q1 := E6.of_cell y1; have q2 := E6.of_cell y2; have q3 := E6.of_cell y3))
 all_goals
  go_simp
  go_wp2
  go_ret
  exact ⟨A6, _, c6, rfl, Lib.hid rfl, own6.since (X0.trans (E5.trans (by repeat with_reducible (first | exact Ext.refl _ | refine Ext.alloc ?_ _ | refine Ext.drew ?_ | refine Ext.drewN ?_ _ | refine Ext.setCell ?_ (by first | omega | (simp <;> omega)) _))))⟩

set_option maxRecDepth 100000 in
set_option maxHeartbeats 4000000 in
theorem rValueWord {w : World} {SA : Option Addr} {sn sc : Nat} {f : FieldD} {v : ValR} {x : Nat} (hv : ValAt w v) (hk : numberB f.kind = true) (hr : f.rep = false) (hw : v.words = [x]) (h64 : x < 18446744073709551616) (rw_ : rightB f.number (wireI f.kind) = true) :
  Calls Tryz.prog 83 #[.slice SA sn sc, fieldV f, tvalV v] w fun e w' => ∃ A' n2 c2, e = .returned (.slice A' n2 c2) ∧ Hid (n2 = (putB f.number (wireI f.kind) (putS f.kind x)).length) ∧ Own w w' 5 1 A' n2 c2 ((putB f.number (wireI f.kind) (putS f.kind x)).map bv) := by
 have hpl := (putS_length (k := f.kind) h64).2
 have hN := fun W => kNumberR f.kind W
 have hkb : kindB f.kind = true := by have := number_kind hk; unfold kindB; exact decide_eq_true (by omega)
 have hWr := fun W => kWireR (k := f.kind) hkb W
 rw [hk] at hN
 have hp := fun W => sPutR (k := f.kind) (x := x) (w := W) h64
 have hwd := hv.own.words
 rw [hw] at hwd
 obtain ⟨b5, off5, hA, hb5, hc5⟩ := Reads.at_ hwd (by simp)
 have e0 : w.cell? ⟨b5, off5, none⟩ = some (.int .u64 (x : Int)) := hc5 0 _ rfl
 generalize wireI f.kind = wi at *
 generalize hP : putS f.kind x = P at *
 have hpu := fun (W : World) (A9 : Option Addr) (c9 : Nat) (h : BytesAt W A9 P.length c9 P) => rPutR (number := f.number) (wire := wi) h (by omega) rw_
 have HN := Lib.hid hN
 have HWr := Lib.hid hWr
 have Hp := Lib.hid hp
 have Hpu := Lib.hid hpu
 have HP := Lib.hid hP
 have hl1 : v.words.length = 1 := by rw [hw]; rfl
 clear hN hp hpu hP hWr hwd hc5 hw
 unfold fieldV tvalV at *
 rw [hA, hl1]
 clear hA hl1
 go_enter Tryz.func83, Tryz.ntmps83
 go_wp2_with (go_at_call 55; refine (HN.out _).mono ?_; rintro e w1 ⟨rfl, hw1⟩; subst hw1)
 have BF := (BlkT.new w 48 #[.string f.name, .int .i64 f.number, .int .i64 f.kind, .bool false, .bool f.packed, .int .i64 f.of_] rfl).alloc (.cells #[.int .i64 v.number, .slice (some ⟨b5, off5, none⟩) 1 v.a.2, .slice v.b.1 v.texts.length v.b.2, .slice v.c.1 v.subs.length v.c.2] 57)
 have BV := BlkT.new (w.alloc (.cells #[.string f.name, .int .i64 f.number, .int .i64 f.kind, .bool false, .bool f.packed, .int .i64 f.of_] 48)) 57 #[.int .i64 v.number, .slice (some ⟨b5, off5, none⟩) 1 v.a.2, .slice v.b.1 v.texts.length v.b.2, .slice v.c.1 v.subs.length v.c.2] (show w.heap.size + 1 = _ by simp)
 have X0 : Ext w ((w.alloc (.cells #[.string f.name, .int .i64 f.number, .int .i64 f.kind, .bool false, .bool f.packed, .int .i64 f.of_] 48)).alloc (.cells #[.int .i64 v.number, .slice (some ⟨b5, off5, none⟩) 1 v.a.2, .slice v.b.1 v.texts.length v.b.2, .slice v.c.1 v.subs.length v.c.2] 57)) := ((Ext.refl w).alloc _).alloc _
 generalize (w.alloc (.cells #[.string f.name, .int .i64 f.number, .int .i64 f.kind, .bool false, .bool f.packed, .int .i64 f.of_] 48)).alloc (.cells #[.int .i64 v.number, .slice (some ⟨b5, off5, none⟩) 1 v.a.2, .slice v.b.1 v.texts.length v.b.2, .slice v.c.1 v.subs.length v.c.2] 57) = wx at *
 have z1 : wx.cell? ⟨w.heap.size, 1, none⟩ = some (.int .i64 f.number) := BF.cell 1
 have z2 : wx.cell? ⟨w.heap.size, 2, none⟩ = some (.int .i64 f.kind) := BF.cell 2
 have z3 : wx.cell? ⟨w.heap.size + 1, 1, none⟩ = some (.slice (some ⟨b5, off5, none⟩) 1 v.a.2) := BV.cell 1
 have z4 := X0.of_cell e0
 go_region_held3 (fun W => (W.cell? ⟨w.heap.size, 1, none⟩ = some (.int .i64 f.number)) ∧ (W.cell? ⟨w.heap.size, 2, none⟩ = some (.int .i64 f.kind)) ∧ (W.cell? ⟨w.heap.size + 1, 1, none⟩ = some (.slice (some ⟨b5, off5, none⟩) 1 v.a.2)) ∧ (W.cell? ⟨b5, off5, none⟩ = some (.int .u64 (x : Int))))
      (first | exact ⟨by assumption, by assumption, by assumption, by assumption⟩ | exact ⟨by assumption, by assumption, by assumption, by assumption⟩ | (go_split_ands; first | exact ⟨by assumption, by assumption, by assumption, by assumption⟩ | exact ⟨Ext.of_cell (Ext.alloc (Ext.refl _) _) (by assumption), Ext.of_cell (Ext.alloc (Ext.refl _) _) (by assumption), Ext.of_cell (Ext.alloc (Ext.refl _) _) (by assumption), Ext.of_cell (Ext.alloc (Ext.refl _) _) (by assumption)⟩)) (first
  | (go_simp; go_at_call 108; refine (HWr.out _).mono ?_; rintro e w4 ⟨rfl, hw4⟩; subst hw4)
  | (go_simp; go_at_call 130; refine (Hp.out _).mono ?_; rintro e w5 ⟨A5, c5, rfl, own5⟩; have E5 : Ext wx w5 := Ext.trans (by repeat with_reducible (first | exact Ext.refl _ | refine Ext.alloc ?_ _ | refine Ext.drew ?_ | refine Ext.drewN ?_ _ | refine Ext.setCell ?_ (by first | omega | (simp <;> omega)) _)) own5.ext; have y1 := E5.of_cell z1; have y2 := E5.of_cell z2; have y3 := E5.of_cell z3; have y4 := E5.of_cell z4)
  | (go_simp; go_at_call 138; refine (Hpu.out _ _ _ (own5.bytes.up (by repeat with_reducible (first | exact Ext.refl _ | refine Ext.alloc ?_ _ | refine Ext.drew ?_ | refine Ext.drewN ?_ _ | refine Ext.setCell ?_ (by first | omega | (simp <;> omega)) _)))).mono ?_; rintro e w6 ⟨A6, c6, rfl, own6⟩; have E6 : Ext w5 w6 := Ext.trans (by repeat with_reducible (first | exact Ext.refl _ | refine Ext.alloc ?_ _ | refine Ext.drew ?_ | refine Ext.drewN ?_ _ | refine Ext.setCell ?_ (by first | omega | (simp <;> omega)) _)) own6.ext; have q1 := E6.of_cell y1; have q2 := E6.of_cell y2; have q3 := E6.of_cell y3; have q4 := E6.of_cell y4))
 all_goals
  go_simp
  go_wp2
  go_ret
  exact ⟨A6, _, c6, rfl, Lib.hid rfl, own6.since (X0.trans (E5.trans (by repeat with_reducible (first | exact Ext.refl _ | refine Ext.alloc ?_ _ | refine Ext.drew ?_ | refine Ext.drewN ?_ _ | refine Ext.setCell ?_ (by first | omega | (simp <;> omega)) _))))⟩

def MakesB (bs : List UInt8) (W : World) (e : Ending) (W' : World) : Prop := ∃ A' n2 c2, e = .returned (.slice A' n2 c2) ∧ Hid (n2 = bs.length) ∧ Own W W' 5 1 A' n2 c2 (bs.map bv)

theorem flat_upto {α : Type} {T : List (List α)} (k : Nat) : (T.take k).flatten.length ≤ T.flatten.length := by
 have h := congrArg List.flatten (List.take_append_drop k T)
 rw [List.flatten_append] at h
 have h2 := congrArg List.length h
 rw [List.length_append] at h2
 omega

theorem putB_more (n : Int) (v : List UInt8) : v.length ≤ (putB n 2 v).length := by rw [putB_len]; omega

set_option maxRecDepth 100000 in
set_option maxHeartbeats 4000000 in
theorem rValueOther {w : World} {SA : Option Addr} {sn sc : Nat} {f : FieldD} {v : ValR} {se : MsgR → List UInt8} (hv : ValAt w v) (hk : numberB f.kind = false) (r2 : rightB f.number 2 = true)
  (hp : ∀ y ∈ v.subs, ∀ W : World, Ext w W → Calls Tryz.prog 37 #[.slice SA sn sc, .int .i64 f.of_, treeV y] W fun e W' => ∃ A' n2 c2, e = .returned (.slice A' n2 c2) ∧ Hid (n2 = (se y).length) ∧ Own W W' 5 1 A' n2 c2 ((se y).map bv))
  (hl : (v.texts.map fun t => putB f.number 2 t.data.toList).flatten.length + (v.subs.map fun y => putB f.number 2 (se y)).flatten.length ≤ 1000000) :
  Calls Tryz.prog 83 #[.slice SA sn sc, fieldV f, tvalV v] w (MakesB ((v.texts.map fun t => putB f.number 2 t.data.toList).flatten ++ (v.subs.map fun y => putB f.number 2 (se y)).flatten) w) := by
 obtain ⟨T, hT⟩ : ∃ T, T = v.texts.map fun t => putB f.number 2 t.data.toList := ⟨_, rfl⟩
 obtain ⟨U, hU⟩ : ∃ U, U = v.subs.map fun y => putB f.number 2 (se y) := ⟨_, rfl⟩
 rw [← hT, ← hU] at hl ⊢
 have hTl : T.length = v.texts.length := by rw [hT, List.length_map]
 have hUl : U.length = v.subs.length := by rw [hU, List.length_map]
 have hTs : ∀ k t, v.texts[k]? = some t → (T.take (k + 1)).flatten = (T.take k).flatten ++ putB f.number 2 t.data.toList ∧ (T.take k).flatten.length ≤ 1000000 ∧ (putB f.number 2 t.data.toList).length ≤ 1000000 ∧ t.data.toList.length ≤ 1000000 := fun k t h => by
  have hm : T[k]? = some (putB f.number 2 t.data.toList) := by rw [hT, List.getElem?_map, h]; rfl
  have h1 := mem_flatten_le (List.mem_of_getElem? hm)
  have h2 := flat_upto (T := T) k
  have h3 := putB_more f.number t.data.toList
  refine ⟨by rw [take_snoc _ _ _ hm, List.flatten_append]; simp, by omega, by omega, by omega⟩
 have hUs : ∀ k y, v.subs[k]? = some y → (U.take (k + 1)).flatten = (U.take k).flatten ++ putB f.number 2 (se y) ∧ (T.flatten ++ (U.take k).flatten).length ≤ 1000000 ∧ (putB f.number 2 (se y)).length ≤ 1000000 ∧ (se y).length ≤ 1000000 := fun k y h => by
  have hm : U[k]? = some (putB f.number 2 (se y)) := by rw [hU, List.getElem?_map, h]; rfl
  have h1 := mem_flatten_le (List.mem_of_getElem? hm)
  have h2 := flat_upto (T := U) k
  have h3 := putB_more f.number (se y)
  refine ⟨by rw [take_snoc _ _ _ hm, List.flatten_append]; simp, by rw [List.length_append]; omega, by omega, by omega⟩
 have hN := fun W => kNumberR f.kind W
 rw [hk] at hN
 have HN := Lib.hid hN
 have HTs := Lib.hid hTs
 have HUs := Lib.hid hUs
 have HTl := Lib.hid hTl
 have HUl := Lib.hid hUl
 have Hp := Lib.hid hp
 have R2 := Lib.hid r2
 have Hv := Lib.hid hv
 have tcap := hv.own.texts.at_.cap
 have scap := hv.own.subs.cap
 have tmax := hv.own.texts.at_.max
 have smax := hv.own.subs.max
 unfold maxLen at tmax smax
 clear hN hTs hUs hTl hUl hT hU hl hp r2 hk hv
 unfold fieldV tvalV at *
 go_enter Tryz.func83, Tryz.ntmps83
 go_wp2_with (go_at_call 55; refine (HN.out _).mono ?_; rintro e w1 ⟨rfl, hw1⟩; subst hw1)
 have BF := (BlkT.new w 48 #[.string f.name, .int .i64 f.number, .int .i64 f.kind, .bool f.rep, .bool f.packed, .int .i64 f.of_] rfl).alloc (.cells #[.int .i64 v.number, .slice v.a.1 v.words.length v.a.2, .slice v.b.1 v.texts.length v.b.2, .slice v.c.1 v.subs.length v.c.2] 57)
 have BV := BlkT.new (w.alloc (.cells #[.string f.name, .int .i64 f.number, .int .i64 f.kind, .bool f.rep, .bool f.packed, .int .i64 f.of_] 48)) 57 #[.int .i64 v.number, .slice v.a.1 v.words.length v.a.2, .slice v.b.1 v.texts.length v.b.2, .slice v.c.1 v.subs.length v.c.2] (show w.heap.size + 1 = _ by simp)
 have X0 : Ext w ((w.alloc (.cells #[.string f.name, .int .i64 f.number, .int .i64 f.kind, .bool f.rep, .bool f.packed, .int .i64 f.of_] 48)).alloc (.cells #[.int .i64 v.number, .slice v.a.1 v.words.length v.a.2, .slice v.b.1 v.texts.length v.b.2, .slice v.c.1 v.subs.length v.c.2] 57)) := ((Ext.refl w).alloc _).alloc _
 generalize (w.alloc (.cells #[.string f.name, .int .i64 f.number, .int .i64 f.kind, .bool f.rep, .bool f.packed, .int .i64 f.of_] 48)).alloc (.cells #[.int .i64 v.number, .slice v.a.1 v.words.length v.a.2, .slice v.b.1 v.texts.length v.b.2, .slice v.c.1 v.subs.length v.c.2] 57) = wx at *
 have z1 : wx.cell? ⟨w.heap.size, 1, none⟩ = some (.int .i64 f.number) := BF.cell 1
 have z5 : wx.cell? ⟨w.heap.size, 5, none⟩ = some (.int .i64 f.of_) := BF.cell 5
 have y2 : wx.cell? ⟨w.heap.size + 1, 2, none⟩ = some (.slice v.b.1 v.texts.length v.b.2) := BV.cell 2
 have y3 : wx.cell? ⟨w.heap.size + 1, 3, none⟩ = some (.slice v.c.1 v.subs.length v.c.2) := BV.cell 3
 have k1 := BF.lt
 have k2 := BV.lt
 have HBF := Lib.hid BF
 have HBV := Lib.hid BV
 clear BF BV
 go_loopw [7, 8] (fun u i wr => ∃ (k : Nat) (V : Option Addr) (vn vc : Nat), k ≤ v.texts.length ∧ i = .int .i64 (k : Int) ∧ u = .slice V vn vc ∧ Hid (vn = (T.take k).flatten.length) ∧ Own wx wr 5 1 V vn vc ((T.take k).flatten.map bv)) (fun _ i _ => v.texts.length - (intOf i).toNat)
 case atStart => exact ⟨0, none, 0, 0, Nat.zero_le _, rfl, rfl, rfl, Own.nil (Ext.refl _) _ _⟩
 case round =>
  rename World => wr
  obtain ⟨k, V, vn, vc, hkk, rfl, rfl, hvn, ownr⟩ := hrel
  have Xr := ownr.ext
  have z1r := Xr.of_cell z1
  have y2r := Xr.of_cell y2
  by_cases hlt : k < v.texts.length
  · have hltI : (k : Int) < v.texts.length := by omega
    obtain ⟨b5, off5, t, hA, htk, hb5, ht, e0⟩ := (Hv.out.own.texts.up X0).text hlt
    have e0r := Xr.of_cell e0
    rw [hA] at y2r
    obtain ⟨hs1, hs2, hs3, hs4⟩ := HTs.out k t htk
    rw [← hvn.out] at hs2
    obtain ⟨A7, c7, W7, run7, X7, hb7⟩ := conv_text wr.drew t ht
    have z1s := X7.of_cell (show wr.drew.cell? ⟨w.heap.size, 1, none⟩ = _ from z1r)
    have y2s := X7.of_cell (show wr.drew.cell? ⟨w.heap.size + 1, 2, none⟩ = _ from y2r)
    have Hs1 := Lib.hid hs1
    have Htk := Lib.hid htk
    have Hb7 := Lib.hid hb7
    have Hown := Lib.hid ownr
    clear hs1 htk hb7 ownr hA
    generalize hP : putB f.number 2 t.data.toList = P at *
    have hpu0 := fun W (h : BytesAt W A7 t.data.toList.length c7 t.data.toList) => rPutR (number := f.number) (wire := 2) h (by omega) R2.out
    rw [hP] at hpu0
    have hpu := Lib.hid hpu0
    clear hpu0
    go_wp2
    go_region_law (first
     | (go_simp; go_at_call 138; refine (hpu.out _ (Hb7.out.up (by repeat with_reducible (first | exact Ext.refl _ | refine Ext.alloc ?_ _ | refine Ext.drew ?_ | refine Ext.drewN ?_ _ | refine Ext.setCell ?_ (by first | omega | (simp <;> omega)) _)))).mono ?_; rintro e w6 ⟨A6, c6, rfl, own6⟩; have E6 : Ext W7 w6 := Ext.trans (by repeat with_reducible (first | exact Ext.refl _ | refine Ext.alloc ?_ _ | refine Ext.drew ?_ | refine Ext.drewN ?_ _ | refine Ext.setCell ?_ (by first | omega | (simp <;> omega)) _)) own6.ext; have p1 := E6.of_cell z1s; have p2 := E6.of_cell y2s)
     | (refine step_more elemB (by rfl) (.tmp 48) (.tmp 57) (by rfl) (by rfl) (Hown.out.up ((Ext.refl wr).drew.trans (X7.trans E6))) (by rfl) own6.reads (bv_one _) (by omega) (by unfold maxLen; omega) ?_; intro A4 c4 w4 own4 g4))
    all_goals
     go_simp
     go_wp2
     go_roundw
     case rel =>
      refine ⟨k + 1, A4, vn + P.length, c4, by omega, by go_num, rfl, ?_, ?_⟩
      · show _ = _
        rw [Hs1.out, List.length_append, ← hvn.out]
      · rw [Hs1.out, List.map_append]
        exact own4
     case measure => simp [intOf]; omega
  · have hge : ¬ ((k : Int) < v.texts.length) := by omega
    have hkT : (T.take k).flatten = T.flatten := by rw [List.take_of_length_le (by have := HTl.out; omega)]
    rw [hkT] at hvn ownr
    have Hvn0 := hvn
    clear hkT
    go_wp2
    go_loopw [7, 9] (fun u i wr => ∃ (k : Nat) (V : Option Addr) (vn vc : Nat), k ≤ v.subs.length ∧ i = .int .i64 (k : Int) ∧ u = .slice V vn vc ∧ Hid (vn = (T.flatten ++ (U.take k).flatten).length) ∧ Own wx wr 5 1 V vn vc ((T.flatten ++ (U.take k).flatten).map bv)) (fun _ i _ => v.subs.length - (intOf i).toNat)
    case atStart => exact ⟨0, V, vn, vc, Nat.zero_le _, rfl, rfl, by show _ = _; rw [List.take_zero, List.flatten_nil, List.append_nil]; exact hvn.out, by rw [List.take_zero, List.flatten_nil, List.append_nil]; exact ownr⟩
    case round =>
     rename World => wq
     obtain ⟨j, V2, vn2, vc2, hj, rfl, rfl, hvn2, ownq⟩ := hrel
     have Xq := ownq.ext
     have y3q := Xq.of_cell y3
     by_cases hltj : j < v.subs.length
     · have hltI : (j : Int) < v.subs.length := by omega
       obtain ⟨b5, off5, y, hA, hyk, hb5, e0, e1⟩ := treeCells (Hv.out.own.subs.ext X0) hltj
       have hym := List.mem_of_getElem? hyk
       have hcall := Hp.out y hym
       unfold treeV at hcall
       rw [hA] at y3q
       obtain ⟨hs1, hs2, hs3, hs4⟩ := HUs.out j y hyk
       rw [← hvn2.out] at hs2
       have Hs1 := Lib.hid hs1
       have Hcall := Lib.hid hcall
       have Hown := Lib.hid ownq
       have hpu := fun (W : World) (A9 : Option Addr) (n9 c9 : Nat) (q : Hid (n9 = (se y).length)) (h : BytesAt W A9 n9 c9 (se y)) => rPutR (number := f.number) (wire := 2) h (by rw [q.out]; omega) R2.out
       generalize hP : putB f.number 2 (se y) = P at *
       have Hpu := Lib.hid hpu
       rw [hA] at y3
       clear hs1 hcall ownq hpu hyk hA
       go_wp2
       go_region_held3 (fun W => Ext wx W ∧ ∀ b o, b < wx.heap.size → W.cell? ⟨b, o, none⟩ = wx.cell? ⟨b, o, none⟩) ((refine Ext.keep ?_; repeat with_reducible (first | assumption | exact Ext.refl _ | refine Ext.alloc ?_ _ | refine Ext.drew ?_ | refine Ext.drewN ?_ _ | refine Ext.setCell ?_ (by first | omega | (simp <;> omega)) _))) (first
        | (go_split_ands; go_at_call 37; refine (Hcall.out _ (X0.trans (by with_reducible assumption))).mono ?_; rintro e w5 ⟨A5, n5, c5, rfl, hn5, own5⟩; have q5 : Ext wx w5 := Ext.trans (by with_reducible assumption) own5.ext; have r5 : Ext wq w5 := Ext.trans (by repeat with_reducible (first | exact Ext.refl _ | refine Ext.alloc ?_ _ | refine Ext.drew ?_ | refine Ext.drewN ?_ _ | refine Ext.setCell ?_ (by first | omega | (simp <;> omega)) _)) own5.ext)
        | (go_split_ands; go_at_call 138; refine (Hpu.out _ _ _ _ hn5 (own5.bytes.up (by repeat with_reducible (first | exact Ext.refl _ | refine Ext.alloc ?_ _ | refine Ext.drew ?_ | refine Ext.drewN ?_ _ | refine Ext.setCell ?_ (by first | omega | (simp <;> omega)) _)))).mono ?_; rintro e w6 ⟨A6, c6, rfl, own6⟩; have q6 : Ext wx w6 := Ext.trans (by with_reducible assumption) own6.ext; have r6 : Ext wq w6 := Ext.trans (by repeat with_reducible (first | exact r5 | exact Ext.refl _ | refine Ext.alloc ?_ _ | refine Ext.drew ?_ | refine Ext.drewN ?_ _ | refine Ext.setCell ?_ (by first | omega | (simp <;> omega)) _)) own6.ext)
        | (refine step_more elemB (by rfl) (.tmp 66) (.tmp 78) (by rfl) (by rfl) (Hown.out.up (by repeat with_reducible (first | exact r6 | exact Ext.refl _ | refine Ext.alloc ?_ _ | refine Ext.drew ?_ | refine Ext.drewN ?_ _ | refine Ext.setCell ?_ (by first | omega | (simp <;> omega)) _))) (by rfl) (own6.reads.ext (by repeat with_reducible (first | exact Ext.refl _ | refine Ext.alloc ?_ _ | refine Ext.drew ?_ | refine Ext.drewN ?_ _ | refine Ext.setCell ?_ (by first | omega | (simp <;> omega)) _))) (bv_one _) (by omega) (by unfold maxLen; omega) ?_; intro A4 c4 w4 own4 g4; have q4 : Ext wx w4 := own4.ext))
       all_goals
        go_simp
        go_wp2
        go_roundw
        case rel =>
         refine ⟨j + 1, A4, vn2 + P.length, c4, by omega, by go_num, rfl, ?_, ?_⟩
         · show _ = _
           rw [Hs1.out, ← List.append_assoc, List.length_append, ← hvn2.out]
         · rw [Hs1.out, ← List.append_assoc, List.map_append]
           exact own4
        case measure => simp [intOf]; omega
     · have hge2 : ¬ ((j : Int) < v.subs.length) := by omega
       have hkU : (U.take j).flatten = U.flatten := by rw [List.take_of_length_le (by have := HUl.out; omega)]
       rw [hkU] at hvn2 ownq
       clear hkU
       go_wp2
       go_ret
       exact ⟨V2, vn2, vc2, rfl, hvn2, ownq.since X0⟩

end Go.Proofs.YtnnphodgegcddaaGreat

/- Contracts of layer 16: the reference's bytes of a right meaning. -/


namespace Go.Proofs.YtnnphodgegcddaaGreat
open Go.RowKit Go.Shelf
set_option linter.unusedVariables false

theorem flat_map_flatten {α β : Type} {g : α → List (List β)} : ∀ l : List α, (l.flatMap g).flatten = (l.map fun a => (g a).flatten).flatten
 | [] => rfl
 | a :: l => by rw [List.flatMap_cons, List.flatten_append, flat_map_flatten l, List.map_cons, List.flatten_cons]

theorem packW_ge (k : Int) : ∀ l : List Nat, (∀ x ∈ l, x < 18446744073709551616) → l.length ≤ (packW k l).length
 | [], _ => Nat.zero_le _
 | x :: l, h => by
   have h1 := (putS_length (k := k) (h x List.mem_cons_self)).1
   have h2 := packW_ge k l (fun y hy => h y (List.mem_cons_of_mem _ hy))
   rw [packW, List.length_append, List.length_cons]
   omega

theorem rValue {w : World} {SA : Option Addr} {sn sc : Nat} {f : FieldD} {v : ValR} {se : Nat → MsgT → List UInt8} {rs : Nat → MsgT → Prop} (hv : ValAt w v) (hF : RightF rs f (bareV v)) (r2 : rightB f.number 2 = true) (rw_ : rightB f.number (wireI f.kind) = true) (hl : (valueE se f (bareV v)).flatten.length ≤ 1000000)
  (hp : f.kind = 17 → ∀ y ∈ v.subs, ∀ W : World, Ext w W → Calls Tryz.prog 37 #[.slice SA sn sc, .int .i64 f.of_, treeV y] W (MakesB (se f.of_.toNat (bare y)) W)) :
  Calls Tryz.prog 83 #[.slice SA sn sc, fieldV f, tvalV v] w (MakesB (valueE se f (bareV v)).flatten w) := by
 have h64 := hv.own.small
 obtain ⟨_, h2, h3, h4⟩ := hF
 rcases hn : numberB f.kind with _ | _
 · have hE : valueE se f (bareV v) = (v.texts.map fun t => putB f.number 2 t.data.toList) ++ v.subs.map fun y => putB f.number 2 (se f.of_.toNat (bare y)) := by
    unfold valueE
    rw [if_neg (by rw [hn]; decide)]
    unfold bareV
    simp only [List.map_map]
    rfl
   rw [hE, List.flatten_append] at hl ⊢
   rw [List.length_append] at hl
   refine rValueOther (se := fun y => se f.of_.toNat (bare y)) hv hn r2 (fun y hy W hW => hp ?_ y hy W hW) hl
   rcases h4 with ⟨q, _⟩ | ⟨_, _, _, _, q, _⟩ | ⟨q, _⟩
   · rw [hn] at q
     cases q
   · have q' : v.subs.map bare = [] := q
     rw [List.map_eq_nil_iff] at q'
     rw [q'] at hy
     cases hy
   · exact q
 · have ht : v.texts = [] ∧ v.subs = [] := by
    rcases h4 with ⟨_, q1, q2, _⟩ | ⟨q, _⟩ | ⟨q, _⟩
    · exact ⟨q1, List.map_eq_nil_iff.1 q2⟩
    · rw [hn] at q
      cases q
    · rw [q] at hn
      exact absurd hn (by decide)
   rcases hr : f.rep with _ | _
   · have h1 : v.words.length = 1 := by
      have := h3 hr
      unfold manyU bareV at this
      simp only [List.length_map, ht.1, ht.2, List.length_nil] at this
      omega
     obtain ⟨x, hw⟩ := List.length_eq_one_iff.1 h1
     have hE : (valueE se f (bareV v)).flatten = putB f.number (wireI f.kind) (putS f.kind x) := by
      unfold valueE
      rw [if_pos hn, if_neg (by rw [hr]; decide)]
      unfold bareV
      simp only [hw]
      simp
     rw [hE]
     exact rValueWord hv hn hr hw (h64 x (by rw [hw]; simp)) rw_
   · have hE : (valueE se f (bareV v)).flatten = putB f.number 2 (packW f.kind v.words) := by
      unfold valueE
      rw [if_pos hn, if_pos hr]
      unfold bareV
      simp
     rw [hE] at hl ⊢
     have h5 := putB_more f.number (packW f.kind v.words)
     have h6 := packW_ge f.kind v.words h64
     exact rValueRun hv hn hr h64 (by omega) r2

theorem right_puts {S : List MsgD} (hR : rightS S = true) {m i : Nat} {M : MsgD} {f : FieldD} (hM : S[m]? = some M) (hf : M.fields[i]? = some f) : rightB f.number 2 = true ∧ rightB f.number (wireI f.kind) = true := by
 obtain ⟨⟨T, hT⟩, n1, n2, hkb⟩ := right_number hR hM hf
 refine ⟨by rw [hT]; exact rightB_of (by omega) (by omega) (by decide), ?_⟩
 unfold kindB at hkb
 have hkb := of_decide_eq_true hkb
 unfold wireI
 repeat' split
 all_goals
  rw [hT]
  exact rightB_of (by omega) (by omega) (by decide)

set_option maxRecDepth 100000 in
set_option maxHeartbeats 4000000 in
theorem rEncodeM {A : Option Addr} {n c : Nat} {S : List MsgV} {m : Nat} {x : MsgR} {se : Nat → MsgT → List UInt8} {rs : Nat → MsgT → Prop} {w : World} (hR : rightS (S.map MsgV.d) = true) (hs : SchemaAt w A n c S) (hx : TreeAt w x) (hr : RightJ rs (S.map MsgV.d) m (bare x)) (hl : (encC se (S.map MsgV.d) m (bare x)).flatten.length ≤ 1000000)
  (hp : ∀ v ∈ x.vals, ∀ (M : MsgV) (i : Nat) (f : FieldD), S[m]? = some M → M.d.fields[i]? = some f → RightF rs f (bareV v) → (valueE se f (bareV v)).flatten.length ≤ 1000000 → ∀ W : World, Ext w W → Calls Tryz.prog 83 #[.slice A n c, fieldV f, tvalV v] W (MakesB (valueE se f (bareV v)).flatten W)) :
  Calls Tryz.prog 37 #[.slice A n c, .int .i64 (m : Int), treeV x] w (MakesB (encC se (S.map MsgV.d) m (bare x)).flatten w) := by
 obtain ⟨MD, hMd, hpw, hvals, hunk⟩ := hr
 have hSl := hs.length
 have hml : m < n := by
  have := (List.getElem?_eq_some_iff.1 hMd).1
  rw [List.length_map] at this
  omega
 obtain ⟨b1, off1, M, hSA, hM, hf, hnm, hb1, s0, s1⟩ := hs.msg (k := m) hml
 subst hSA
 have hMM : MD = M.d := by rw [List.getElem?_map, hM] at hMd; exact (Option.some.inj hMd).symm
 subst hMM
 have hn1 : n ≤ 1000000 := by have := (rightS_inv hR).2.1; rw [List.length_map] at this; omega
 have hMn : M.n ≤ 1000000 := by have := (right_msg hR hMd).2.2.1; have := hf.length; omega
 obtain ⟨E, hE⟩ : ∃ E : ValR → List UInt8, E = fun v => match M.d.fields.find? (fun f : FieldD => f.number == v.number) with | none => [] | some f => (valueE se f (bareV v)).flatten := ⟨_, rfl⟩
 obtain ⟨T, hT⟩ : ∃ T, T = x.vals.map E := ⟨_, rfl⟩
 obtain ⟨U, hU⟩ : ∃ U, U = x.unk.map fun t => t.data.toList := ⟨_, rfl⟩
 have hall : (encC se (S.map MsgV.d) m (bare x)).flatten = T.flatten ++ U.flatten := by
  unfold encC
  rw [hMd, bare_eq]
  simp only
  rw [List.flatten_append, flat_map_flatten, hT, hU, hE]
  congr 2
  show ((x.vals.map bareV).map _) = _
  rw [List.map_map]
  refine List.map_congr_left fun v _ => ?_
  simp only [Function.comp]
  show (match M.d.fields.find? (fun f : FieldD => f.number == v.number) with | none => [] | some f => valueE se f (bareV v)).flatten = _
  rcases M.d.fields.find? (fun f : FieldD => f.number == v.number) with _ | f
  · rfl
  · rfl
 rw [hall] at hl ⊢
 rw [List.length_append] at hl
 have hTl : T.length = x.vals.length := by rw [hT, List.length_map]
 have hUl : U.length = x.unk.length := by rw [hU, List.length_map]
 have hTs : ∀ k v, x.vals[k]? = some v → ∃ (i : Nat) (f : FieldD), M.d.fields[i]? = some f ∧ i < M.n ∧ idxB (numP v.number) M.d.fields = (i : Nat) ∧ (T.take (k + 1)).flatten = (T.take k).flatten ++ (valueE se f (bareV v)).flatten ∧ (T.take k).flatten.length ≤ 1000000 ∧ (valueE se f (bareV v)).flatten.length ≤ 1000000 ∧
   ∀ W : World, Ext w W → Calls Tryz.prog 83 #[.slice (some ⟨b1, off1, none⟩) n c, fieldV f, tvalV v] W (MakesB (valueE se f (bareV v)).flatten W) := fun k v h => by
  have hvm := List.mem_of_getElem? h
  have hbm : bareV v ∈ (bare x).vals := by rw [bare_eq]; exact List.mem_map_of_mem hvm
  obtain ⟨i, f, hfi, hF⟩ := hvals _ hbm
  have hnum : v.number = f.number := hF.1
  have hidx : idxB (numP v.number) M.d.fields = (i : Nat) := by
   have := (right_field hR hMd hfi).2
   rw [← this, hnum]
   rfl
  have hfind : M.d.fields.find? (fun g => g.number == v.number) = some f := (find_of_idx (p := numP v.number) (l := M.d.fields)).2 i f hidx hfi
  have hEv : E v = (valueE se f (bareV v)).flatten := by rw [hE]; simp only; rw [hfind]
  have hm : T[k]? = some ((valueE se f (bareV v)).flatten) := by rw [hT, List.getElem?_map, h, ← hEv]; rfl
  have h1 := mem_flatten_le (List.mem_of_getElem? hm)
  have h2 := flat_upto (T := T) k
  have hi := (List.getElem?_eq_some_iff.1 hfi).1
  have := hf.length
  exact ⟨i, f, hfi, by omega, hidx, by rw [take_snoc _ _ _ hm, List.flatten_append]; simp, by omega, by omega, hp v hvm M i f hM hfi hF (by omega)⟩
 have hUs : ∀ k t, x.unk[k]? = some t → (U.take (k + 1)).flatten = (U.take k).flatten ++ t.data.toList ∧ (T.flatten ++ (U.take k).flatten).length ≤ 1000000 ∧ t.data.toList.length ≤ 1000000 := fun k t h => by
  have hm : U[k]? = some t.data.toList := by rw [hU, List.getElem?_map, h]; rfl
  have h1 := mem_flatten_le (List.mem_of_getElem? hm)
  have h2 := flat_upto (T := U) k
  exact ⟨by rw [take_snoc _ _ _ hm, List.flatten_append]; simp, by rw [List.length_append]; omega, by omega⟩
 have hfie := fun (W : World) (x I : Int) (h : Ext w W) (hi : Hid (idxB (numP x) M.d.fields = I)) => rFieldE (s := M.d.name) (x := x) (hf.up h) (show M.n ≤ 1000000000000 by omega) hi.out
 have HTs := Lib.hid hTs
 have HUs := Lib.hid hUs
 have HTl := Lib.hid hTl
 have HUl := Lib.hid hUl
 have Hfie := Lib.hid hfie
 have Hf := Lib.hid hf
 have Hx := Lib.hid hx
 have tcap := hx.vals.cap
 have scap := hx.unk.at_.cap
 have tmax := hx.vals.max
 have smax := hx.unk.at_.max
 unfold maxLen at tmax smax
 clear hTs hUs hTl hUl hfie hf hx hall hT hU hE hl hp hvals hunk hpw hMd hM hR hs
 unfold treeV at *
 go_enter Tryz.func37, Tryz.ntmps37
 go_wp2
 have BX := BlkT.new w 40 #[.slice x.a.1 x.vals.length x.a.2, .slice x.b.1 x.unk.length x.b.2] rfl
 have X0 : Ext w (w.alloc (.cells #[.slice x.a.1 x.vals.length x.a.2, .slice x.b.1 x.unk.length x.b.2] 40)) := (Ext.refl w).alloc _
 generalize w.alloc (.cells #[.slice x.a.1 x.vals.length x.a.2, .slice x.b.1 x.unk.length x.b.2] 40) = wx at *
 have x0 : wx.cell? ⟨w.heap.size, 0, none⟩ = some (.slice x.a.1 x.vals.length x.a.2) := BX.cell 0
 have x1 : wx.cell? ⟨w.heap.size, 1, none⟩ = some (.slice x.b.1 x.unk.length x.b.2) := BX.cell 1
 have xl := BX.lt
 have HBX := Lib.hid BX
 clear BX
 replace s0 := X0.of_cell s0
 replace s1 := X0.of_cell s1
 replace hb1 := Nat.lt_of_lt_of_le hb1 X0.size
 go_loopw [7, 8] (fun u i wr => ∃ (k : Nat) (V : Option Addr) (vn vc : Nat), k ≤ x.vals.length ∧ i = .int .i64 (k : Int) ∧ u = .slice V vn vc ∧ Hid (vn = (T.take k).flatten.length) ∧ Own wx wr 5 1 V vn vc ((T.take k).flatten.map bv)) (fun _ i _ => x.vals.length - (intOf i).toNat)
 case atStart => exact ⟨0, none, 0, 0, Nat.zero_le _, rfl, rfl, rfl, Own.nil (Ext.refl _) _ _⟩
 case round =>
  rename World => wr
  obtain ⟨k, V, vn, vc, hkk, rfl, rfl, hvn, ownr⟩ := hrel
  have Xr := ownr.ext
  have x0r := Xr.of_cell x0
  by_cases hlt : k < x.vals.length
  · have hltI : (k : Int) < x.vals.length := by omega
    obtain ⟨b5, off5, v, hA, hvk, hb5, e0, e1, e2, e3⟩ := valCells (Hx.out.vals.ext X0) hlt
    obtain ⟨i, f, hfi, hin, hidx, hs1, hs2, hs3, hcall⟩ := HTs.out k v hvk
    obtain ⟨b8, off8, f', hA8, hff, hok8, hb8, g0, g1, g2, g3, g4, g5⟩ := (Hf.out.up X0).field hin
    rw [hfi] at hff
    cases hff
    rw [hA] at x0r x0
    rw [hA8] at s1
    have hfie := Hfie.out
    rw [hA8] at hfie
    have Hfie2 := Lib.hid hfie
    have iI : (i : Int) < M.n := by omega
    rw [← hvn.out] at hs2
    unfold fieldV tvalV at hcall
    generalize hP : (valueE se f (bareV v)).flatten = P at *
    have Hs1 := Lib.hid hs1
    have Hcall := Lib.hid hcall
    have Hidx := Lib.hid hidx
    have Hown := Lib.hid ownr
    clear hs1 hcall hidx ownr hvk hfi hA hA8 hfie
    have mI : (m : Int) < n := by omega
    go_wp2
    go_region_held3 (fun W => Ext wx W ∧ ∀ b o, b < wx.heap.size → W.cell? ⟨b, o, none⟩ = wx.cell? ⟨b, o, none⟩) ((refine Ext.keep ?_; repeat with_reducible (first | assumption | exact Ext.refl _ | refine Ext.alloc ?_ _ | refine Ext.drew ?_ | refine Ext.drewN ?_ _ | refine Ext.setCell ?_ (by first | omega | (simp <;> omega)) _))) (first
     | (go_split_ands; go_at_call 49; refine (Hfie2.out _ _ _ (X0.trans (by with_reducible assumption)) Hidx).mono ?_; rintro e w5 ⟨rfl, E5⟩; have q5 : Ext wx w5 := Ext.trans (by with_reducible assumption) E5; have r5 : Ext wr w5 := Ext.trans (by repeat with_reducible (first | exact Ext.refl _ | refine Ext.alloc ?_ _ | refine Ext.drew ?_ | refine Ext.drewN ?_ _ | refine Ext.setCell ?_ (by first | omega | (simp <;> omega)) _)) E5)
     | (go_split_ands; go_at_call 83; refine (Hcall.out _ (X0.trans (by with_reducible assumption))).mono ?_; rintro e w6 ⟨A6, n6, c6, rfl, hn6, own6⟩; have q6 : Ext wx w6 := Ext.trans (by with_reducible assumption) own6.ext; have r6 : Ext wr w6 := Ext.trans (by repeat with_reducible (first | exact r5 | exact Ext.refl _ | refine Ext.alloc ?_ _ | refine Ext.drew ?_ | refine Ext.drewN ?_ _ | refine Ext.setCell ?_ (by first | omega | (simp <;> omega)) _)) own6.ext)
     | (refine step_more elemB (by rfl) (.tmp 17) (.tmp 42) (by rfl) (by rfl) (Hown.out.up (by repeat with_reducible (first | exact r6 | exact Ext.refl _ | refine Ext.alloc ?_ _ | refine Ext.drew ?_ | refine Ext.drewN ?_ _ | refine Ext.setCell ?_ (by first | omega | (simp <;> omega)) _))) (by rfl) (own6.reads.ext (by repeat with_reducible (first | exact Ext.refl _ | refine Ext.alloc ?_ _ | refine Ext.drew ?_ | refine Ext.drewN ?_ _ | refine Ext.setCell ?_ (by first | omega | (simp <;> omega)) _))) (bv_one _) (by have := hn6.out; omega) (by unfold maxLen; have := hn6.out; omega) ?_; intro A4 c4 w4 own4 g4; have q4 : Ext wx w4 := own4.ext))
    all_goals
     go_simp
     go_wp2
     go_roundw
     case rel =>
      refine ⟨k + 1, A4, vn + n6, c4, by omega, by go_num, rfl, ?_, ?_⟩
      · show _ = _
        rw [Hs1.out, List.length_append, ← hvn.out, hn6.out]
      · rw [Hs1.out, List.map_append]
        exact own4
     case measure => simp [intOf]; omega
  · have hge : ¬ ((k : Int) < x.vals.length) := by omega
    have hkT : (T.take k).flatten = T.flatten := by rw [List.take_of_length_le (by have := HTl.out; omega)]
    rw [hkT] at hvn ownr
    clear hkT
    go_wp2
    go_loopw [7, 9] (fun u i wr => ∃ (k : Nat) (V : Option Addr) (vn vc : Nat), k ≤ x.unk.length ∧ i = .int .i64 (k : Int) ∧ u = .slice V vn vc ∧ Hid (vn = (T.flatten ++ (U.take k).flatten).length) ∧ Own wx wr 5 1 V vn vc ((T.flatten ++ (U.take k).flatten).map bv)) (fun _ i _ => x.unk.length - (intOf i).toNat)
    case atStart => exact ⟨0, V, vn, vc, Nat.zero_le _, rfl, rfl, by show _ = _; rw [List.take_zero, List.flatten_nil, List.append_nil]; exact hvn.out, by rw [List.take_zero, List.flatten_nil, List.append_nil]; exact ownr⟩
    case round =>
     rename World => wq
     obtain ⟨j, V2, vn2, vc2, hj, rfl, rfl, hvn2, ownq⟩ := hrel
     have Xq := ownq.ext
     have x1q := Xq.of_cell x1
     by_cases hltj : j < x.unk.length
     · have hltI : (j : Int) < x.unk.length := by omega
       obtain ⟨b5, off5, t, hA, htk, hb5, hts, e0⟩ := (Hx.out.unk.up (X0.trans Xq)).text hltj
       rw [hA] at x1q
       obtain ⟨hs1, hs2, hs3⟩ := HUs.out j t htk
       rw [← hvn2.out] at hs2
       have Hs1 := Lib.hid hs1
       clear hs1 htk hA
       have hts2 : Hid (t.size = t.data.toList.length) := rfl
       go_wp2_with (at_builtin; refine wpList_text rfl (.tmp 51) (.tmp 56) rfl rfl (ownq.up (by repeat with_reducible (first | exact Ext.refl _ | refine Ext.alloc ?_ _ | refine Ext.drew ?_ | refine Ext.drewN ?_ _ | refine Ext.setCell ?_ (by first | omega | (simp <;> omega)) _))) rfl (by omega) ?_; intro A4 c4 w4 own4 g4)
       go_roundw
       case rel =>
        refine ⟨j + 1, A4, _, c4, by omega, by go_num, rfl, ?_, ?_⟩
        · show _ = _
          rw [Hs1.out, ← List.append_assoc, List.length_append, ← hvn2.out]
          first | done | rfl | exact congrArg (vn2 + ·) hts2.out
        · rw [Hs1.out, ← List.append_assoc]
          exact own4
       case measure => simp [intOf]; omega
     · have hge2 : ¬ ((j : Int) < x.unk.length) := by omega
       have hkU : (U.take j).flatten = U.flatten := by rw [List.take_of_length_le (by have := HUl.out; omega)]
       rw [hkU] at hvn2 ownq
       clear hkU
       go_wp2
       go_ret
       exact ⟨V2, vn2, vc2, rfl, hvn2, ownq.since X0⟩

end Go.Proofs.YtnnphodgegcddaaGreat

/- Contracts of layers 16 and 18: the reference's bytes of a right meaning, and of valid bytes. -/


namespace Go.Proofs.YtnnphodgegcddaaGreat
open Go.RowKit Go.Shelf
set_option linter.unusedVariables false

theorem rEncode {S : List MsgV} (hR : rightS (S.map MsgV.d) = true) : ∀ (d m : Nat) (x : MsgR) (w : World) (A : Option Addr) (n c : Nat), SchemaAt w A n c S → TreeAt w x → RightV (S.map MsgV.d) d m (bare x) → (encV (S.map MsgV.d) d m (bare x)).length ≤ 1000000 →
  Calls Tryz.prog 37 #[.slice A n c, .int .i64 (m : Int), treeV x] w (MakesB (encV (S.map MsgV.d) d m (bare x)) w)
 | 0, m, x, w, A, n, c, hs, hx, hr, hl => by
   have hr' : RightJ (fun _ _ => False) (S.map MsgV.d) m (bare x) := hr
   have e : encV (S.map MsgV.d) 0 m (bare x) = (encC (fun _ _ => []) (S.map MsgV.d) m (bare x)).flatten := by rw [encV]
   rw [e] at hl ⊢
   refine rEncodeM hR hs hx hr' hl (fun v hv M i f hM hf hF hvl W hW => ?_)
   have hMd : (S.map MsgV.d)[m]? = some M.d := by rw [List.getElem?_map, hM]; rfl
   obtain ⟨r2, r3⟩ := right_puts hR hMd hf
   refine rValue ((hx.val hv).up hW) hF r2 r3 hvl (fun h17 y hy => ?_)
   obtain ⟨_, _, _, h4⟩ := hF
   rcases h4 with ⟨q, _⟩ | ⟨_, _, q, _⟩ | ⟨_, _, _, q⟩
   · rw [h17] at q
     exact absurd q (by decide)
   · exact absurd h17 q
   · exact (q (bare y) (List.mem_map_of_mem hy)).elim
 | d + 1, m, x, w, A, n, c, hs, hx, hr, hl => by
   have hr' : RightJ (RightV (S.map MsgV.d) d) (S.map MsgV.d) m (bare x) := hr
   have e : encV (S.map MsgV.d) (d + 1) m (bare x) = (encC (encV (S.map MsgV.d) d) (S.map MsgV.d) m (bare x)).flatten := by rw [encV]
   rw [e] at hl ⊢
   refine rEncodeM hR hs hx hr' hl (fun v hv M i f hM hf hF hvl W hW => ?_)
   have hMd : (S.map MsgV.d)[m]? = some M.d := by rw [List.getElem?_map, hM]; rfl
   obtain ⟨r2, r3⟩ := right_puts hR hMd hf
   refine rValue ((hx.val hv).up hW) hF r2 r3 hvl (fun h17 y hy W' hW' => ?_)
   obtain ⟨o, ho, _⟩ := right_of hR hMd hf h17
   obtain ⟨_, _, _, h4⟩ := hF
   have hy' : bare y ∈ (bareV v).subs := List.mem_map_of_mem hy
   have hq : RightV (S.map MsgV.d) d f.of_.toNat (bare y) := by
    rcases h4 with ⟨q, _⟩ | ⟨_, _, q, _⟩ | ⟨_, _, _, q⟩
    · rw [h17] at q
      exact absurd q (by decide)
    · exact absurd h17 q
    · exact q (bare y) hy'
   have hyl : (encV (S.map MsgV.d) d f.of_.toNat (bare y)).length ≤ 1000000 := by
    have h1 := putB_more f.number (encV (S.map MsgV.d) d f.of_.toNat (bare y))
    have hm : putB f.number 2 (encV (S.map MsgV.d) d f.of_.toNat (bare y)) ∈ valueE (encV (S.map MsgV.d) d) f (bareV v) := by
     unfold valueE
     rw [if_neg (by rw [h17]; decide)]
     exact List.mem_append_right _ (List.mem_map_of_mem (f := fun y => putB f.number 2 (encV (S.map MsgV.d) d f.of_.toNat y)) hy')
    have h2 := mem_flatten_le hm
    omega
   rw [ho, Int.toNat_natCast] at hq hyl ⊢
   exact rEncode hR d o y W' A n c (hs.up (hW.trans hW')) (((hx.val hv).sub y hy).up (hW.trans hW')) hq hyl

end Go.Proofs.YtnnphodgegcddaaGreat
