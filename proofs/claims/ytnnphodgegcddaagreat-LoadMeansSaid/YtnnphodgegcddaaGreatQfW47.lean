/- Contracts of layer 20: the records of a load. (Printed by gen_lrecords.py.) -/
import Derived.Test.YtnnphodgegcddaaGreatQfS41
import Derived.Test.YtnnphodgegcddaaGreatQfW43
import Derived.Test.YtnnphodgegcddaaGreatQfW5
import Derived.Test.YtnnphodgegcddaaGreatQfW21
import Derived.Test.YtnnphodgegcddaaGreatQfS35
import Derived.Test.YtnnphodgegcddaaGreatQfW20s
import Derived.Test.YtnnphodgegcddaaGreatQfW37

namespace Go.Proofs.YtnnphodgegcddaaGreat
open Go.RowKit Go.Shelf
set_option linter.unusedVariables false
attribute [local go_sem] Oper.semAt_some

set_option maxRecDepth 100000 in
set_option maxHeartbeats 4000000 in
theorem lRecords_run {root i : Nat} {M : MsgD} {SA B : Option Addr} {sn sc m k : Nat} {S : List MsgV} {f : FieldD} {d : Int} {bs : List UInt8} {w : World} (hs : SchemaAt w SA sn sc S) (hb : BytesAt w B m k bs) (hR : rightS (S.map MsgV.d) = true) (hM : (S.map MsgV.d)[root]? = some M) (hf : M.fields[i]? = some f) (hm : m ≤ 1000) (h0 : codeL (S.map MsgV.d) f bs d = 0) (hr : runL f = true) :
  Calls Tryz.prog 40 #[.slice SA sn sc, fieldV f, .slice B m k, .int .i64 d] w fun e w' => ∃ A' n2 c2, e = .returned (.tuple #[.slice A' n2 c2, .int .u8 0]) ∧ Hid (n2 = (recordsL f bs).length) ∧ BytesAt w' A' n2 c2 (recordsL f bs) ∧ Ext w w' := by
 have hc := fun W (h : SchemaAt W SA sn sc S) (q : BytesAt W B m k bs) => lCheck (f := f) (d := d) h q (by omega)
 rw [h0] at hc
 have hp := fun W => lPacked (f := f) (w := W)
 have hr' := hr
 unfold runL at hr'
 rw [hr'] at hp
 have hlen := hb.length
 have r2 := right_two hR hM hf
 have hch : recordsL f bs = (if bs = [] then [] else putB f.number 2 bs) := by
  unfold recordsL chunksL
  rw [if_pos hr]
  split <;> simp
 have hlb : lenB f.number bs = putB f.number 2 bs := by
  unfold lenB
  rw [if_pos r2]
 have hL := fun W (h : BytesAt W B m k bs) => rLen (number := f.number) (BytesAt.nil W) (by omega) h (by omega)
 rw [hlb] at hL
 obtain ⟨R, hRR⟩ : ∃ R, R = recordsL f bs := ⟨_, rfl⟩
 rw [← hRR]
 rw [hch] at hRR
 obtain ⟨P, hP⟩ : ∃ P, P = putB f.number 2 bs := ⟨_, rfl⟩
 rw [← hP] at hL hRR
 have HRR := Lib.hid hRR
 have Hlen := Lib.hid hlen
 have Hc := Lib.hid hc
 have Hp := Lib.hid hp
 have HL := Lib.hid hL
 have HS := Lib.hid hs
 have HB := Lib.hid hb
 clear hc hp hL hs hb hr hr' hch hlb hRR hP hR hM hf h0 r2 hlen
 unfold fieldV
 unfold fieldV at Hc Hp
 have BF := BlkT.new w 48 #[.string f.name, .int .i64 f.number, .int .i64 f.kind, .bool f.rep, .bool f.packed, .int .i64 f.of_] rfl
 have X : Ext w (w.alloc (.cells #[.string f.name, .int .i64 f.number, .int .i64 f.kind, .bool f.rep, .bool f.packed, .int .i64 f.of_] 48)) := (Ext.refl w).alloc _
 by_cases h0 : m = 0
 · subst h0
   refine (callsIn_wide (n := 3)).1 ?_
   refine callsIn_of_wp_marks Tryz.func40 rfl trivial ?_ rfl
   simp only [Tryz.ntmps40, List.size_toArray, List.length_cons, List.length_nil, Nat.reduceAdd, Nat.reduceSub, Array.replicate_succ, Array.replicate_zero, List.push_toArray, List.append_toArray, List.nil_append, List.cons_append]
   gi_wp2_with fail
   generalize w.alloc (.cells #[.string f.name, .int .i64 f.number, .int .i64 f.kind, .bool f.rep, .bool f.packed, .int .i64 f.of_] 48) = wa at *
   have z50 : wa.cell? ⟨w.heap.size, 0, none⟩ = some (.string f.name) := BF.cell 0
   have z51 : wa.cell? ⟨w.heap.size, 1, none⟩ = some (.int .i64 f.number) := BF.cell 1
   have z52 : wa.cell? ⟨w.heap.size, 2, none⟩ = some (.int .i64 f.kind) := BF.cell 2
   have z53 : wa.cell? ⟨w.heap.size, 3, none⟩ = some (.bool f.rep) := BF.cell 3
   have z54 : wa.cell? ⟨w.heap.size, 4, none⟩ = some (.bool f.packed) := BF.cell 4
   have z55 : wa.cell? ⟨w.heap.size, 5, none⟩ = some (.int .i64 f.of_) := BF.cell 5
   gi_wp2_with (first
    | (refine ⟨trivial, ?_⟩; gi_at_call 39; refine (callsIn_wide.2 (Hc.out _ (HS.out.up X) (HB.out.up X))).mono ?_; rintro e w1 ⟨rfl, E1⟩; have X1 := X.trans E1; replace BF := BF.up E1; replace z50 := E1.of_cell z50; replace z51 := E1.of_cell z51; replace z52 := E1.of_cell z52; replace z53 := E1.of_cell z53; replace z54 := E1.of_cell z54; replace z55 := E1.of_cell z55)
    | (refine ⟨trivial, ?_⟩; gi_at_call 60; refine (callsIn_wide.2 (Hp.out _)).mono ?_; rintro e w2 ⟨rfl, E2⟩; have X2 := X1.trans E2; replace BF := BF.up E2; replace z50 := E2.of_cell z50; replace z51 := E2.of_cell z51; replace z52 := E2.of_cell z52; replace z53 := E2.of_cell z53; replace z54 := E2.of_cell z54; replace z55 := E2.of_cell z55))
   have hb0 : bs = [] := List.eq_nil_of_length_eq_zero Hlen.out
   exact ⟨_, by simp [results, Tryz.results40, go_sem], none, 0, 0, rfl, by show _ = _; rw [HRR.out, if_pos hb0]; rfl, by rw [HRR.out, if_pos hb0]; exact BytesAt.nil _, X2⟩
 · have hm0 : ¬ (m : Int) = 0 := by omega
   have hm1 : ((m : Int) == 0) = false := by rw [beq_eq_false_iff_ne]; exact hm0
   refine (callsIn_wide (n := 3)).1 ?_
   refine callsIn_of_wp_marks Tryz.func40 rfl trivial ?_ rfl
   simp only [Tryz.ntmps40, List.size_toArray, List.length_cons, List.length_nil, Nat.reduceAdd, Nat.reduceSub, Array.replicate_succ, Array.replicate_zero, List.push_toArray, List.append_toArray, List.nil_append, List.cons_append]
   gi_wp2_with fail
   generalize w.alloc (.cells #[.string f.name, .int .i64 f.number, .int .i64 f.kind, .bool f.rep, .bool f.packed, .int .i64 f.of_] 48) = wa at *
   have z50 : wa.cell? ⟨w.heap.size, 0, none⟩ = some (.string f.name) := BF.cell 0
   have z51 : wa.cell? ⟨w.heap.size, 1, none⟩ = some (.int .i64 f.number) := BF.cell 1
   have z52 : wa.cell? ⟨w.heap.size, 2, none⟩ = some (.int .i64 f.kind) := BF.cell 2
   have z53 : wa.cell? ⟨w.heap.size, 3, none⟩ = some (.bool f.rep) := BF.cell 3
   have z54 : wa.cell? ⟨w.heap.size, 4, none⟩ = some (.bool f.packed) := BF.cell 4
   have z55 : wa.cell? ⟨w.heap.size, 5, none⟩ = some (.int .i64 f.of_) := BF.cell 5
   gi_wp2_with (first
    | (refine ⟨trivial, ?_⟩; gi_at_call 39; refine (callsIn_wide.2 (Hc.out _ (HS.out.up X) (HB.out.up X))).mono ?_; rintro e w1 ⟨rfl, E1⟩; have X1 := X.trans E1; replace BF := BF.up E1; replace z50 := E1.of_cell z50; replace z51 := E1.of_cell z51; replace z52 := E1.of_cell z52; replace z53 := E1.of_cell z53; replace z54 := E1.of_cell z54; replace z55 := E1.of_cell z55)
    | (refine ⟨trivial, ?_⟩; gi_at_call 60; refine (callsIn_wide.2 (Hp.out _)).mono ?_; rintro e w2 ⟨rfl, E2⟩; have X2 := X1.trans E2; replace BF := BF.up E2; replace z50 := E2.of_cell z50; replace z51 := E2.of_cell z51; replace z52 := E2.of_cell z52; replace z53 := E2.of_cell z53; replace z54 := E2.of_cell z54; replace z55 := E2.of_cell z55)
    | (refine ⟨trivial, ?_⟩; gi_at_call 89; refine (callsIn_wide.2 (HL.out _ (HB.out.up X2))).mono ?_; rintro e w3 ⟨A3, c3, rfl, own3⟩; have X3 := X2.trans own3.ext))
   have hb0 : ¬ bs = [] := fun e => h0 (by have := Hlen.out; rw [e] at this; exact this.symm)
   refine ⟨_, by simp [results, Tryz.results40, go_sem]; rfl, A3, _, c3, rfl, ?_, ?_, X3⟩
   · show _ = _
     rw [HRR.out, if_neg hb0]
   · rw [HRR.out, if_neg hb0]
     simpa using own3.bytes

structure RecI (f : FieldD) (w wa : World) (b11 b13 : Nat) (vs : List RunV) (j : Nat) (W : World) : Prop where
 b5 : BlkT W w.heap.size 48 #[.string f.name, .int .i64 f.number, .int .i64 f.kind, .bool f.rep, .bool f.packed, .int .i64 f.of_]
 b11 : BlkT W b11 3 #[.int .i64 (wireI f.kind)]
 out : ∃ A n c, BlkT W b13 24 #[.slice A n c] ∧ BytesAt W A n c ((vs.take j).map fun v => putB f.number (wireI f.kind) v.bs).flatten ∧ ∀ b, UsesA A n b → wa.heap.size ≤ b
 ext : Ext w W
 size : wa.heap.size ≤ W.heap.size

theorem bytes_besides {W W' : World} {A : Option Addr} {n c b : Nat} {o : Obj} {bs : List UInt8} (h : BytesAt W A n c bs) (ho : W.heap[b]? = some o) (hc : o.isCells = false) (hO : Only b W W') : BytesAt W' A n c bs :=
 Reads.stays h (s := fun k => k ≠ b) (Stays.grown hO (fun k hk q => q (by injection hk with hk; exact hk.symm))) (fun k hk e => by
  subst e
  obtain ⟨o2, h2, h3⟩ := Reads.is_cells h (by omega) hk
  rw [ho] at h2
  cases h2
  rw [hc] at h3
  cases h3)

theorem bytes_onlyB {W W' : World} {A : Option Addr} {n c B : Nat} {bs : List UInt8} (h : BytesAt W A n c bs) (hO : Only B W W') (hu : ∀ b, UsesA A n b → b ≠ B) : BytesAt W' A n c bs :=
 Reads.stays h (s := fun k => k ≠ B) (Stays.grown hO (fun k hk q => q (by injection hk with hk; exact hk.symm))) hu

set_option maxRecDepth 100000 in
set_option maxHeartbeats 4000000 in
theorem lRecords_items {root i : Nat} {M : MsgD} {SA B : Option Addr} {sn sc m k : Nat} {S : List MsgV} {f : FieldD} {d : Int} {bs : List UInt8} {w : World} (hs : SchemaAt w SA sn sc S) (hb : BytesAt w B m k bs) (hR : rightS (S.map MsgV.d) = true) (hM : (S.map MsgV.d)[root]? = some M) (hf : M.fields[i]? = some f) (hm : m ≤ 1000) (h0 : codeL (S.map MsgV.d) f bs d = 0) (hr : runL f = false) :
  Calls Tryz.prog 40 #[.slice SA sn sc, fieldV f, .slice B m k, .int .i64 d] w fun e w' => ∃ A' n2 c2, e = .returned (.tuple #[.slice A' n2 c2, .int .u8 0]) ∧ Hid (n2 = (recordsL f bs).length) ∧ BytesAt w' A' n2 c2 (recordsL f bs) ∧ Ext w w' := by
 have hc := fun W (h : SchemaAt W SA sn sc S) (q : BytesAt W B m k bs) => lCheck (f := f) (d := d) h q (by omega)
 rw [h0] at hc
 have hp := fun W => lPacked (f := f) (w := W)
 have hr' := hr
 unfold runL at hr'
 rw [hr'] at hp
 have hlen := hb.length
 obtain ⟨_, _, _, hkb⟩ := right_number hR hM hf
 have hputs := item_puts hR hM hf h0 hr
 have hch : recordsL f bs = ((itemsL f.rep bs).map fun x => putB f.number (wireI f.kind) x.1).flatten := by
  unfold recordsL chunksL
  rw [if_neg (by rw [hr]; decide)]
 have ha := fun W (E : Ext w W) => lAll (f := f) hb E (by omega)
 have hwi : ∀ W, Calls Tryz.prog 90 #[.int .i64 f.kind] W fun e w' => e = .returned (.tuple #[.int .i64 (wireI f.kind), .int .u8 0]) ∧ Ext W w' := fun W => by
  have h := kWire f.kind W
  rw [if_pos hkb] at h
  have e : wireOr f.kind = wireI f.kind := by unfold wireOr; rw [if_pos hkb]
  rw [e] at h
  exact h
 have hput := fun W (A : Option Addr) (n c : Nat) (xs : List UInt8) (x : RunV) (h1 : BytesAt W A n c xs) (hn : n ≤ 1000000000) (h2 : BytesAt W x.A x.n x.c x.bs) (hx : x.n ≤ 1000000000) (h3 : (rightB f.number (wireI f.kind) && fitsV (wireI f.kind) x.bs) = true) => rPut h1 hn h2 hx h3
 obtain ⟨R, hRR⟩ : ∃ R, R = recordsL f bs := ⟨_, rfl⟩
 rw [← hRR]
 rw [hch] at hRR
 have HRR := Lib.hid hRR
 have Hlen := Lib.hid hlen
 have Hc := Lib.hid hc
 have Hp := Lib.hid hp
 have Ha := Lib.hid ha
 have Hwi := Lib.hid hwi
 have Hput := Lib.hid hput
 have Hputs := Lib.hid hputs
 have HS := Lib.hid hs
 have HB := Lib.hid hb
 clear hc hp hs hb hr hr' hch hRR hR hM hf h0 hlen ha hwi hput hputs hkb
 unfold fieldV
 unfold fieldV at Hc Hp Ha
 have BF := BlkT.new w 48 #[.string f.name, .int .i64 f.number, .int .i64 f.kind, .bool f.rep, .bool f.packed, .int .i64 f.of_] rfl
 have X : Ext w (w.alloc (.cells #[.string f.name, .int .i64 f.number, .int .i64 f.kind, .bool f.rep, .bool f.packed, .int .i64 f.of_] 48)) := (Ext.refl w).alloc _
 refine (callsIn_wide (n := 3)).1 ?_
 refine callsIn_of_wp_marks Tryz.func40 rfl trivial ?_ rfl
 simp only [Tryz.ntmps40, List.size_toArray, List.length_cons, List.length_nil, Nat.reduceAdd, Nat.reduceSub, Array.replicate_succ, Array.replicate_zero, List.push_toArray, List.append_toArray, List.nil_append, List.cons_append]
 gi_wp2_with fail
 generalize w.alloc (.cells #[.string f.name, .int .i64 f.number, .int .i64 f.kind, .bool f.rep, .bool f.packed, .int .i64 f.of_] 48) = wa at *
 have z50 : wa.cell? ⟨w.heap.size, 0, none⟩ = some (.string f.name) := BF.cell 0
 have z51 : wa.cell? ⟨w.heap.size, 1, none⟩ = some (.int .i64 f.number) := BF.cell 1
 have z52 : wa.cell? ⟨w.heap.size, 2, none⟩ = some (.int .i64 f.kind) := BF.cell 2
 have z53 : wa.cell? ⟨w.heap.size, 3, none⟩ = some (.bool f.rep) := BF.cell 3
 have z54 : wa.cell? ⟨w.heap.size, 4, none⟩ = some (.bool f.packed) := BF.cell 4
 have z55 : wa.cell? ⟨w.heap.size, 5, none⟩ = some (.int .i64 f.of_) := BF.cell 5
 gi_wp2_with (first
  | (refine ⟨trivial, ?_⟩; gi_at_call 39; refine (callsIn_wide.2 (Hc.out _ (HS.out.up X) (HB.out.up X))).mono ?_; rintro e w1 ⟨rfl, E1⟩; have X1 := X.trans E1; replace BF := BF.up E1; replace z50 := E1.of_cell z50; replace z51 := E1.of_cell z51; replace z52 := E1.of_cell z52; replace z53 := E1.of_cell z53; replace z54 := E1.of_cell z54; replace z55 := E1.of_cell z55)
  | (refine ⟨trivial, ?_⟩; gi_at_call 60; refine (callsIn_wide.2 (Hp.out _)).mono ?_; rintro e w2 ⟨rfl, E2⟩; have X2 := X1.trans E2; replace BF := BF.up E2; replace z50 := E2.of_cell z50; replace z51 := E2.of_cell z51; replace z52 := E2.of_cell z52; replace z53 := E2.of_cell z53; replace z54 := E2.of_cell z54; replace z55 := E2.of_cell z55)
  | (refine ⟨trivial, ?_⟩; gi_at_call 90; refine (callsIn_wide.2 (Hwi.out _)).mono ?_; rintro e w4 ⟨rfl, E4⟩; have X4 := X2.trans E4; replace BF := BF.up E4; have lf4 := BF.lt; replace z50 := E4.of_cell z50; replace z51 := E4.of_cell z51; replace z52 := E4.of_cell z52; replace z53 := E4.of_cell z53; replace z54 := E4.of_cell z54; replace z55 := E4.of_cell z55)
  | (refine ⟨trivial, ?_⟩; gi_at_call 85; refine (callsIn_wide.2 (Ha.out _ (Ext.trans X4 (by repeat with_reducible (first | exact Ext.refl _ | refine Ext.alloc ?_ _ | refine Ext.drew ?_ | refine Ext.drewN ?_ _ | refine Ext.setCell ?_ (by first | omega | (simp <;> omega)) _))))).mono ?_; rintro e w3 ⟨gf, lb, B0, vs, rfl, eg, hV, hit, hB1, hB2, E3⟩; have EB : Ext w4 w3 := Ext.trans (by repeat with_reducible (first | exact Ext.refl _ | refine Ext.alloc ?_ _ | refine Ext.drew ?_ | refine Ext.drewN ?_ _ | refine Ext.setCell ?_ (by first | omega | (simp <;> omega)) _)) E3; have B11 := (((BlkT.new w4 3 #[.int .i64 (wireI f.kind)] rfl).alloc _).up E3); have B13 := ((BlkT.new (w4.alloc (.cells #[.int .i64 (wireI f.kind)] 3)) 24 #[.slice none 0 0] (show w4.heap.size + 1 = _ by simp)).up E3)))
 have hb11 := B11.lt
 have hB1' : w4.heap.size + 2 ≤ B0 := by simpa using hB1
 have hb13 := B13.lt
 have hw4 := X4.size
 have hsz3 := EB.size
 have hcnt : vs.length ≤ m + 1 := by have := itemsL_len f.rep bs; rw [← hV.list, List.length_map, Hlen.out] at this; exact this
 have hsml : ∀ v ∈ vs, v.n ≤ 1000 ∧ v.bs.length = v.n ∧ (rightB f.number (wireI f.kind) && fitsV (wireI f.kind) v.bs) = true := fun v hv => by
  have h1 := hV.each v hv
  refine ⟨by omega, h1.1.length, Hputs.out (v.bs, v.e) ?_⟩
  rw [← hV.list]
  exact List.mem_map.2 ⟨v, hv, rfl⟩
 have hbnd : ∀ j, (((vs.take j).map fun v => putB f.number (wireI f.kind) v.bs).flatten).length ≤ 2000000 := fun j => by
  have h1 := flat_bd (l := vs.take j) (g := fun v => putB f.number (wireI f.kind) v.bs) (B := 1015) (fun v hv => by
   obtain ⟨a1, a2, a3⟩ := hsml v (List.mem_of_mem_take hv)
   rw [Bool.and_eq_true] at a3
   have := putB_length a3.1 (v := v.bs) (by omega)
   omega)
  have h2 : (vs.take j).length ≤ 1001 := by rw [List.length_take]; omega
  have h3 : (vs.take j).length * 1015 ≤ 1001 * 1015 := Nat.mul_le_mul_right _ h2
  omega
 have Hsml := Lib.hid hsml
 have Hbnd := Lib.hid hbnd
 clear hsml hbnd
 refine wp_range (w := w3) rfl eg hit (fun b h => by omega) hB2 (fun _ => rfl)
  (RecI f w w3 w4.heap.size (w4.heap.size + 1) vs) (fun _ _ => False)
  (fun j x a₁ W => RecI f w w3 w4.heap.size (w4.heap.size + 1) vs j W ∧ ∃ b14, BlkT W b14 145 #[.slice x.A x.n x.c, .int .u8 (x.e : Int)] ∧ w3.heap.size ≤ b14 ∧ a₁ = { tmps := #[.slice SA sn sc, .agg #[.string f.name, .int .i64 f.number, .int .i64 f.kind, .bool f.rep, .bool f.packed, .int .i64 f.of_], .slice B m k, .int .i64 d, undef, .pointer (some ⟨w.heap.size, 0, none⟩), undef, undef, .slice none 0 0, .int .u8 0, .int .u8 0, .pointer (some ⟨w4.heap.size, 0, none⟩), .int .u8 0, .pointer (some ⟨w4.heap.size + 1, 0, none⟩), .pointer (some ⟨b14, 0, none⟩), .slice SA sn sc, .agg #[.string f.name, .int .i64 f.number, .int .i64 f.kind, .bool f.rep, .bool f.packed, .int .i64 f.of_], .slice B m k, .int .i64 d, .int .u8 0, .int .u8 0, .bool false, undef, .agg #[.string f.name, .int .i64 f.number, .int .i64 f.kind, .bool f.rep, .bool f.packed, .int .i64 f.of_], .bool false, undef, undef, undef, undef, undef, undef, undef, .tuple #[.int .i64 (wireI f.kind), .int .u8 0], .pointer (some ⟨w.heap.size, 2, none⟩), .int .i64 f.kind, .tuple #[.int .i64 (wireI f.kind), .int .u8 0], .int .i64 (wireI f.kind), .int .u8 0, .agg #[.string f.name, .int .i64 f.number, .int .i64 f.kind, .bool f.rep, .bool f.packed, .int .i64 f.of_], .slice B m k, .func (.func gf) #[] lb, runV x, undef, undef, undef, undef, undef, undef, undef, undef, undef, undef, undef], defers := [] })
  (fun j W h => h.size) ?hI ?hIB ?hIx ?hIxB ?hA ⟨BF.up EB, B11, ⟨none, 0, 0, B13, BytesAt.nil _, fun b h => absurd h.1 (Nat.lt_irrefl 0)⟩, X4.trans EB, Nat.le_refl _⟩ ?assign ?body ?done ?stop
 case hI =>
  intro j W W' b o h hb2 ho hc hO
  obtain ⟨A2, n2, c2, q1, q2, q3⟩ := h.out
  exact ⟨h.b5.besides ho hc hO, h.b11.besides ho hc hO, ⟨A2, n2, c2, q1.besides ho hc hO, bytes_besides q2 ho hc hO, q3⟩, hO.toExt h.ext (by omega), Nat.le_trans h.size hO.size⟩
 case hIB =>
  intro j W W' h hO
  obtain ⟨A2, n2, c2, q1, q2, q3⟩ := h.out
  exact ⟨h.b5.onlyB hO (by omega), h.b11.onlyB hO (by omega), ⟨A2, n2, c2, q1.onlyB hO (by omega), bytes_onlyB q2 hO (fun b hb => by have := q3 b hb; omega), q3⟩, hO.toExt h.ext (by omega), Nat.le_trans h.size hO.size⟩
 case hIx => exact fun _ _ _ _ _ h => h.elim
 case hIxB => exact fun _ _ _ h => h.elim
 case hA =>
  rintro j x a₁ W W' b o ⟨h, b14, h14, hl, rfl⟩ hb2 ho hc hO
  obtain ⟨A2, n2, c2, q1, q2, q3⟩ := h.out
  exact ⟨⟨h.b5.besides ho hc hO, h.b11.besides ho hc hO, ⟨A2, n2, c2, q1.besides ho hc hO, bytes_besides q2 ho hc hO, q3⟩, hO.toExt h.ext (by omega), Nat.le_trans h.size hO.size⟩, b14, h14.besides ho hc hO, hl, rfl⟩
 case assign =>
  intro l j x W K h hx hK
  unfold runV
  gi_wp2
  refine hK _ _ ⟨?_, W.heap.size, BlkT.new W _ _ rfl, h.size, rfl⟩ (Ext.alloc (Ext.refl W) _)
  obtain ⟨A2, n2, c2, q1, q2, q3⟩ := h.out
  exact ⟨h.b5.alloc _, h.b11.alloc _, ⟨A2, n2, c2, q1.alloc _, q2.up ((Ext.refl W).alloc _), q3⟩, h.ext.alloc _, Nat.le_trans h.size (by simp)⟩
 case body =>
  rintro l j x a₁ W ⟨h, b14, h14, hl, rfl⟩ hx
  have y0 : W.cell? ⟨b14, 0, none⟩ = some (.slice x.A x.n x.c) := h14.cell 0
  have yl := h14.lt
  obtain ⟨A2, n2, c2, q1, q2, q3⟩ := h.out
  obtain ⟨a1, a2, a3⟩ := Hsml.out x (List.mem_of_getElem? hx)
  have hbx : BytesAt W x.A x.n x.c x.bs := ((hV.each x (List.mem_of_getElem? hx)).1).up h.ext
  have hbj := Hbnd.out j
  rw [q2.length] at hbj
  have hcall := Hput.out W A2 n2 c2 _ x q2 (by omega) hbx (by omega) a3
  have u51 : W.cell? ⟨w.heap.size, 1, none⟩ = some (.int .i64 f.number) := h.b5.cell 1
  have l5 := h.b5.lt
  have u11 := h.b11.cell 0
  have l11 := h.b11.lt
  have u13 := q1.cell 0
  have u13f := q1.free 0
  have l13 := q1.lt
  have H := Lib.hid h
  have Hx := Lib.hid hx
  have Q1 := Lib.hid q1
  have Q2 := Lib.hid q2
  have Hcall := Lib.hid hcall
  have hWs := h.size
  clear h h14 hx q1 q2 q3 hcall z50 z51 z52 z53 z54 z55 hit B11 B13 BF a2 a3
  gi_wp2_with (first
   | (refine ⟨trivial, ?_⟩; gi_at_call 91; refine (CallsIn.inRound l (callsIn_wide.2 Hcall.out)).mono ?_; rintro e w5 ⟨A5, c5, rfl, own5⟩; have v13 := (Q1.out.up own5.ext).cell 0; have v13f := (Q1.out.up own5.ext).free 0; have v13l := (Q1.out.up own5.ext).lt))
  have h := H.out
  have hx5 := own5.ext.size
  refine ⟨(keeps_ext own5.ext).trans (KeepsOthers.setCell _ _ _), fun b hb => (Below.heap_setCell _ ⟨w4.heap.size + 1, 0, none⟩ _ b (by show b ≠ w4.heap.size + 1; omega)).trans (own5.ext.block b (by omega)), ?_⟩
  refine ⟨(h.b5.up own5.ext).far (p := ⟨w4.heap.size + 1, 0, none⟩) (by show w.heap.size ≠ w4.heap.size + 1; omega) _, (h.b11.up own5.ext).far (p := ⟨w4.heap.size + 1, 0, none⟩) (by show w4.heap.size ≠ w4.heap.size + 1; omega) _, ⟨A5, _, c5, ?_, ?_, fun b hb => Nat.le_trans hWs (own_new own5 b hb)⟩, (h.ext.trans own5.ext).setCell (p := ⟨w4.heap.size + 1, 0, none⟩) (by show w.heap.size ≤ w4.heap.size + 1; omega) _, by have := h.size; simp; omega⟩
  · have := (Q1.out.up own5.ext).set_ 0 (.slice A5 (n2 + (putB f.number (wireI f.kind) x.bs).length) c5)
    simpa using this
  · have e : (((vs.take (j + 1)).map fun v => putB f.number (wireI f.kind) v.bs).flatten) = ((vs.take j).map fun v => putB f.number (wireI f.kind) v.bs).flatten ++ putB f.number (wireI f.kind) x.bs := by
     rw [take_snoc _ _ _ Hx.out]
     simp
    rw [e]
    exact Reads.stays (s := fun b => b ≠ w4.heap.size + 1) own5.bytes ((Stays.refl _ w5).set (p := ⟨w4.heap.size + 1, 0, none⟩) (fun q => q rfl) _) (fun b hb => by have := own_new own5 b hb; omega)
 case done =>
  intro D W hD h hK
  obtain ⟨A2, n2, c2, q1, q2, q3⟩ := h.out
  have u13 := q1.cell 0
  have l13 := q1.lt
  have H := Lib.hid h
  have HK := Lib.hid hK
  have Q2 := Lib.hid q2
  clear h hK q1 q2 q3 z50 z51 z52 z53 z54 z55 hit B11 B13 BF
  gi_wp2
  have h := H.out
  have e : R = ((vs.take vs.length).map fun v => putB f.number (wireI f.kind) v.bs).flatten := by
   rw [HRR.out, List.take_length, ← hV.list, List.map_map]
   rfl
  refine ⟨by simp, .inl ⟨_, _, rfl, run_takeDeferred (b := D) (ds := []) HK.out, ⟨_, by simp [results, Tryz.results40, go_sem], A2, n2, c2, rfl, ?_, ?_, (only_putObj _ _ _).toExt h.ext (by omega)⟩⟩⟩
  · show _ = _
    rw [e]
    exact Q2.out.length.symm
  · rw [e]
    exact bytes_besides Q2.out HK.out rfl (only_putObj _ _ _)
 case stop => exact fun _ _ _ _ h _ => h.elim

end Go.Proofs.YtnnphodgegcddaaGreat

/- Plain words of LoadMeans: how long the load of a load's value is, and that it means the same. No program is named. -/




namespace Go.Proofs.YtnnphodgegcddaaGreat
open Go.RowKit
open Go.Lib (uvarint)
set_option linter.unusedVariables false

theorem long_ofM {S : List MsgD} {sub : Nat → List UInt8 → MsgT} {m : Nat} {bs : List UInt8} {B : Nat} (hb : bs.length ≤ B) (h : ∀ m' b', b'.length < bs.length → LongT B (sub m' b')) : LongT B (ofM sub S m bs) := by
 unfold ofM
 split
 · exact .mk _ (fun t ht => by cases ht) (fun v hv => by cases hv) (fun v hv => by cases hv)
 · rename_i M hM
   have hall : ∀ v ∈ (sortK (keyF M.fields) M.fields.length).filterMap (placeO sub M.fields bs (viewsV M.fields bs).1), ∃ i f, M.fields[i]? = some f ∧ viewsO (viewsV M.fields bs).1 i ≠ [] ∧ v = valueU sub f ((viewsO (viewsV M.fields bs).1 i).flatMap (wordsO f bs)) ((viewsO (viewsV M.fields bs).1 i).flatMap (piecesO f bs)) := fun v hv => by
    obtain ⟨i, _, hi⟩ := List.mem_filterMap.1 hv
    obtain ⟨f, h1, h2, h3, _⟩ := place_some hi
    exact ⟨i, f, h1, h2, h3⟩
   refine .mk _ (fun t ht => ?_) (fun v hv t ht => ?_) (fun v hv y hy => ?_)
   · obtain ⟨u, hu, rfl⟩ := List.mem_map.1 ht
     have hm := (List.mem_filter.1 hu).1
     have := (view_bd hm).2.2
     show (spanB bs u.r.f u.r.t).length ≤ B
     rw [spanB_length bs (by omega)]
     omega
   · obtain ⟨i, f, hf, hne, rfl⟩ := hall v hv
     have ht' : t ∈ (if f.kind = 17 then [] else (ppiecesO f ((viewsO (viewsV M.fields bs).1 i).flatMap (piecesO f bs))).map textO) := ht
     split at ht'
     · cases ht'
     · obtain ⟨x, hx, rfl⟩ := List.mem_map.1 ht'
       rw [ppieces_eq] at hx
       have := fpiece_small hf hne hx
       show x.length ≤ B
       omega
   · obtain ⟨i, f, hf, hne, rfl⟩ := hall v hv
     have hy' : y ∈ (if f.kind = 17 then (ppiecesO f ((viewsO (viewsV M.fields bs).1 i).flatMap (piecesO f bs))).map (sub f.of_.toNat) else []) := hy
     split at hy'
     · obtain ⟨x, hx, rfl⟩ := List.mem_map.1 hy'
       rw [ppieces_eq] at hx
       have := fpiece_small hf hne hx
       exact h _ _ (by omega)
     · cases hy'

theorem long_of {S : List MsgD} {B : Nat} : ∀ (d m : Nat) (bs : List UInt8), bs.length ≤ B → LongT B (ofV S d m bs)
 | 0, m, bs, h => long_ofM h (fun m' b' _ => .mk _ (fun t ht => by cases ht) (fun v hv => by cases hv) (fun v hv => by cases hv))
 | d + 1, m, bs, h => long_ofM h (fun m' b' hb => long_of d m' b' (by omega))

section
variable {S : List MsgD} {m i : Nat} {M : MsgD} {f : FieldD}

theorem load_args {bs : List UInt8} {d : Int} (hc : codeL S f bs d = 0) : argsL S f d = 0 := by
 by_cases h0 : argsL S f d = 0
 · exact h0
 · rw [codeL_bad h0] at hc
   exact absurd hc h0

theorem args_not_bad {d : Int} (hR : rightS S = true) (h : argsL S f d = 0) : ¬ badL S.length f d := fun q => by
 rw [argsL_bad hR q] at h
 cases h

theorem load_parts (hR : rightS S = true) {bs : List UInt8} {d : Int} (hc : codeL S f bs d = 0) (hl : bs.length ≤ 1000) (hn : numberB f.kind = false) :
  ∃ g : List UInt8 × Nat → List UInt8, partsL S d.toNat f (valueL S f bs d) = (itemsL f.rep bs).map g ∧ ∀ x ∈ itemsL f.rep bs, (g x).length ≤ 32 * x.1.length := by
 have h0 := load_args hc
 have hr : runL f = false := by
  unfold runL
  rw [hn]
  simp
 rw [valueL_other hr hn]
 rw [codeL_items h0 hr] at hc
 have hfine := firstL_fine hc
 by_cases h17 : f.kind = 17
 · rw [if_pos h17]
   refine ⟨fun x => encV S d.toNat f.of_.toNat (OfT S f.of_ x.1 d), ?_, fun x hx => ?_⟩
   · unfold partsL
     simp only [List.map_nil, List.nil_append, List.map_map]
     rfl
   · have hx1 := itemsL_mem_le hx
     have hcb := (one_fine (hfine x hx).2).2.2 h17
     obtain ⟨_, hof, hof2, _, _, hfv⟩ := check_right hcb
     have e : OfT S f.of_ x.1 d = ofV S x.1.length f.of_.toNat x.1 := by
      unfold OfT
      rw [if_pos hcb]
     have hml : f.of_.toNat < S.length := by omega
     show (encV S d.toNat f.of_.toNat (OfT S f.of_ x.1 d)).length ≤ 32 * x.1.length
     rw [e]
     have h4 := of_right hR d.toNat x.1.length f.of_.toNat x.1 hml hfv (Nat.le_refl _)
     rw [← encV_fuel hR h4 (show d.toNat ≤ d.toNat + x.1.length by omega), ofV_fuel S x.1.length (d.toNat + x.1.length) _ _ (Nat.le_refl _) (by omega)]
     exact enc_small hR _ _ _ (by omega)
 · rw [if_neg h17]
   refine ⟨fun x => x.1, ?_, fun x hx => (by show x.1.length ≤ 32 * x.1.length; omega)⟩
   unfold partsL
   simp only [List.map_nil, List.append_nil, List.map_map]
   rfl

theorem load_parts_size (hR : rightS S = true) {bs : List UInt8} {d : Int} (hc : codeL S f bs d = 0) (hl : bs.length ≤ 1000) (hn : numberB f.kind = false) :
  (∀ b ∈ partsL S d.toNat f (valueL S f bs d), b.length ≤ 32000) ∧ (((partsL S d.toNat f (valueL S f bs d)).map (partL f.rep)).flatten).length ≤ 40000 ∧ (partsL S d.toNat f (valueL S f bs d)).length ≤ 1001 := by
 obtain ⟨g, e, hg⟩ := load_parts hR hc hl hn
 rw [e]
 refine ⟨fun b hb => ?_, ?_, ?_⟩
 · obtain ⟨x, hx, rfl⟩ := List.mem_map.1 hb
   have := hg x hx
   have := itemsL_mem_le hx
   omega
 · have h1 := flat_sum (g := fun x => partL f.rep (g x)) (c := fun x => 1 + x.1.length) (l := itemsL f.rep bs) (fun x hx => by
    have := hg x hx
    have h2 := itemsL_mem_le hx
    have := partL_length f.rep (b := g x) (by omega)
    show (partL f.rep (g x)).length ≤ 32 * (1 + x.1.length)
    omega)
   have h2 := itemsL_sum f.rep bs
   rw [List.flatMap_def] at h1
   rw [List.map_map]
   exact Nat.le_trans h1 (by omega)
 · rw [List.length_map]
   have := itemsL_len f.rep bs
   omega

theorem load_words (S : List MsgD) (f : FieldD) (bs : List UInt8) (d : Int) : (valueL S f bs d).words.length ≤ bs.length + 1 ∧ ∀ x ∈ (valueL S f bs d).words, x < 18446744073709551616 := by
 unfold valueL
 split
 · refine ⟨?_, fun x hx => ?_⟩
   · rw [List.length_map]
     exact valsV_len f.kind bs
   · obtain ⟨u, _, rfl⟩ := List.mem_map.1 hx
     exact (readS_bd _ _).1
 · split
   · refine ⟨?_, fun x hx => ?_⟩
     · rw [List.length_map]
       exact itemsL_len f.rep bs
     · obtain ⟨u, _, rfl⟩ := List.mem_map.1 hx
       exact (readS_bd _ _).1
   · split
     · exact ⟨Nat.zero_le _, fun x hx => by cases hx⟩
     · exact ⟨Nat.zero_le _, fun x hx => by cases hx⟩

theorem load_back_size (hR : rightS S = true) {bs : List UInt8} {d : Int} (hc : codeL S f bs d = 0) (hl : bs.length ≤ 1000) : (fromL S d.toNat f (valueL S f bs d)).length ≤ 40000 := by
 unfold fromL
 split
 · obtain ⟨h1, h2⟩ := load_words S f bs d
   have := packW_le f.kind _ h2
   omega
 · rename_i hn
   exact (load_parts_size hR hc hl (by simpa using hn)).2.1

theorem load_back (hR : rightS S = true) (hM : S[m]? = some M) (hf : M.fields[i]? = some f) {bs : List UInt8} {d : Int} (hc : codeL S f bs d = 0) (hl : bs.length ≤ 1000) (hm : manyU (valueL S f bs d) ≠ 0) :
  codeL S f (fromL S d.toNat f (valueL S f bs d)) d = 0 ∧ valueL S f (fromL S d.toNat f (valueL S f bs d)) d = valueL S f bs d := by
 have hx := load_fits hR hM hf hc (by omega) hm
 refine from_back hR (load_args hc) hx (fun p hp => ?_)
 rcases hn : numberB f.kind with _ | _
 · exact Nat.le_trans ((load_parts_size hR hc hl hn).1 p hp) (by decide)
 · obtain ⟨_, _, _, h⟩ := hx
   rcases h with ⟨_, ht, hs, _⟩ | ⟨q, _⟩ | ⟨q, _⟩
   · unfold partsL at hp
     rw [ht, hs] at hp
     cases hp
   · rw [hn] at q
     cases q
   · exact absurd q (number_17 hn)

theorem load_code (hR : rightS S = true) (hM : S[m]? = some M) (hf : M.fields[i]? = some f) {bs : List UInt8} {d : Int} (hc : codeL S f bs d = 0) (hl : bs.length ≤ 1000) (hm : manyU (valueL S f bs d) ≠ 0) : codeFL S f (valueL S f bs d) = 0 := by
 obtain ⟨hnum, hmany, hone, h⟩ := load_fits hR hM hf hc (by omega) hm
 have hb := args_not_bad hR (load_args hc)
 unfold badL at hb
 have h0 : argsL S f 0 = 0 := argsL_fine hR (fun q => hb (by
  unfold badL at q
  rcases q with q | q | q | q | q | q
  · exact .inl q
  · exact .inr (.inl q)
  · exact .inr (.inr (.inl q))
  · omega
  · omega
  · exact .inr (.inr (.inr (.inr (.inr q))))))
 refine codeFL_fine h0 (.inl ⟨hmany, hone, ?_⟩)
 rcases h with ⟨a, b, c, e⟩ | ⟨a, b, c, e, g, k⟩ | ⟨a, b, c, e⟩
 · exact .inl ⟨a, b, c, fun w hw => (e w hw).2⟩
 · exact .inr (.inl ⟨a, b, c, e, g, k⟩)
 · refine .inr (.inr ⟨a, b, c, fun y hy => ⟨?_, d.toNat, e y hy⟩⟩)
   by_cases q : 0 ≤ f.of_
   · exact q
   · exact absurd (.inr (.inr (.inr (.inr (.inr ⟨a, .inl (by omega)⟩))))) hb

theorem load_lens (hR : rightS S = true) {bs : List UInt8} {d : Int} (hl : bs.length ≤ 1000) : FitV 1000000000000 1000000000 (valueL S f bs d) := by
 have h1 := valsV_len f.kind bs
 have h2 := itemsL_len f.rep bs
 unfold valueL
 split
 · refine ⟨⟨?_, Nat.zero_le _, Nat.zero_le _⟩, fun t ht => (by cases ht), fun y hy => (by cases hy)⟩
   rw [List.length_map]
   omega
 · split
   · refine ⟨⟨?_, Nat.zero_le _, Nat.zero_le _⟩, fun t ht => (by cases ht), fun y hy => (by cases hy)⟩
     rw [List.length_map]
     omega
   · split
     · refine ⟨⟨Nat.zero_le _, Nat.zero_le _, ?_⟩, fun t ht => (by cases ht), fun y hy => ?_⟩
       · rw [List.length_map]
         omega
       · obtain ⟨x, hx, rfl⟩ := List.mem_map.1 hy
         have hx1 := itemsL_mem_le hx
         unfold OfT
         split
         · exact ⟨fit_of hR _ _ _ (by omega), long_of _ _ _ (by omega)⟩
         · exact ⟨.mk _ (Nat.zero_le _) (Nat.zero_le _) (fun v hv => by cases hv) (fun v hv => by cases hv), .mk _ (fun t ht => by cases ht) (fun v hv => by cases hv) (fun v hv => by cases hv)⟩
     · refine ⟨⟨Nat.zero_le _, ?_, Nat.zero_le _⟩, fun t ht => ?_, fun y hy => (by cases hy)⟩
       · rw [List.length_map]
         omega
       · obtain ⟨x, hx, rfl⟩ := List.mem_map.1 ht
         have hx1 := itemsL_mem_le hx
         show x.1.length ≤ _
         omega
end

end Go.Proofs.YtnnphodgegcddaaGreat

/- Contracts of layer 20: the load of a value, its parts' lengths told. -/




namespace Go.Proofs.YtnnphodgegcddaaGreat
open Go.RowKit Go.Shelf
set_option linter.unusedVariables false

theorem lFrom_okB {A : Option Addr} {n c D : Nat} {S : List MsgV} {f : FieldD} {v : ValR} {w : World} (hs : SchemaAt w A n c S) (hv : ValAt w v) (hF : FitV 1000000000000 1000000000 (bareV v)) (hwl : v.words.length ≤ 1000000000) (hp : numberB f.kind = false → (∀ b ∈ partsL (S.map MsgV.d) D f (bareV v), b.length ≤ 1000000) ∧ (((partsL (S.map MsgV.d) D f (bareV v)).map (partL f.rep)).flatten).length ≤ 1000000 ∧ (partsL (S.map MsgV.d) D f (bareV v)).length ≤ 1000000) (h : codeFL (S.map MsgV.d) f (bareV v) = 0) (hD : ∀ y ∈ (bareV v).subs, RightV (S.map MsgV.d) D f.of_.toNat y) :
  Calls Tryz.prog 21 #[.slice A n c, fieldV f, tvalV v] w fun e w' => ∃ A' n2 c2, e = .returned (.tuple #[.slice A' n2 c2, .int .u8 0]) ∧ Hid (n2 = (fromL (S.map MsgV.d) D f (bareV v)).length) ∧ BytesAt w' A' n2 c2 (fromL (S.map MsgV.d) D f (bareV v)) ∧ Ext w w' := by
 rcases codeFL_cases (S := S.map MsgV.d) (f := f) (v := bareV v) with ⟨h0, e⟩ | ⟨h0, _, _, e⟩ | ⟨h0, h1, _⟩
 · rw [e] at h
   exact absurd h h0
 · rw [e] at h
   cases h
 have hR : rightS (S.map MsgV.d) = true := by
  rcases hR : rightS (S.map MsgV.d) with _ | _
  · rw [argsL_ill hR] at h0
    cases h0
  · rfl
 rcases hk : numberB f.kind with _ | _
 · have e : fromL (S.map MsgV.d) D f (bareV v) = ((partsL (S.map MsgV.d) D f (bareV v)).map (partL f.rep)).flatten := by
    unfold fromL
    rw [if_neg (by rw [hk]; decide)]
   rw [e]
   obtain ⟨p1, p2, p3⟩ := hp hk
   by_cases hfit : FitP (S.map MsgV.d) f (bareV v)
   · refine lFrom_parts (se := fun y => encV (S.map MsgV.d) D f.of_.toNat (bare y)) hs hv hF h0 hfit hk ?_ ?_ p1 p2 p3
     · unfold partsL bareV
       simp only [List.map_map]
       rfl
     · intro y hy W hs2 hy2
       have hyb : bare y ∈ (bareV v).subs := List.mem_map_of_mem hy
       have hRI : RI (S.map MsgV.d) f.of_ (bare y) := by
        rcases FitP.kinds (.inl hfit) with ⟨_, _, q⟩ | ⟨_, _, q⟩ | ⟨_, _, q⟩
        · rw [q] at hyb
          cases hyb
        · exact q _ hyb
        · rw [q] at hyb
          cases hyb
       have hRV := hD _ hyb
       obtain ⟨M, hM⟩ := rightV_msg hRV
       have hm : f.of_.toNat < n := by
        have := (List.getElem?_eq_some_iff.1 hM).1
        rw [List.length_map, hs2.length] at this
        exact this
       have h4 : (encV (S.map MsgV.d) D f.of_.toNat (bare y)).length ≤ 1000000 := p1 _ (List.mem_append_right _ (List.mem_map.2 ⟨_, hyb, rfl⟩))
       have hfs := hF.subs y hy
       have ho : ((f.of_.toNat : Nat) : Int) = f.of_ := by have := hRI.1; omega
       have hc := cEncode (w := W) (m := f.of_.toNat) hR hm hs2 hy2 hRV hfs.1 hfs.2.unkT (by omega)
       rw [ho] at hc
       exact hc
   · have h2 : manyU (bareV v) = 0 ∧ f.rep = true := by
      rcases h1 with q | q
      · exact absurd q hfit
      · exact q
     have hP : partsL (S.map MsgV.d) D f (bareV v) = [] := by
      have q := h2.1
      unfold manyU at q
      unfold partsL
      rw [List.eq_nil_of_length_eq_zero (show (bareV v).texts.length = 0 by omega), List.eq_nil_of_length_eq_zero (show (bareV v).subs.length = 0 by omega)]
      rfl
     rw [hP]
     refine (lFrom_none hs hv hF h0 h2.1 h2.2 hk hfit).mono ?_
     rintro e w' ⟨rfl, E⟩
     exact ⟨none, 0, 0, rfl, rfl, BytesAt.nil _, E⟩
 · have e : fromL (S.map MsgV.d) D f (bareV v) = packW f.kind v.words := by
    unfold fromL
    rw [if_pos hk]
    rfl
   rw [e]
   rcases hr : f.rep with _ | _
   · have hfit : FitP (S.map MsgV.d) f (bareV v) := by
      rcases h1 with q | q
      · exact q
      · rw [hr] at q
        cases q.2
     refine (lFrom_number hs hv hF h0 hfit hr hk).mono ?_
     rintro e w' ⟨A', c', rfl, own⟩
     exact ⟨A', _, c', rfl, rfl, own.bytes, own.ext⟩
   · refine (lFrom_run hs hv hF h0 h1 hr hk hwl).mono ?_
     rintro e w' ⟨A', c', rfl, own⟩
     exact ⟨A', _, c', rfl, rfl, own.bytes, own.ext⟩


theorem lRecords {root i : Nat} {M : MsgD} {SA B : Option Addr} {sn sc m k : Nat} {S : List MsgV} {f : FieldD} {d : Int} {bs : List UInt8} {w : World} (hs : SchemaAt w SA sn sc S) (hb : BytesAt w B m k bs) (hR : rightS (S.map MsgV.d) = true) (hM : (S.map MsgV.d)[root]? = some M) (hf : M.fields[i]? = some f) (hm : m ≤ 1000) (h0 : codeL (S.map MsgV.d) f bs d = 0) :
  Calls Tryz.prog 40 #[.slice SA sn sc, fieldV f, .slice B m k, .int .i64 d] w fun e w' => ∃ A' n2 c2, e = .returned (.tuple #[.slice A' n2 c2, .int .u8 0]) ∧ Hid (n2 = (recordsL f bs).length) ∧ BytesAt w' A' n2 c2 (recordsL f bs) ∧ Ext w w' := by
 rcases hr : runL f with _ | _
 · exact lRecords_items hs hb hR hM hf hm h0 hr
 · exact lRecords_run hs hb hR hM hf hm h0 hr

end Go.Proofs.YtnnphodgegcddaaGreat
