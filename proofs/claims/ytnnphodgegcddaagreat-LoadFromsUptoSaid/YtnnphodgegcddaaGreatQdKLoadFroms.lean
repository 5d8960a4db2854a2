/- The walk of the law TreeFits, out of its callees' contracts. -/
import Derived.Test.YtnnphodgegcddaaGreatQdW20s
import Derived.Test.YtnnphodgegcddaaGreatQdW20
import Derived.Test.YtnnphodgegcddaaGreatQdW14w
import Derived.Test.YtnnphodgegcddaaGreatQdW14o
import Derived.Test.YtnnphodgegcddaaGreatQdKSchemaChecks
import Derived.Test.YtnnphodgegcddaaGreatQdW37
import Derived.Test.YtnnphodgegcddaaGreatQdW38
import Derived.Test.YtnnphodgegcddaaGreatQdW33

namespace Go.Proofs.YtnnphodgegcddaaGreat
open Go.RowKit Go.Shelf
set_option linter.unusedVariables false

theorem FitV.of_bulk {v : ValR} (h1 : v.words.length ≤ 1048576 ∧ v.texts.length ≤ 1048576 ∧ v.subs.length ≤ 1048576) (h2 : ∀ t ∈ v.texts, t.data.toList.length ≤ 1048576) (h3 : ∀ y ∈ v.subs, FitT 1048576 y ∧ LongT 1048576 y) : FitV 1000000000000 1000000000 (bareV v) :=
 FitV.mk' ⟨by omega, by omega, by omega⟩ (fun t ht => Nat.le_trans (h2 t ht) (by decide)) (fun y hy => ⟨(h3 y hy).1.le (by decide), (h3 y hy).2.le (by decide)⟩)

end Go.Proofs.YtnnphodgegcddaaGreat

/- The walk of the law LoadFroms, out of its callees' contracts. -/







namespace Go.Proofs.YtnnphodgegcddaaGreat
open Go.RowKit Go.Shelf
set_option linter.unusedVariables false

theorem lValue_plain {SA B : Option Addr} {sn sc m k : Nat} {S : List MsgV} {f : FieldD} {d : Int} {bs : List UInt8} {w : World} (hs : SchemaAt w SA sn sc S) (hb : BytesAt w B m k bs) (hm : m ≤ 1000000000) (h0 : codeL (S.map MsgV.d) f bs d = 0) (hr : runL f = false) (hk : numberB f.kind = false) (h17 : f.kind ≠ 17) (hnum : -9223372036854775808 ≤ f.number ∧ f.number < 9223372036854775808) {l : List (List UInt8)} (hl : (itemsL f.rep bs).map (fun x => x.1) = l) :
  Calls Tryz.prog 38 #[.slice SA sn sc, fieldV f, .slice B m k, .int .i64 d] w (ValTold (S.map MsgV.d) ⟨(), (), (), f.number, [], l.map (fun b => (⟨b.toArray⟩ : ByteArray)), []⟩ 0 w) := by
 have h := lValue_texts hs hb hm h0 hr hk h17 hnum
 rw [← hl, List.map_map]
 exact h

theorem load_a : codeL [⟨⟨#[109]⟩, []⟩] ⟨⟨#[]⟩, 1, 15, true, false, 0⟩ [1, 97, 0] 0 = 0 ∧ (itemsL true [1, 97, 0]).map (fun x => x.1) = [[97], []] := by decide +kernel

set_option maxRecDepth 100000 in
set_option maxHeartbeats 4000000 in
theorem alive20 (w : World) : Calls Tryz.prog 19 #[] w fun e w' => e = .returned (.bool true) ∧ Ext w w' := by
 have hs : SchemaAt (w.alloc (.cells #[.string ⟨#[109]⟩, .slice none 0 0] 82)) (some ⟨w.heap.size, 0, none⟩) 1 1 [⟨⟨⟨#[109]⟩, []⟩, none, 0, 0⟩] := by
  refine ⟨(Own.made (Ext.refl w) 82 2 (cs := msgC ⟨⟨⟨#[109]⟩, []⟩, none, 0, 0⟩) (n := 1) (by simp [maxLen]) rfl).reads, fun m hm => ?_⟩
  simp only [List.mem_singleton] at hm
  subst hm
  exact ⟨⟨reads_nil _ _, fun g hg => by cases hg⟩, by simp; decide⟩
 have hv := fun (W : World) (A B : Option Addr) (h : SchemaAt W A 1 1 [⟨⟨⟨#[109]⟩, []⟩, none, 0, 0⟩]) (hb : BytesAt W B 3 3 [1, 97, 0]) => lValue_plain (f := ⟨⟨#[]⟩, 1, 15, true, false, 0⟩) (d := 0) h hb (by omega) load_a.1 (by decide) (by decide) (by decide) ⟨by decide, by decide⟩ load_a.2
 have Hs := Lib.hid hs
 have Hv := Lib.hid hv
 clear hs hv
 go_enter Tryz.func19, Tryz.ntmps19
 go_wp2_with fail
 refine (Hv.out _ _ _ (Hs.out.up (by repeat with_reducible (first | exact Ext.refl _ | refine Ext.alloc ?_ _ | refine Ext.drew ?_ | refine Ext.drewN ?_ _ | refine Ext.setCell ?_ (by first | omega | (simp <;> omega)) _))) (bytes_lit _ _ _ [1, 97, 0] 3 (by simp) (by simp [bv]) rfl (by simp [maxLen]))).mono ?_
 rintro e w1 ⟨y, rfl, hy, hat, hu, E1⟩
 obtain ⟨ya, ⟨yb1, yb2⟩, yc, yn, yw, yt, ys⟩ := y
 obtain rfl : yn = 1 := congrArg ValG.number hy
 obtain rfl : yw = [] := congrArg ValG.words hy
 obtain rfl : yt = [⟨#[97]⟩, ⟨#[]⟩] := congrArg ValG.texts hy
 obtain rfl : ys = [] := by
  have := congrArg ValG.subs hy
  exact List.map_eq_nil_iff.1 this
 obtain ⟨b, off, t0, hA, ht0, hb, _, c0⟩ := hat.own.texts.text (k := 0) (by simp)
 obtain ⟨b', off', t1, hA', ht1, hb', _, c1⟩ := hat.own.texts.text (k := 1) (by simp)
 have hA1 : yb1 = some ⟨b, off, none⟩ := hA
 have hA2 : yb1 = some ⟨b', off', none⟩ := hA'
 rw [hA1] at hA2
 cases hA2
 subst hA1
 simp only [List.getElem?_cons_zero, List.getElem?_cons_succ, Option.some.injEq] at ht0 ht1
 subst ht0 ht1
 rw [Nat.add_zero] at c0
 have X1 : Ext w w1 := Ext.trans (by repeat with_reducible (first | exact Ext.refl _ | refine Ext.alloc ?_ _ | refine Ext.drew ?_ | refine Ext.drewN ?_ _ | refine Ext.setCell ?_ (by first | omega | (simp <;> omega)) _)) E1
 clear hy hat hu hA hA' Hs Hv
 unfold tvalV
 go_wp2
 go_ret
 exact ⟨rfl, Ext.trans X1 (by repeat with_reducible (first | exact Ext.refl _ | refine Ext.alloc ?_ _ | refine Ext.drew ?_ | refine Ext.drewN ?_ _ | refine Ext.setCell ?_ (by first | omega | (simp <;> omega)) _))⟩

theorem sizeU_bare {τ : Type} (v : ValG τ (MsgX τ)) : sizeU (bareV v) = sizeU v := by
 show 1 + v.words.length + textsN v.texts + ((v.subs.map bare).map sizeT).sum = sizeU v
 unfold sizeU
 rw [List.map_map]
 congr 2
 exact List.map_congr_left fun y hy => size_bare y

set_option maxRecDepth 100000 in
set_option maxHeartbeats 4000000 in
theorem loadFroms_args {A : Option Addr} {n c : Nat} {S : List MsgV} {f : FieldD} {v : ValR} {w : World} (hs : SchemaAt w A n c S) (hv : ValAt w v) (h1 : v.words.length ≤ 1048576 ∧ v.texts.length ≤ 1048576 ∧ v.subs.length ≤ 1048576) (h2 : ∀ t ∈ v.texts, t.data.toList.length ≤ 1048576) (h3 : ∀ y ∈ v.subs, FitT 1048576 y ∧ LongT 1048576 y) (h0 : argsL (S.map MsgV.d) f 0 ≠ 0) :
  Calls Tryz.prog 4 #[.slice A n c, fieldV f, tvalV v] w fun e w' => e = .returned (.bool true) ∧ Ext w w' := by
 have hF := FitV.of_bulk h1 h2 h3
 have hE := Ext.refl w
 have hcap := hs.1.cap
 have hz := fun W (h : ValAt W v) => xSizeV (v := v) (fun y _ => xSize y) 70 W (by omega) (by omega) h h1 h2 h3
 have ho := fun W (k : ValAt W v) => tOfV (v := v) (fun y _ => tOf y) W k hF.lens.2.2 (fun y hy => (hF.subs y hy).1)
 have hm : ∀ W (u : ValR), bareV u = bareV v → Calls Tryz.prog 25 #[tvalV u] W fun e w' => e = .returned (.int .i64 (manyU (bareV v) : Nat)) ∧ Ext W w' := fun W u hu => by
  have hl := (show FitV 1000000000000 1000000000 (bareV u) by rw [hu]; exact hF).lens
  have := rManyW (u := u) (w := W) hl.1 hl.2.1 hl.2.2
  have e : manyU u = manyU (bareV v) := by rw [← hu]; unfold manyU bareV; simp
  rwa [e] at this
 have hra := fun W (h : SchemaAt W A n c S) => rArgs (f := f) (d := 0) h
 have hml : manyU (bareV v) ≤ 4000000 := by
  have e : manyU (bareV v) = v.words.length + v.texts.length + (v.subs.map bare).length := rfl
  rw [List.length_map] at e
  omega
 have hl := fun W (h : SchemaAt W A n c S) (q : ValAt W v) => lFrom_no h q hF (by rw [codeFL_bad h0]; exact h0)
 rw [codeFL_bad h0] at hl
 have h256 : argsL (S.map MsgV.d) f 0 ≤ 9 := by
  unfold argsL
  repeat' split
  all_goals decide
 have hne : (((argsL (S.map MsgV.d) f 0 : Nat) : Int) == 0) = false := by rw [beq_eq_false_iff_ne]; omega
 have hne2 : (((argsL (S.map MsgV.d) f 0 : Nat) : Int) != 0) = true := by rw [bne_iff_ne]; omega
 clear h0
 generalize argsL (S.map MsgV.d) f 0 = C at *
 unfold SizeI at hz
 unfold fieldV tvalV at *
 have Hz := Lib.hid hz
 have Ho := Lib.hid ho
 have Hm := Lib.hid hm
 have Hra := Lib.hid hra
 have Hl := Lib.hid hl
 have HF := Lib.hid hF
 clear hz ho hm hra hF h1 h2 h3 hl
 go_enter Tryz.func4, Tryz.ntmps4
 go_wp2_with fail
 have BF := (BlkT.new w 48 #[.string f.name, .int .i64 f.number, .int .i64 f.kind, .bool f.rep, .bool f.packed, .int .i64 f.of_] rfl).alloc (.cells #[.int .i64 v.number, .slice v.a.1 v.words.length v.a.2, .slice v.b.1 v.texts.length v.b.2, .slice v.c.1 v.subs.length v.c.2] 52)
 have BV := BlkT.new (w.alloc (.cells #[.string f.name, .int .i64 f.number, .int .i64 f.kind, .bool f.rep, .bool f.packed, .int .i64 f.of_] 48)) 52 #[.int .i64 v.number, .slice v.a.1 v.words.length v.a.2, .slice v.b.1 v.texts.length v.b.2, .slice v.c.1 v.subs.length v.c.2] (show w.heap.size + 1 = _ by simp)
 have X0 : Ext w ((w.alloc (.cells #[.string f.name, .int .i64 f.number, .int .i64 f.kind, .bool f.rep, .bool f.packed, .int .i64 f.of_] 48)).alloc (.cells #[.int .i64 v.number, .slice v.a.1 v.words.length v.a.2, .slice v.b.1 v.texts.length v.b.2, .slice v.c.1 v.subs.length v.c.2] 52)) := ((Ext.refl w).alloc _).alloc _
 generalize (w.alloc (.cells #[.string f.name, .int .i64 f.number, .int .i64 f.kind, .bool f.rep, .bool f.packed, .int .i64 f.of_] 48)).alloc (.cells #[.int .i64 v.number, .slice v.a.1 v.words.length v.a.2, .slice v.b.1 v.texts.length v.b.2, .slice v.c.1 v.subs.length v.c.2] 52) = wx at *
 replace hs := hs.up X0
 replace hv := hv.up X0
 have z0 : wx.cell? ⟨w.heap.size, 0, none⟩ = some (.string f.name) := BF.cell 0
 have z1 : wx.cell? ⟨w.heap.size, 1, none⟩ = some (.int .i64 f.number) := BF.cell 1
 have z2 : wx.cell? ⟨w.heap.size, 2, none⟩ = some (.int .i64 f.kind) := BF.cell 2
 have z3 : wx.cell? ⟨w.heap.size, 3, none⟩ = some (.bool f.rep) := BF.cell 3
 have z4 : wx.cell? ⟨w.heap.size, 4, none⟩ = some (.bool f.packed) := BF.cell 4
 have z5 : wx.cell? ⟨w.heap.size, 5, none⟩ = some (.int .i64 f.of_) := BF.cell 5
 have v0 : wx.cell? ⟨w.heap.size + 1, 0, none⟩ = some (.int .i64 v.number) := BV.cell 0
 have v1 : wx.cell? ⟨w.heap.size + 1, 1, none⟩ = some (.slice v.a.1 v.words.length v.a.2) := BV.cell 1
 have v2 : wx.cell? ⟨w.heap.size + 1, 2, none⟩ = some (.slice v.b.1 v.texts.length v.b.2) := BV.cell 2
 have v3 : wx.cell? ⟨w.heap.size + 1, 3, none⟩ = some (.slice v.c.1 v.subs.length v.c.2) := BV.cell 3
 have lf := BF.lt
 have lv := BV.lt
 have hX := Ext.refl wx
 clear BF BV hE
 go_wp2_with (first
  | (go_at_call 19; refine (alive20 _).mono ?_; rintro e w1 ⟨rfl, E1⟩; have X_ : Ext wx w1 := Ext.trans (by repeat with_reducible (first | exact Ext.refl _ | refine Ext.alloc ?_ _ | refine Ext.drew ?_ | refine Ext.drewN ?_ _ | refine Ext.setCell ?_ (by first | omega | (simp <;> omega)) _)) E1; replace hX := hX.up X_; replace hs := hs.up X_; replace hv := hv.up X_; replace z0 := X_.of_cell z0; replace z1 := X_.of_cell z1; replace z2 := X_.of_cell z2; replace z3 := X_.of_cell z3; replace z4 := X_.of_cell z4; replace z5 := X_.of_cell z5; replace v0 := X_.of_cell v0; replace v1 := X_.of_cell v1; replace v2 := X_.of_cell v2; replace v3 := X_.of_cell v3; clear X_)
  | (go_at_call 10; refine (few07 hs).mono ?_; rintro e w2 ⟨x, rfl, E2⟩; have X_ : Ext w1 w2 := Ext.trans (by repeat with_reducible (first | exact Ext.refl _ | refine Ext.alloc ?_ _ | refine Ext.drew ?_ | refine Ext.drewN ?_ _ | refine Ext.setCell ?_ (by first | omega | (simp <;> omega)) _)) E2; replace hX := hX.up X_; replace hs := hs.up X_; replace hv := hv.up X_; replace z0 := X_.of_cell z0; replace z1 := X_.of_cell z1; replace z2 := X_.of_cell z2; replace z3 := X_.of_cell z3; replace z4 := X_.of_cell z4; replace z5 := X_.of_cell z5; replace v0 := X_.of_cell v0; replace v1 := X_.of_cell v1; replace v2 := X_.of_cell v2; replace v3 := X_.of_cell v3; clear X_)
  | (go_at_call 20; refine (Hz.out _ hv).mono ?_; rintro e w4 ⟨y, rfl, p1, p2, p3, E4⟩; have X_ : Ext w2 w4 := Ext.trans (by repeat with_reducible (first | exact Ext.refl _ | refine Ext.alloc ?_ _ | refine Ext.drew ?_ | refine Ext.drewN ?_ _ | refine Ext.setCell ?_ (by first | omega | (simp <;> omega)) _)) E4; replace hX := hX.up X_; replace hs := hs.up X_; replace hv := hv.up X_; replace z0 := X_.of_cell z0; replace z1 := X_.of_cell z1; replace z2 := X_.of_cell z2; replace z3 := X_.of_cell z3; replace z4 := X_.of_cell z4; replace z5 := X_.of_cell z5; replace v0 := X_.of_cell v0; replace v1 := X_.of_cell v1; replace v2 := X_.of_cell v2; replace v3 := X_.of_cell v3; clear X_))
 · go_ret
   exact ⟨rfl, X0.trans hX⟩
 · replace lf := Nat.lt_of_lt_of_le lf hX.size
   replace lv := Nat.lt_of_lt_of_le lv hX.size
   have hsz : sizeU v ≤ 3000 := by
    have := p3 (by omega)
    omega
   have hsz2 : sizeU (bareV v) ≤ 3000 := by rw [sizeU_bare]; exact hsz
   clear p1 p2 p3
   have hX4 := X0.trans hX
   go_wp2_with (first
    | (go_at_call 21; refine (Hl.out _ hs hv).mono ?_; rintro e w6 ⟨rfl, E6⟩; have X_ : Ext w4 w6 := Ext.trans (by repeat with_reducible (first | exact Ext.refl _ | refine Ext.alloc ?_ _ | refine Ext.drew ?_ | refine Ext.drewN ?_ _ | refine Ext.setCell ?_ (by first | omega | (simp <;> omega)) _)) E6; replace hX4 := hX4.up X_; replace hs := hs.up X_; replace hv := hv.up X_; replace z0 := X_.of_cell z0; replace z1 := X_.of_cell z1; replace z2 := X_.of_cell z2; replace z3 := X_.of_cell z3; replace z4 := X_.of_cell z4; replace z5 := X_.of_cell z5; replace v0 := X_.of_cell v0; replace v1 := X_.of_cell v1; replace v2 := X_.of_cell v2; replace v3 := X_.of_cell v3; clear X_; have lf6 := World.block_lt_of_cell? w6 _ z0;  have lv6 := World.block_lt_of_cell? w6 _ v0)
    | (go_at_call 22; refine (Ho.out _ hv).mono ?_; rintro e w7 ⟨u, rfl, q1, q2, _, E7⟩; have X_ : Ext w6 w7 := Ext.trans (by repeat with_reducible (first | exact Ext.refl _ | refine Ext.alloc ?_ _ | refine Ext.drew ?_ | refine Ext.drewN ?_ _ | refine Ext.setCell ?_ (by first | omega | (simp <;> omega)) _)) E7; replace hX4 := hX4.up X_; replace hs := hs.up X_; replace z0 := X_.of_cell z0; replace z1 := X_.of_cell z1; replace z2 := X_.of_cell z2; replace z3 := X_.of_cell z3; replace z4 := X_.of_cell z4; replace z5 := X_.of_cell z5; clear X_; have Hq1 := Lib.hid q1;  clear q1;  have lf7 := World.block_lt_of_cell? w7 _ z0)
    | (go_at_call 23; refine (Hra.out _ (hs.up (by repeat with_reducible (first | exact Ext.refl _ | refine Ext.alloc ?_ _ | refine Ext.drew ?_ | refine Ext.drewN ?_ _ | refine Ext.setCell ?_ (by first | omega | (simp <;> omega)) _)))).mono ?_; rintro e w8 ⟨rfl, E8⟩; have X_ : Ext w7 w8 := Ext.trans (by repeat with_reducible (first | exact Ext.refl _ | refine Ext.alloc ?_ _ | refine Ext.drew ?_ | refine Ext.drewN ?_ _ | refine Ext.setCell ?_ (by first | omega | (simp <;> omega)) _)) E8; replace hX4 := hX4.up X_; replace z0 := X_.of_cell z0; replace z1 := X_.of_cell z1; replace z2 := X_.of_cell z2; replace z3 := X_.of_cell z3; replace z4 := X_.of_cell z4; replace z5 := X_.of_cell z5; clear X_))
   go_ret
   exact ⟨ret_bool (by simp), hX4⟩
 · go_ret
   exact ⟨rfl, X0.trans hX⟩

set_option maxRecDepth 100000 in
set_option maxHeartbeats 4000000 in
theorem loadFroms_form0 {A : Option Addr} {n c : Nat} {S : List MsgV} {f : FieldD} {v : ValR} {w : World} (hs : SchemaAt w A n c S) (hv : ValAt w v) (h1 : v.words.length ≤ 1048576 ∧ v.texts.length ≤ 1048576 ∧ v.subs.length ≤ 1048576) (h2 : ∀ t ∈ v.texts, t.data.toList.length ≤ 1048576) (h3 : ∀ y ∈ v.subs, FitT 1048576 y ∧ LongT 1048576 y) (h0 : argsL (S.map MsgV.d) f 0 = 0) (hf : ¬ FitP (S.map MsgV.d) f (bareV v)) (hn : ¬ (manyU (bareV v) = 0 ∧ f.rep = true)) (hn2 : manyU (bareV v) ≠ 0) :
  Calls Tryz.prog 4 #[.slice A n c, fieldV f, tvalV v] w fun e w' => e = .returned (.bool true) ∧ Ext w w' := by
 have hF := FitV.of_bulk h1 h2 h3
 have hE := Ext.refl w
 have hcap := hs.1.cap
 have hz := fun W (h : ValAt W v) => xSizeV (v := v) (fun y _ => xSize y) 70 W (by omega) (by omega) h h1 h2 h3
 have ho := fun W (k : ValAt W v) => tOfV (v := v) (fun y _ => tOf y) W k hF.lens.2.2 (fun y hy => (hF.subs y hy).1)
 have hm : ∀ W (u : ValR), bareV u = bareV v → Calls Tryz.prog 25 #[tvalV u] W fun e w' => e = .returned (.int .i64 (manyU (bareV v) : Nat)) ∧ Ext W w' := fun W u hu => by
  have hl := (show FitV 1000000000000 1000000000 (bareV u) by rw [hu]; exact hF).lens
  have := rManyW (u := u) (w := W) hl.1 hl.2.1 hl.2.2
  have e : manyU u = manyU (bareV v) := by rw [← hu]; unfold manyU bareV; simp
  rwa [e] at this
 have hra := fun W (h : SchemaAt W A n c S) => rArgs (f := f) (d := 0) h
 have hml : manyU (bareV v) ≤ 4000000 := by
  have e : manyU (bareV v) = v.words.length + v.texts.length + (v.subs.map bare).length := rfl
  rw [List.length_map] at e
  omega
 have hR : rightS (S.map MsgV.d) = true := by
  rcases hR : rightS (S.map MsgV.d) with _ | _
  · rw [argsL_ill hR] at h0
    cases h0
  · rfl
 have hfi : ∀ W (u : ValR), bareV u = bareV v → SchemaAt W A n c S → ValAt W u → Calls Tryz.prog 24 #[.slice A n c, fieldV f, tvalV u] W fun e w' => e = .returned (.bool (eqB (FitP (S.map MsgV.d) f (bareV v)))) ∧ Ext W w' := fun W u hu h k => by
  have := rFitsT (f := f) hR h k (by rw [hu]; exact hF)
  rwa [hu] at this
 rw [h0] at hra
 have hl := fun W (h : SchemaAt W A n c S) (q : ValAt W v) => lFrom_no h q hF (by rw [codeFL_form h0 hf hn]; decide)
 rw [codeFL_form h0 hf hn] at hl
 rw [eqB_no hf] at hfi
 obtain ⟨mU, hmU⟩ : ∃ mU, mU = manyU (bareV v) := ⟨_, rfl⟩
 rw [← hmU] at hm hml
 rw [← hmU] at hn2
 have hb0 : ((mU : Int) == 0) = false := by rw [beq_eq_false_iff_ne]; omega
 unfold SizeI at hz
 unfold fieldV tvalV at *
 have Hz := Lib.hid hz
 have Ho := Lib.hid ho
 have Hm := Lib.hid hm
 have Hra := Lib.hid hra
 have Hl := Lib.hid hl
 have Hfi := Lib.hid hfi
 have HF := Lib.hid hF
 clear hz ho hm hra hF h1 h2 h3 hl hfi hf hn h0 hR hn2 hmU
 go_enter Tryz.func4, Tryz.ntmps4
 go_wp2_with fail
 have BF := (BlkT.new w 48 #[.string f.name, .int .i64 f.number, .int .i64 f.kind, .bool f.rep, .bool f.packed, .int .i64 f.of_] rfl).alloc (.cells #[.int .i64 v.number, .slice v.a.1 v.words.length v.a.2, .slice v.b.1 v.texts.length v.b.2, .slice v.c.1 v.subs.length v.c.2] 52)
 have BV := BlkT.new (w.alloc (.cells #[.string f.name, .int .i64 f.number, .int .i64 f.kind, .bool f.rep, .bool f.packed, .int .i64 f.of_] 48)) 52 #[.int .i64 v.number, .slice v.a.1 v.words.length v.a.2, .slice v.b.1 v.texts.length v.b.2, .slice v.c.1 v.subs.length v.c.2] (show w.heap.size + 1 = _ by simp)
 have X0 : Ext w ((w.alloc (.cells #[.string f.name, .int .i64 f.number, .int .i64 f.kind, .bool f.rep, .bool f.packed, .int .i64 f.of_] 48)).alloc (.cells #[.int .i64 v.number, .slice v.a.1 v.words.length v.a.2, .slice v.b.1 v.texts.length v.b.2, .slice v.c.1 v.subs.length v.c.2] 52)) := ((Ext.refl w).alloc _).alloc _
 generalize (w.alloc (.cells #[.string f.name, .int .i64 f.number, .int .i64 f.kind, .bool f.rep, .bool f.packed, .int .i64 f.of_] 48)).alloc (.cells #[.int .i64 v.number, .slice v.a.1 v.words.length v.a.2, .slice v.b.1 v.texts.length v.b.2, .slice v.c.1 v.subs.length v.c.2] 52) = wx at *
 replace hs := hs.up X0
 replace hv := hv.up X0
 have z0 : wx.cell? ⟨w.heap.size, 0, none⟩ = some (.string f.name) := BF.cell 0
 have z1 : wx.cell? ⟨w.heap.size, 1, none⟩ = some (.int .i64 f.number) := BF.cell 1
 have z2 : wx.cell? ⟨w.heap.size, 2, none⟩ = some (.int .i64 f.kind) := BF.cell 2
 have z3 : wx.cell? ⟨w.heap.size, 3, none⟩ = some (.bool f.rep) := BF.cell 3
 have z4 : wx.cell? ⟨w.heap.size, 4, none⟩ = some (.bool f.packed) := BF.cell 4
 have z5 : wx.cell? ⟨w.heap.size, 5, none⟩ = some (.int .i64 f.of_) := BF.cell 5
 have v0 : wx.cell? ⟨w.heap.size + 1, 0, none⟩ = some (.int .i64 v.number) := BV.cell 0
 have v1 : wx.cell? ⟨w.heap.size + 1, 1, none⟩ = some (.slice v.a.1 v.words.length v.a.2) := BV.cell 1
 have v2 : wx.cell? ⟨w.heap.size + 1, 2, none⟩ = some (.slice v.b.1 v.texts.length v.b.2) := BV.cell 2
 have v3 : wx.cell? ⟨w.heap.size + 1, 3, none⟩ = some (.slice v.c.1 v.subs.length v.c.2) := BV.cell 3
 have lf := BF.lt
 have lv := BV.lt
 have hX := Ext.refl wx
 clear BF BV hE
 go_wp2_with (first
  | (go_at_call 19; refine (alive20 _).mono ?_; rintro e w1 ⟨rfl, E1⟩; have X_ : Ext wx w1 := Ext.trans (by repeat with_reducible (first | exact Ext.refl _ | refine Ext.alloc ?_ _ | refine Ext.drew ?_ | refine Ext.drewN ?_ _ | refine Ext.setCell ?_ (by first | omega | (simp <;> omega)) _)) E1; replace hX := hX.up X_; replace hs := hs.up X_; replace hv := hv.up X_; replace z0 := X_.of_cell z0; replace z1 := X_.of_cell z1; replace z2 := X_.of_cell z2; replace z3 := X_.of_cell z3; replace z4 := X_.of_cell z4; replace z5 := X_.of_cell z5; replace v0 := X_.of_cell v0; replace v1 := X_.of_cell v1; replace v2 := X_.of_cell v2; replace v3 := X_.of_cell v3; clear X_)
  | (go_at_call 10; refine (few07 hs).mono ?_; rintro e w2 ⟨x, rfl, E2⟩; have X_ : Ext w1 w2 := Ext.trans (by repeat with_reducible (first | exact Ext.refl _ | refine Ext.alloc ?_ _ | refine Ext.drew ?_ | refine Ext.drewN ?_ _ | refine Ext.setCell ?_ (by first | omega | (simp <;> omega)) _)) E2; replace hX := hX.up X_; replace hs := hs.up X_; replace hv := hv.up X_; replace z0 := X_.of_cell z0; replace z1 := X_.of_cell z1; replace z2 := X_.of_cell z2; replace z3 := X_.of_cell z3; replace z4 := X_.of_cell z4; replace z5 := X_.of_cell z5; replace v0 := X_.of_cell v0; replace v1 := X_.of_cell v1; replace v2 := X_.of_cell v2; replace v3 := X_.of_cell v3; clear X_)
  | (go_at_call 20; refine (Hz.out _ hv).mono ?_; rintro e w4 ⟨y, rfl, p1, p2, p3, E4⟩; have X_ : Ext w2 w4 := Ext.trans (by repeat with_reducible (first | exact Ext.refl _ | refine Ext.alloc ?_ _ | refine Ext.drew ?_ | refine Ext.drewN ?_ _ | refine Ext.setCell ?_ (by first | omega | (simp <;> omega)) _)) E4; replace hX := hX.up X_; replace hs := hs.up X_; replace hv := hv.up X_; replace z0 := X_.of_cell z0; replace z1 := X_.of_cell z1; replace z2 := X_.of_cell z2; replace z3 := X_.of_cell z3; replace z4 := X_.of_cell z4; replace z5 := X_.of_cell z5; replace v0 := X_.of_cell v0; replace v1 := X_.of_cell v1; replace v2 := X_.of_cell v2; replace v3 := X_.of_cell v3; clear X_))
 · go_ret
   exact ⟨rfl, X0.trans hX⟩
 · replace lf := Nat.lt_of_lt_of_le lf hX.size
   replace lv := Nat.lt_of_lt_of_le lv hX.size
   have hsz : sizeU v ≤ 3000 := by
    have := p3 (by omega)
    omega
   have hsz2 : sizeU (bareV v) ≤ 3000 := by rw [sizeU_bare]; exact hsz
   clear p1 p2 p3
   have hX4 := X0.trans hX
   go_wp2_with (first
    | (go_at_call 21; refine (Hl.out _ hs hv).mono ?_; rintro e w6 ⟨rfl, E6⟩; have X_ : Ext w4 w6 := Ext.trans (by repeat with_reducible (first | exact Ext.refl _ | refine Ext.alloc ?_ _ | refine Ext.drew ?_ | refine Ext.drewN ?_ _ | refine Ext.setCell ?_ (by first | omega | (simp <;> omega)) _)) E6; replace hX4 := hX4.up X_; replace hs := hs.up X_; replace hv := hv.up X_; replace z0 := X_.of_cell z0; replace z1 := X_.of_cell z1; replace z2 := X_.of_cell z2; replace z3 := X_.of_cell z3; replace z4 := X_.of_cell z4; replace z5 := X_.of_cell z5; replace v0 := X_.of_cell v0; replace v1 := X_.of_cell v1; replace v2 := X_.of_cell v2; replace v3 := X_.of_cell v3; clear X_; have lf6 := World.block_lt_of_cell? w6 _ z0;  have lv6 := World.block_lt_of_cell? w6 _ v0)
    | (go_at_call 22; refine (Ho.out _ hv).mono ?_; rintro e w7 ⟨u, rfl, q1, q2, _, E7⟩; have X_ : Ext w6 w7 := Ext.trans (by repeat with_reducible (first | exact Ext.refl _ | refine Ext.alloc ?_ _ | refine Ext.drew ?_ | refine Ext.drewN ?_ _ | refine Ext.setCell ?_ (by first | omega | (simp <;> omega)) _)) E7; replace hX4 := hX4.up X_; replace hs := hs.up X_; replace z0 := X_.of_cell z0; replace z1 := X_.of_cell z1; replace z2 := X_.of_cell z2; replace z3 := X_.of_cell z3; replace z4 := X_.of_cell z4; replace z5 := X_.of_cell z5; clear X_; have Hq1 := Lib.hid q1;  clear q1;  have lf7 := World.block_lt_of_cell? w7 _ z0)
    | (go_at_call 23; refine (Hra.out _ (hs.up (by repeat with_reducible (first | exact Ext.refl _ | refine Ext.alloc ?_ _ | refine Ext.drew ?_ | refine Ext.drewN ?_ _ | refine Ext.setCell ?_ (by first | omega | (simp <;> omega)) _)))).mono ?_; rintro e w8 ⟨rfl, E8⟩; have X_ : Ext w7 w8 := Ext.trans (by repeat with_reducible (first | exact Ext.refl _ | refine Ext.alloc ?_ _ | refine Ext.drew ?_ | refine Ext.drewN ?_ _ | refine Ext.setCell ?_ (by first | omega | (simp <;> omega)) _)) E8; have X8 := X_; replace hX4 := hX4.up X_; replace hs := hs.up X_; replace z0 := X_.of_cell z0; replace z1 := X_.of_cell z1; replace z2 := X_.of_cell z2; replace z3 := X_.of_cell z3; replace z4 := X_.of_cell z4; replace z5 := X_.of_cell z5; clear X_; have q3 := q2.up X8;  have BU := (BlkT.new w7 57 #[.int .i64 u.number, .slice u.a.1 u.words.length u.a.2, .slice u.b.1 u.texts.length u.b.2, .slice u.c.1 u.subs.length u.c.2] rfl).up E8;  have u0 : w8.cell? ⟨w7.heap.size, 0, none⟩ = some (.int .i64 u.number) := BU.cell 0;  have u1 : w8.cell? ⟨w7.heap.size, 1, none⟩ = some (.slice u.a.1 u.words.length u.a.2) := BU.cell 1;  have u2 : w8.cell? ⟨w7.heap.size, 2, none⟩ = some (.slice u.b.1 u.texts.length u.b.2) := BU.cell 2;  have u3 : w8.cell? ⟨w7.heap.size, 3, none⟩ = some (.slice u.c.1 u.subs.length u.c.2) := BU.cell 3;  clear BU)
    | (go_at_call 24; refine (Hfi.out _ u Hq1.out hs q3).mono ?_; rintro e w9 ⟨rfl, E9⟩; have X_ : Ext w8 w9 := Ext.trans (by repeat with_reducible (first | exact Ext.refl _ | refine Ext.alloc ?_ _ | refine Ext.drew ?_ | refine Ext.drewN ?_ _ | refine Ext.setCell ?_ (by first | omega | (simp <;> omega)) _)) E9; replace hX4 := hX4.up X_; replace hs := hs.up X_; replace q3 := q3.up X_; replace z0 := X_.of_cell z0; replace z1 := X_.of_cell z1; replace z2 := X_.of_cell z2; replace z3 := X_.of_cell z3; replace z4 := X_.of_cell z4; replace z5 := X_.of_cell z5; replace u0 := X_.of_cell u0; replace u1 := X_.of_cell u1; replace u2 := X_.of_cell u2; replace u3 := X_.of_cell u3; clear X_)
    | (go_at_call 25; refine (Hm.out _ u Hq1.out).mono ?_; rintro e w10 ⟨rfl, E10⟩; have X_ : Ext w9 w10 := Ext.trans (by repeat with_reducible (first | exact Ext.refl _ | refine Ext.alloc ?_ _ | refine Ext.drew ?_ | refine Ext.drewN ?_ _ | refine Ext.setCell ?_ (by first | omega | (simp <;> omega)) _)) E10; replace hX4 := hX4.up X_; replace hs := hs.up X_; replace q3 := q3.up X_; replace z0 := X_.of_cell z0; replace z1 := X_.of_cell z1; replace z2 := X_.of_cell z2; replace z3 := X_.of_cell z3; replace z4 := X_.of_cell z4; replace z5 := X_.of_cell z5; replace u0 := X_.of_cell u0; replace u1 := X_.of_cell u1; replace u2 := X_.of_cell u2; replace u3 := X_.of_cell u3; clear X_))
   all_goals
    go_ret
    exact ⟨ret_bool (by simp), hX4⟩
 · go_ret
   exact ⟨rfl, X0.trans hX⟩

set_option maxRecDepth 100000 in
set_option maxHeartbeats 4000000 in
theorem loadFroms_form1 {A : Option Addr} {n c : Nat} {S : List MsgV} {f : FieldD} {v : ValR} {w : World} (hs : SchemaAt w A n c S) (hv : ValAt w v) (h1 : v.words.length ≤ 1048576 ∧ v.texts.length ≤ 1048576 ∧ v.subs.length ≤ 1048576) (h2 : ∀ t ∈ v.texts, t.data.toList.length ≤ 1048576) (h3 : ∀ y ∈ v.subs, FitT 1048576 y ∧ LongT 1048576 y) (h0 : argsL (S.map MsgV.d) f 0 = 0) (hf : ¬ FitP (S.map MsgV.d) f (bareV v)) (hn : ¬ (manyU (bareV v) = 0 ∧ f.rep = true)) (hn2 : manyU (bareV v) = 0) (hr : f.rep = false) :
  Calls Tryz.prog 4 #[.slice A n c, fieldV f, tvalV v] w fun e w' => e = .returned (.bool true) ∧ Ext w w' := by
 have hF := FitV.of_bulk h1 h2 h3
 have hE := Ext.refl w
 have hcap := hs.1.cap
 have hz := fun W (h : ValAt W v) => xSizeV (v := v) (fun y _ => xSize y) 70 W (by omega) (by omega) h h1 h2 h3
 have ho := fun W (k : ValAt W v) => tOfV (v := v) (fun y _ => tOf y) W k hF.lens.2.2 (fun y hy => (hF.subs y hy).1)
 have hm : ∀ W (u : ValR), bareV u = bareV v → Calls Tryz.prog 25 #[tvalV u] W fun e w' => e = .returned (.int .i64 (manyU (bareV v) : Nat)) ∧ Ext W w' := fun W u hu => by
  have hl := (show FitV 1000000000000 1000000000 (bareV u) by rw [hu]; exact hF).lens
  have := rManyW (u := u) (w := W) hl.1 hl.2.1 hl.2.2
  have e : manyU u = manyU (bareV v) := by rw [← hu]; unfold manyU bareV; simp
  rwa [e] at this
 have hra := fun W (h : SchemaAt W A n c S) => rArgs (f := f) (d := 0) h
 have hml : manyU (bareV v) ≤ 4000000 := by
  have e : manyU (bareV v) = v.words.length + v.texts.length + (v.subs.map bare).length := rfl
  rw [List.length_map] at e
  omega
 have hR : rightS (S.map MsgV.d) = true := by
  rcases hR : rightS (S.map MsgV.d) with _ | _
  · rw [argsL_ill hR] at h0
    cases h0
  · rfl
 have hfi : ∀ W (u : ValR), bareV u = bareV v → SchemaAt W A n c S → ValAt W u → Calls Tryz.prog 24 #[.slice A n c, fieldV f, tvalV u] W fun e w' => e = .returned (.bool (eqB (FitP (S.map MsgV.d) f (bareV v)))) ∧ Ext W w' := fun W u hu h k => by
  have := rFitsT (f := f) hR h k (by rw [hu]; exact hF)
  rwa [hu] at this
 rw [h0] at hra
 have hl := fun W (h : SchemaAt W A n c S) (q : ValAt W v) => lFrom_no h q hF (by rw [codeFL_form h0 hf hn]; decide)
 rw [codeFL_form h0 hf hn] at hl
 rw [eqB_no hf] at hfi

 rw [hn2] at hm
 rw [show ((0 : Nat) : Int) = 0 from rfl] at hm
 unfold SizeI at hz
 unfold fieldV tvalV at *
 rw [hr] at hl hra hfi
 have Hz := Lib.hid hz
 have Ho := Lib.hid ho
 have Hm := Lib.hid hm
 have Hra := Lib.hid hra
 have Hl := Lib.hid hl
 have Hfi := Lib.hid hfi
 have Hr := Lib.hid hr
 have HF := Lib.hid hF
 clear hz ho hm hra hF h1 h2 h3 hl hfi hf hn h0 hR hn2 hml hr
 go_enter Tryz.func4, Tryz.ntmps4
 go_wp2_with fail
 have BF := (BlkT.new w 48 #[.string f.name, .int .i64 f.number, .int .i64 f.kind, .bool f.rep, .bool f.packed, .int .i64 f.of_] rfl).alloc (.cells #[.int .i64 v.number, .slice v.a.1 v.words.length v.a.2, .slice v.b.1 v.texts.length v.b.2, .slice v.c.1 v.subs.length v.c.2] 52)
 have BV := BlkT.new (w.alloc (.cells #[.string f.name, .int .i64 f.number, .int .i64 f.kind, .bool f.rep, .bool f.packed, .int .i64 f.of_] 48)) 52 #[.int .i64 v.number, .slice v.a.1 v.words.length v.a.2, .slice v.b.1 v.texts.length v.b.2, .slice v.c.1 v.subs.length v.c.2] (show w.heap.size + 1 = _ by simp)
 have X0 : Ext w ((w.alloc (.cells #[.string f.name, .int .i64 f.number, .int .i64 f.kind, .bool f.rep, .bool f.packed, .int .i64 f.of_] 48)).alloc (.cells #[.int .i64 v.number, .slice v.a.1 v.words.length v.a.2, .slice v.b.1 v.texts.length v.b.2, .slice v.c.1 v.subs.length v.c.2] 52)) := ((Ext.refl w).alloc _).alloc _
 generalize (w.alloc (.cells #[.string f.name, .int .i64 f.number, .int .i64 f.kind, .bool f.rep, .bool f.packed, .int .i64 f.of_] 48)).alloc (.cells #[.int .i64 v.number, .slice v.a.1 v.words.length v.a.2, .slice v.b.1 v.texts.length v.b.2, .slice v.c.1 v.subs.length v.c.2] 52) = wx at *
 replace hs := hs.up X0
 replace hv := hv.up X0
 have z0 : wx.cell? ⟨w.heap.size, 0, none⟩ = some (.string f.name) := BF.cell 0
 have z1 : wx.cell? ⟨w.heap.size, 1, none⟩ = some (.int .i64 f.number) := BF.cell 1
 have z2 : wx.cell? ⟨w.heap.size, 2, none⟩ = some (.int .i64 f.kind) := BF.cell 2
 have z3 : wx.cell? ⟨w.heap.size, 3, none⟩ = some (.bool f.rep) := BF.cell 3
 have z4 : wx.cell? ⟨w.heap.size, 4, none⟩ = some (.bool f.packed) := BF.cell 4
 have z5 : wx.cell? ⟨w.heap.size, 5, none⟩ = some (.int .i64 f.of_) := BF.cell 5
 have v0 : wx.cell? ⟨w.heap.size + 1, 0, none⟩ = some (.int .i64 v.number) := BV.cell 0
 have v1 : wx.cell? ⟨w.heap.size + 1, 1, none⟩ = some (.slice v.a.1 v.words.length v.a.2) := BV.cell 1
 have v2 : wx.cell? ⟨w.heap.size + 1, 2, none⟩ = some (.slice v.b.1 v.texts.length v.b.2) := BV.cell 2
 have v3 : wx.cell? ⟨w.heap.size + 1, 3, none⟩ = some (.slice v.c.1 v.subs.length v.c.2) := BV.cell 3
 have lf := BF.lt
 have lv := BV.lt
 have hX := Ext.refl wx
 clear BF BV hE
 go_wp2_with (first
  | (go_at_call 19; refine (alive20 _).mono ?_; rintro e w1 ⟨rfl, E1⟩; have X_ : Ext wx w1 := Ext.trans (by repeat with_reducible (first | exact Ext.refl _ | refine Ext.alloc ?_ _ | refine Ext.drew ?_ | refine Ext.drewN ?_ _ | refine Ext.setCell ?_ (by first | omega | (simp <;> omega)) _)) E1; replace hX := hX.up X_; replace hs := hs.up X_; replace hv := hv.up X_; replace z0 := X_.of_cell z0; replace z1 := X_.of_cell z1; replace z2 := X_.of_cell z2; replace z3 := X_.of_cell z3; replace z4 := X_.of_cell z4; replace z5 := X_.of_cell z5; replace v0 := X_.of_cell v0; replace v1 := X_.of_cell v1; replace v2 := X_.of_cell v2; replace v3 := X_.of_cell v3; clear X_)
  | (go_at_call 10; refine (few07 hs).mono ?_; rintro e w2 ⟨x, rfl, E2⟩; have X_ : Ext w1 w2 := Ext.trans (by repeat with_reducible (first | exact Ext.refl _ | refine Ext.alloc ?_ _ | refine Ext.drew ?_ | refine Ext.drewN ?_ _ | refine Ext.setCell ?_ (by first | omega | (simp <;> omega)) _)) E2; replace hX := hX.up X_; replace hs := hs.up X_; replace hv := hv.up X_; replace z0 := X_.of_cell z0; replace z1 := X_.of_cell z1; replace z2 := X_.of_cell z2; replace z3 := X_.of_cell z3; replace z4 := X_.of_cell z4; replace z5 := X_.of_cell z5; replace v0 := X_.of_cell v0; replace v1 := X_.of_cell v1; replace v2 := X_.of_cell v2; replace v3 := X_.of_cell v3; clear X_)
  | (go_at_call 20; refine (Hz.out _ hv).mono ?_; rintro e w4 ⟨y, rfl, p1, p2, p3, E4⟩; have X_ : Ext w2 w4 := Ext.trans (by repeat with_reducible (first | exact Ext.refl _ | refine Ext.alloc ?_ _ | refine Ext.drew ?_ | refine Ext.drewN ?_ _ | refine Ext.setCell ?_ (by first | omega | (simp <;> omega)) _)) E4; replace hX := hX.up X_; replace hs := hs.up X_; replace hv := hv.up X_; replace z0 := X_.of_cell z0; replace z1 := X_.of_cell z1; replace z2 := X_.of_cell z2; replace z3 := X_.of_cell z3; replace z4 := X_.of_cell z4; replace z5 := X_.of_cell z5; replace v0 := X_.of_cell v0; replace v1 := X_.of_cell v1; replace v2 := X_.of_cell v2; replace v3 := X_.of_cell v3; clear X_))
 · go_ret
   exact ⟨rfl, X0.trans hX⟩
 · replace lf := Nat.lt_of_lt_of_le lf hX.size
   replace lv := Nat.lt_of_lt_of_le lv hX.size
   have hsz : sizeU v ≤ 3000 := by
    have := p3 (by omega)
    omega
   have hsz2 : sizeU (bareV v) ≤ 3000 := by rw [sizeU_bare]; exact hsz
   clear p1 p2 p3
   have hX4 := X0.trans hX
   rw [Hr.out] at z3 ⊢
   go_wp2_with (first
    | (go_at_call 21; refine (Hl.out _ hs hv).mono ?_; rintro e w6 ⟨rfl, E6⟩; have X_ : Ext w4 w6 := Ext.trans (by repeat with_reducible (first | exact Ext.refl _ | refine Ext.alloc ?_ _ | refine Ext.drew ?_ | refine Ext.drewN ?_ _ | refine Ext.setCell ?_ (by first | omega | (simp <;> omega)) _)) E6; replace hX4 := hX4.up X_; replace hs := hs.up X_; replace hv := hv.up X_; replace z0 := X_.of_cell z0; replace z1 := X_.of_cell z1; replace z2 := X_.of_cell z2; replace z3 := X_.of_cell z3; replace z4 := X_.of_cell z4; replace z5 := X_.of_cell z5; replace v0 := X_.of_cell v0; replace v1 := X_.of_cell v1; replace v2 := X_.of_cell v2; replace v3 := X_.of_cell v3; clear X_; have lf6 := World.block_lt_of_cell? w6 _ z0;  have lv6 := World.block_lt_of_cell? w6 _ v0)
    | (go_at_call 22; refine (Ho.out _ hv).mono ?_; rintro e w7 ⟨u, rfl, q1, q2, _, E7⟩; have X_ : Ext w6 w7 := Ext.trans (by repeat with_reducible (first | exact Ext.refl _ | refine Ext.alloc ?_ _ | refine Ext.drew ?_ | refine Ext.drewN ?_ _ | refine Ext.setCell ?_ (by first | omega | (simp <;> omega)) _)) E7; replace hX4 := hX4.up X_; replace hs := hs.up X_; replace z0 := X_.of_cell z0; replace z1 := X_.of_cell z1; replace z2 := X_.of_cell z2; replace z3 := X_.of_cell z3; replace z4 := X_.of_cell z4; replace z5 := X_.of_cell z5; clear X_; have Hq1 := Lib.hid q1;  clear q1;  have lf7 := World.block_lt_of_cell? w7 _ z0)
    | (go_at_call 23; refine (Hra.out _ (hs.up (by repeat with_reducible (first | exact Ext.refl _ | refine Ext.alloc ?_ _ | refine Ext.drew ?_ | refine Ext.drewN ?_ _ | refine Ext.setCell ?_ (by first | omega | (simp <;> omega)) _)))).mono ?_; rintro e w8 ⟨rfl, E8⟩; have X_ : Ext w7 w8 := Ext.trans (by repeat with_reducible (first | exact Ext.refl _ | refine Ext.alloc ?_ _ | refine Ext.drew ?_ | refine Ext.drewN ?_ _ | refine Ext.setCell ?_ (by first | omega | (simp <;> omega)) _)) E8; have X8 := X_; replace hX4 := hX4.up X_; replace hs := hs.up X_; replace z0 := X_.of_cell z0; replace z1 := X_.of_cell z1; replace z2 := X_.of_cell z2; replace z3 := X_.of_cell z3; replace z4 := X_.of_cell z4; replace z5 := X_.of_cell z5; clear X_; have q3 := q2.up X8;  have BU := (BlkT.new w7 57 #[.int .i64 u.number, .slice u.a.1 u.words.length u.a.2, .slice u.b.1 u.texts.length u.b.2, .slice u.c.1 u.subs.length u.c.2] rfl).up E8;  have u0 : w8.cell? ⟨w7.heap.size, 0, none⟩ = some (.int .i64 u.number) := BU.cell 0;  have u1 : w8.cell? ⟨w7.heap.size, 1, none⟩ = some (.slice u.a.1 u.words.length u.a.2) := BU.cell 1;  have u2 : w8.cell? ⟨w7.heap.size, 2, none⟩ = some (.slice u.b.1 u.texts.length u.b.2) := BU.cell 2;  have u3 : w8.cell? ⟨w7.heap.size, 3, none⟩ = some (.slice u.c.1 u.subs.length u.c.2) := BU.cell 3;  clear BU)
    | (go_at_call 24; refine (Hfi.out _ u Hq1.out hs q3).mono ?_; rintro e w9 ⟨rfl, E9⟩; have X_ : Ext w8 w9 := Ext.trans (by repeat with_reducible (first | exact Ext.refl _ | refine Ext.alloc ?_ _ | refine Ext.drew ?_ | refine Ext.drewN ?_ _ | refine Ext.setCell ?_ (by first | omega | (simp <;> omega)) _)) E9; replace hX4 := hX4.up X_; replace hs := hs.up X_; replace q3 := q3.up X_; replace z0 := X_.of_cell z0; replace z1 := X_.of_cell z1; replace z2 := X_.of_cell z2; replace z3 := X_.of_cell z3; replace z4 := X_.of_cell z4; replace z5 := X_.of_cell z5; replace u0 := X_.of_cell u0; replace u1 := X_.of_cell u1; replace u2 := X_.of_cell u2; replace u3 := X_.of_cell u3; clear X_)
    | (go_at_call 25; refine (Hm.out _ u Hq1.out).mono ?_; rintro e w10 ⟨rfl, E10⟩; have X_ : Ext w9 w10 := Ext.trans (by repeat with_reducible (first | exact Ext.refl _ | refine Ext.alloc ?_ _ | refine Ext.drew ?_ | refine Ext.drewN ?_ _ | refine Ext.setCell ?_ (by first | omega | (simp <;> omega)) _)) E10; replace hX4 := hX4.up X_; replace hs := hs.up X_; replace q3 := q3.up X_; replace z0 := X_.of_cell z0; replace z1 := X_.of_cell z1; replace z2 := X_.of_cell z2; replace z3 := X_.of_cell z3; replace z4 := X_.of_cell z4; replace z5 := X_.of_cell z5; replace u0 := X_.of_cell u0; replace u1 := X_.of_cell u1; replace u2 := X_.of_cell u2; replace u3 := X_.of_cell u3; clear X_))
   all_goals
    go_ret
    exact ⟨ret_bool (by simp), hX4⟩
 · go_ret
   exact ⟨rfl, X0.trans hX⟩

set_option maxRecDepth 100000 in
set_option maxHeartbeats 4000000 in
theorem loadFroms_fit {A : Option Addr} {n c : Nat} {S : List MsgV} {f : FieldD} {v : ValR} {w : World} (hs : SchemaAt w A n c S) (hv : ValAt w v) (h1 : v.words.length ≤ 1048576 ∧ v.texts.length ≤ 1048576 ∧ v.subs.length ≤ 1048576) (h2 : ∀ t ∈ v.texts, t.data.toList.length ≤ 1048576) (h3 : ∀ y ∈ v.subs, FitT 1048576 y ∧ LongT 1048576 y) (h0 : argsL (S.map MsgV.d) f 0 = 0) (hf : FitP (S.map MsgV.d) f (bareV v)) :
  Calls Tryz.prog 4 #[.slice A n c, fieldV f, tvalV v] w fun e w' => e = .returned (.bool true) ∧ Ext w w' := by
 have hF := FitV.of_bulk h1 h2 h3
 have hE := Ext.refl w
 have hcap := hs.1.cap
 have hz := fun W (h : ValAt W v) => xSizeV (v := v) (fun y _ => xSize y) 70 W (by omega) (by omega) h h1 h2 h3
 have ho := fun W (k : ValAt W v) => tOfV (v := v) (fun y _ => tOf y) W k hF.lens.2.2 (fun y hy => (hF.subs y hy).1)
 have hm : ∀ W (u : ValR), bareV u = bareV v → Calls Tryz.prog 25 #[tvalV u] W fun e w' => e = .returned (.int .i64 (manyU (bareV v) : Nat)) ∧ Ext W w' := fun W u hu => by
  have hl := (show FitV 1000000000000 1000000000 (bareV u) by rw [hu]; exact hF).lens
  have := rManyW (u := u) (w := W) hl.1 hl.2.1 hl.2.2
  have e : manyU u = manyU (bareV v) := by rw [← hu]; unfold manyU bareV; simp
  rwa [e] at this
 have hra := fun W (h : SchemaAt W A n c S) => rArgs (f := f) (d := 0) h
 have hml : manyU (bareV v) ≤ 4000000 := by
  have e : manyU (bareV v) = v.words.length + v.texts.length + (v.subs.map bare).length := rfl
  rw [List.length_map] at e
  omega
 have hR : rightS (S.map MsgV.d) = true := by
  rcases hR : rightS (S.map MsgV.d) with _ | _
  · rw [argsL_ill hR] at h0
    cases h0
  · rfl
 have hfi : ∀ W (u : ValR), bareV u = bareV v → SchemaAt W A n c S → ValAt W u → Calls Tryz.prog 24 #[.slice A n c, fieldV f, tvalV u] W fun e w' => e = .returned (.bool (eqB (FitP (S.map MsgV.d) f (bareV v)))) ∧ Ext W w' := fun W u hu h k => by
  have := rFitsT (f := f) hR h k (by rw [hu]; exact hF)
  rwa [hu] at this
 rw [h0] at hra
 have hC : codeFL (S.map MsgV.d) f (bareV v) = 0 := codeFL_fine h0 (.inl hf)
 obtain ⟨D, hD⟩ := subs_depth (S := S.map MsgV.d) (f := f) (v := bareV v) (.inl hf)
 have hl := fun (hsz : sizeU (bareV v) ≤ 3000) W (h : SchemaAt W A n c S) (q : ValAt W v) => lFrom_ok h q hF hsz hC hD
 have hrf : sizeU (bareV v) ≤ 3000 → ∀ W (u : ValR), bareV u = bareV v → SchemaAt W A n c S → ValAt W u → Calls Tryz.prog 27 #[.slice A n c, fieldV f, tvalV u] W (MakesB (fromL (S.map MsgV.d) D f (bareV v)) W) := fun hsz W u hu h k => by
  have := rFrom_ok (D := D) (f := f) h k (by rw [hu]; exact hsz) (by rw [hu]; exact hC) (by rw [hu]; exact hD)
  rwa [hu] at this
 generalize fromL (S.map MsgV.d) D f (bareV v) = R at *
 unfold MakesB at hrf
 rw [eqB_yes hf] at hfi
 unfold SizeI at hz
 unfold fieldV tvalV at *
 have Hz := Lib.hid hz
 have Ho := Lib.hid ho
 have Hm := Lib.hid hm
 have Hra := Lib.hid hra
 have Hl := Lib.hid hl
 have Hfi := Lib.hid hfi
 have Hrf := Lib.hid hrf
 have HF := Lib.hid hF
 clear hz ho hm hra hF h1 h2 h3 hl hfi hrf hf h0 hR hC hD hml
 go_enter Tryz.func4, Tryz.ntmps4
 go_wp2_with fail
 have BF := (BlkT.new w 48 #[.string f.name, .int .i64 f.number, .int .i64 f.kind, .bool f.rep, .bool f.packed, .int .i64 f.of_] rfl).alloc (.cells #[.int .i64 v.number, .slice v.a.1 v.words.length v.a.2, .slice v.b.1 v.texts.length v.b.2, .slice v.c.1 v.subs.length v.c.2] 52)
 have BV := BlkT.new (w.alloc (.cells #[.string f.name, .int .i64 f.number, .int .i64 f.kind, .bool f.rep, .bool f.packed, .int .i64 f.of_] 48)) 52 #[.int .i64 v.number, .slice v.a.1 v.words.length v.a.2, .slice v.b.1 v.texts.length v.b.2, .slice v.c.1 v.subs.length v.c.2] (show w.heap.size + 1 = _ by simp)
 have X0 : Ext w ((w.alloc (.cells #[.string f.name, .int .i64 f.number, .int .i64 f.kind, .bool f.rep, .bool f.packed, .int .i64 f.of_] 48)).alloc (.cells #[.int .i64 v.number, .slice v.a.1 v.words.length v.a.2, .slice v.b.1 v.texts.length v.b.2, .slice v.c.1 v.subs.length v.c.2] 52)) := ((Ext.refl w).alloc _).alloc _
 generalize (w.alloc (.cells #[.string f.name, .int .i64 f.number, .int .i64 f.kind, .bool f.rep, .bool f.packed, .int .i64 f.of_] 48)).alloc (.cells #[.int .i64 v.number, .slice v.a.1 v.words.length v.a.2, .slice v.b.1 v.texts.length v.b.2, .slice v.c.1 v.subs.length v.c.2] 52) = wx at *
 replace hs := hs.up X0
 replace hv := hv.up X0
 have z0 : wx.cell? ⟨w.heap.size, 0, none⟩ = some (.string f.name) := BF.cell 0
 have z1 : wx.cell? ⟨w.heap.size, 1, none⟩ = some (.int .i64 f.number) := BF.cell 1
 have z2 : wx.cell? ⟨w.heap.size, 2, none⟩ = some (.int .i64 f.kind) := BF.cell 2
 have z3 : wx.cell? ⟨w.heap.size, 3, none⟩ = some (.bool f.rep) := BF.cell 3
 have z4 : wx.cell? ⟨w.heap.size, 4, none⟩ = some (.bool f.packed) := BF.cell 4
 have z5 : wx.cell? ⟨w.heap.size, 5, none⟩ = some (.int .i64 f.of_) := BF.cell 5
 have v0 : wx.cell? ⟨w.heap.size + 1, 0, none⟩ = some (.int .i64 v.number) := BV.cell 0
 have v1 : wx.cell? ⟨w.heap.size + 1, 1, none⟩ = some (.slice v.a.1 v.words.length v.a.2) := BV.cell 1
 have v2 : wx.cell? ⟨w.heap.size + 1, 2, none⟩ = some (.slice v.b.1 v.texts.length v.b.2) := BV.cell 2
 have v3 : wx.cell? ⟨w.heap.size + 1, 3, none⟩ = some (.slice v.c.1 v.subs.length v.c.2) := BV.cell 3
 have lf := BF.lt
 have lv := BV.lt
 have hX := Ext.refl wx
 clear BF BV hE
 go_wp2_with (first
  | (go_at_call 19; refine (alive20 _).mono ?_; rintro e w1 ⟨rfl, E1⟩; have X_ : Ext wx w1 := Ext.trans (by repeat with_reducible (first | exact Ext.refl _ | refine Ext.alloc ?_ _ | refine Ext.drew ?_ | refine Ext.drewN ?_ _ | refine Ext.setCell ?_ (by first | omega | (simp <;> omega)) _)) E1; replace hX := hX.up X_; replace hs := hs.up X_; replace hv := hv.up X_; replace z0 := X_.of_cell z0; replace z1 := X_.of_cell z1; replace z2 := X_.of_cell z2; replace z3 := X_.of_cell z3; replace z4 := X_.of_cell z4; replace z5 := X_.of_cell z5; replace v0 := X_.of_cell v0; replace v1 := X_.of_cell v1; replace v2 := X_.of_cell v2; replace v3 := X_.of_cell v3; clear X_)
  | (go_at_call 10; refine (few07 hs).mono ?_; rintro e w2 ⟨x, rfl, E2⟩; have X_ : Ext w1 w2 := Ext.trans (by repeat with_reducible (first | exact Ext.refl _ | refine Ext.alloc ?_ _ | refine Ext.drew ?_ | refine Ext.drewN ?_ _ | refine Ext.setCell ?_ (by first | omega | (simp <;> omega)) _)) E2; replace hX := hX.up X_; replace hs := hs.up X_; replace hv := hv.up X_; replace z0 := X_.of_cell z0; replace z1 := X_.of_cell z1; replace z2 := X_.of_cell z2; replace z3 := X_.of_cell z3; replace z4 := X_.of_cell z4; replace z5 := X_.of_cell z5; replace v0 := X_.of_cell v0; replace v1 := X_.of_cell v1; replace v2 := X_.of_cell v2; replace v3 := X_.of_cell v3; clear X_)
  | (go_at_call 20; refine (Hz.out _ hv).mono ?_; rintro e w4 ⟨y, rfl, p1, p2, p3, E4⟩; have X_ : Ext w2 w4 := Ext.trans (by repeat with_reducible (first | exact Ext.refl _ | refine Ext.alloc ?_ _ | refine Ext.drew ?_ | refine Ext.drewN ?_ _ | refine Ext.setCell ?_ (by first | omega | (simp <;> omega)) _)) E4; replace hX := hX.up X_; replace hs := hs.up X_; replace hv := hv.up X_; replace z0 := X_.of_cell z0; replace z1 := X_.of_cell z1; replace z2 := X_.of_cell z2; replace z3 := X_.of_cell z3; replace z4 := X_.of_cell z4; replace z5 := X_.of_cell z5; replace v0 := X_.of_cell v0; replace v1 := X_.of_cell v1; replace v2 := X_.of_cell v2; replace v3 := X_.of_cell v3; clear X_))
 · go_ret
   exact ⟨rfl, X0.trans hX⟩
 · replace lf := Nat.lt_of_lt_of_le lf hX.size
   replace lv := Nat.lt_of_lt_of_le lv hX.size
   have hsz : sizeU v ≤ 3000 := by
    have := p3 (by omega)
    omega
   have hsz2 : sizeU (bareV v) ≤ 3000 := by rw [sizeU_bare]; exact hsz
   clear p1 p2 p3
   have hX4 := X0.trans hX
   go_wp2_with (first
    | (go_at_call 21; refine (Hl.out hsz2 _ hs hv).mono ?_; rintro e w6 ⟨A6, n6, c6, rfl, hn6, hb6, E6⟩; have X_ : Ext w4 w6 := Ext.trans (by repeat with_reducible (first | exact Ext.refl _ | refine Ext.alloc ?_ _ | refine Ext.drew ?_ | refine Ext.drewN ?_ _ | refine Ext.setCell ?_ (by first | omega | (simp <;> omega)) _)) E6; replace hX4 := hX4.up X_; replace hs := hs.up X_; replace hv := hv.up X_; replace z0 := X_.of_cell z0; replace z1 := X_.of_cell z1; replace z2 := X_.of_cell z2; replace z3 := X_.of_cell z3; replace z4 := X_.of_cell z4; replace z5 := X_.of_cell z5; replace v0 := X_.of_cell v0; replace v1 := X_.of_cell v1; replace v2 := X_.of_cell v2; replace v3 := X_.of_cell v3; clear X_; have lf6 := World.block_lt_of_cell? w6 _ z0;  have lv6 := World.block_lt_of_cell? w6 _ v0)
    | (go_at_call 22; refine (Ho.out _ hv).mono ?_; rintro e w7 ⟨u, rfl, q1, q2, _, E7⟩; have X_ : Ext w6 w7 := Ext.trans (by repeat with_reducible (first | exact Ext.refl _ | refine Ext.alloc ?_ _ | refine Ext.drew ?_ | refine Ext.drewN ?_ _ | refine Ext.setCell ?_ (by first | omega | (simp <;> omega)) _)) E7; replace hX4 := hX4.up X_; replace hs := hs.up X_; replace hb6 := hb6.up X_; replace z0 := X_.of_cell z0; replace z1 := X_.of_cell z1; replace z2 := X_.of_cell z2; replace z3 := X_.of_cell z3; replace z4 := X_.of_cell z4; replace z5 := X_.of_cell z5; clear X_; have Hq1 := Lib.hid q1;  clear q1;  have lf7 := World.block_lt_of_cell? w7 _ z0)
    | (go_at_call 23; refine (Hra.out _ (hs.up (by repeat with_reducible (first | exact Ext.refl _ | refine Ext.alloc ?_ _ | refine Ext.drew ?_ | refine Ext.drewN ?_ _ | refine Ext.setCell ?_ (by first | omega | (simp <;> omega)) _)))).mono ?_; rintro e w8 ⟨rfl, E8⟩; have X_ : Ext w7 w8 := Ext.trans (by repeat with_reducible (first | exact Ext.refl _ | refine Ext.alloc ?_ _ | refine Ext.drew ?_ | refine Ext.drewN ?_ _ | refine Ext.setCell ?_ (by first | omega | (simp <;> omega)) _)) E8; have X8 := X_; replace hX4 := hX4.up X_; replace hs := hs.up X_; replace hb6 := hb6.up X_; replace z0 := X_.of_cell z0; replace z1 := X_.of_cell z1; replace z2 := X_.of_cell z2; replace z3 := X_.of_cell z3; replace z4 := X_.of_cell z4; replace z5 := X_.of_cell z5; clear X_; have q3 := q2.up X8;  have BU := (BlkT.new w7 57 #[.int .i64 u.number, .slice u.a.1 u.words.length u.a.2, .slice u.b.1 u.texts.length u.b.2, .slice u.c.1 u.subs.length u.c.2] rfl).up E8;  have u0 : w8.cell? ⟨w7.heap.size, 0, none⟩ = some (.int .i64 u.number) := BU.cell 0;  have u1 : w8.cell? ⟨w7.heap.size, 1, none⟩ = some (.slice u.a.1 u.words.length u.a.2) := BU.cell 1;  have u2 : w8.cell? ⟨w7.heap.size, 2, none⟩ = some (.slice u.b.1 u.texts.length u.b.2) := BU.cell 2;  have u3 : w8.cell? ⟨w7.heap.size, 3, none⟩ = some (.slice u.c.1 u.subs.length u.c.2) := BU.cell 3;  clear BU)
    | (go_at_call 24; refine (Hfi.out _ u Hq1.out hs q3).mono ?_; rintro e w9 ⟨rfl, E9⟩; have X_ : Ext w8 w9 := Ext.trans (by repeat with_reducible (first | exact Ext.refl _ | refine Ext.alloc ?_ _ | refine Ext.drew ?_ | refine Ext.drewN ?_ _ | refine Ext.setCell ?_ (by first | omega | (simp <;> omega)) _)) E9; replace hX4 := hX4.up X_; replace hs := hs.up X_; replace hb6 := hb6.up X_; replace q3 := q3.up X_; replace z0 := X_.of_cell z0; replace z1 := X_.of_cell z1; replace z2 := X_.of_cell z2; replace z3 := X_.of_cell z3; replace z4 := X_.of_cell z4; replace z5 := X_.of_cell z5; replace u0 := X_.of_cell u0; replace u1 := X_.of_cell u1; replace u2 := X_.of_cell u2; replace u3 := X_.of_cell u3; clear X_)
    | (go_at_call 27; refine (Hrf.out hsz2 _ u Hq1.out hs q3).mono ?_; rintro e w11 ⟨A11, n11, c11, rfl, hn11, own11⟩; have X_ : Ext w9 w11 := Ext.trans (by repeat with_reducible (first | exact Ext.refl _ | refine Ext.alloc ?_ _ | refine Ext.drew ?_ | refine Ext.drewN ?_ _ | refine Ext.setCell ?_ (by first | omega | (simp <;> omega)) _)) own11.ext; replace hX4 := hX4.up X_; replace hb6 := hb6.up X_; replace z0 := X_.of_cell z0; clear X_)
    | (go_at_call 26; refine (same hb6 (own11.reads : BytesAt _ _ _ _ R)).mono ?_; rintro e w12 ⟨rfl, hw12⟩; subst hw12))
   go_ret
   exact ⟨ret_bool (by simp), hX4⟩
 · go_ret
   exact ⟨rfl, X0.trans hX⟩

set_option maxRecDepth 100000 in
set_option maxHeartbeats 4000000 in
theorem loadFroms_none {A : Option Addr} {n c : Nat} {S : List MsgV} {f : FieldD} {v : ValR} {w : World} (hs : SchemaAt w A n c S) (hv : ValAt w v) (h1 : v.words.length ≤ 1048576 ∧ v.texts.length ≤ 1048576 ∧ v.subs.length ≤ 1048576) (h2 : ∀ t ∈ v.texts, t.data.toList.length ≤ 1048576) (h3 : ∀ y ∈ v.subs, FitT 1048576 y ∧ LongT 1048576 y) (h0 : argsL (S.map MsgV.d) f 0 = 0) (hf : ¬ FitP (S.map MsgV.d) f (bareV v)) (hn2 : manyU (bareV v) = 0) (hr : f.rep = true) :
  Calls Tryz.prog 4 #[.slice A n c, fieldV f, tvalV v] w fun e w' => e = .returned (.bool true) ∧ Ext w w' := by
 have hF := FitV.of_bulk h1 h2 h3
 have hE := Ext.refl w
 have hcap := hs.1.cap
 have hz := fun W (h : ValAt W v) => xSizeV (v := v) (fun y _ => xSize y) 70 W (by omega) (by omega) h h1 h2 h3
 have ho := fun W (k : ValAt W v) => tOfV (v := v) (fun y _ => tOf y) W k hF.lens.2.2 (fun y hy => (hF.subs y hy).1)
 have hm : ∀ W (u : ValR), bareV u = bareV v → Calls Tryz.prog 25 #[tvalV u] W fun e w' => e = .returned (.int .i64 (manyU (bareV v) : Nat)) ∧ Ext W w' := fun W u hu => by
  have hl := (show FitV 1000000000000 1000000000 (bareV u) by rw [hu]; exact hF).lens
  have := rManyW (u := u) (w := W) hl.1 hl.2.1 hl.2.2
  have e : manyU u = manyU (bareV v) := by rw [← hu]; unfold manyU bareV; simp
  rwa [e] at this
 have hra := fun W (h : SchemaAt W A n c S) => rArgs (f := f) (d := 0) h
 have hml : manyU (bareV v) ≤ 4000000 := by
  have e : manyU (bareV v) = v.words.length + v.texts.length + (v.subs.map bare).length := rfl
  rw [List.length_map] at e
  omega
 have hR : rightS (S.map MsgV.d) = true := by
  rcases hR : rightS (S.map MsgV.d) with _ | _
  · rw [argsL_ill hR] at h0
    cases h0
  · rfl
 have hfi : ∀ W (u : ValR), bareV u = bareV v → SchemaAt W A n c S → ValAt W u → Calls Tryz.prog 24 #[.slice A n c, fieldV f, tvalV u] W fun e w' => e = .returned (.bool (eqB (FitP (S.map MsgV.d) f (bareV v)))) ∧ Ext W w' := fun W u hu h k => by
  have := rFitsT (f := f) hR h k (by rw [hu]; exact hF)
  rwa [hu] at this
 rw [h0] at hra
 have hC : codeFL (S.map MsgV.d) f (bareV v) = 0 := codeFL_fine h0 (.inr ⟨hn2, hr⟩)
 obtain ⟨D, hD⟩ := subs_depth (S := S.map MsgV.d) (f := f) (v := bareV v) (.inr ⟨hn2, hr⟩)
 have hl := fun (hsz : sizeU (bareV v) ≤ 3000) W (h : SchemaAt W A n c S) (q : ValAt W v) => lFrom_ok h q hF hsz hC hD
 have hrf : sizeU (bareV v) ≤ 3000 → ∀ W (u : ValR), bareV u = bareV v → SchemaAt W A n c S → ValAt W u → Calls Tryz.prog 27 #[.slice A n c, fieldV f, tvalV u] W (MakesB (fromL (S.map MsgV.d) D f (bareV v)) W) := fun hsz W u hu h k => by
  have := rFrom_ok (D := D) (f := f) h k (by rw [hu]; exact hsz) (by rw [hu]; exact hC) (by rw [hu]; exact hD)
  rwa [hu] at this
 generalize fromL (S.map MsgV.d) D f (bareV v) = R at *
 unfold MakesB at hrf
 rw [eqB_no hf] at hfi
 rw [hn2] at hm
 rw [show ((0 : Nat) : Int) = 0 from rfl] at hm
 unfold SizeI at hz
 unfold fieldV tvalV at *
 rw [hr] at hl hra hfi hrf
 have Hz := Lib.hid hz
 have Ho := Lib.hid ho
 have Hm := Lib.hid hm
 have Hra := Lib.hid hra
 have Hl := Lib.hid hl
 have Hfi := Lib.hid hfi
 have Hrf := Lib.hid hrf
 have Hr := Lib.hid hr
 have HF := Lib.hid hF
 clear hz ho hm hra hF h1 h2 h3 hl hfi hrf hf h0 hR hC hD hml hn2 hr
 go_enter Tryz.func4, Tryz.ntmps4
 go_wp2_with fail
 have BF := (BlkT.new w 48 #[.string f.name, .int .i64 f.number, .int .i64 f.kind, .bool f.rep, .bool f.packed, .int .i64 f.of_] rfl).alloc (.cells #[.int .i64 v.number, .slice v.a.1 v.words.length v.a.2, .slice v.b.1 v.texts.length v.b.2, .slice v.c.1 v.subs.length v.c.2] 52)
 have BV := BlkT.new (w.alloc (.cells #[.string f.name, .int .i64 f.number, .int .i64 f.kind, .bool f.rep, .bool f.packed, .int .i64 f.of_] 48)) 52 #[.int .i64 v.number, .slice v.a.1 v.words.length v.a.2, .slice v.b.1 v.texts.length v.b.2, .slice v.c.1 v.subs.length v.c.2] (show w.heap.size + 1 = _ by simp)
 have X0 : Ext w ((w.alloc (.cells #[.string f.name, .int .i64 f.number, .int .i64 f.kind, .bool f.rep, .bool f.packed, .int .i64 f.of_] 48)).alloc (.cells #[.int .i64 v.number, .slice v.a.1 v.words.length v.a.2, .slice v.b.1 v.texts.length v.b.2, .slice v.c.1 v.subs.length v.c.2] 52)) := ((Ext.refl w).alloc _).alloc _
 generalize (w.alloc (.cells #[.string f.name, .int .i64 f.number, .int .i64 f.kind, .bool f.rep, .bool f.packed, .int .i64 f.of_] 48)).alloc (.cells #[.int .i64 v.number, .slice v.a.1 v.words.length v.a.2, .slice v.b.1 v.texts.length v.b.2, .slice v.c.1 v.subs.length v.c.2] 52) = wx at *
 replace hs := hs.up X0
 replace hv := hv.up X0
 have z0 : wx.cell? ⟨w.heap.size, 0, none⟩ = some (.string f.name) := BF.cell 0
 have z1 : wx.cell? ⟨w.heap.size, 1, none⟩ = some (.int .i64 f.number) := BF.cell 1
 have z2 : wx.cell? ⟨w.heap.size, 2, none⟩ = some (.int .i64 f.kind) := BF.cell 2
 have z3 : wx.cell? ⟨w.heap.size, 3, none⟩ = some (.bool f.rep) := BF.cell 3
 have z4 : wx.cell? ⟨w.heap.size, 4, none⟩ = some (.bool f.packed) := BF.cell 4
 have z5 : wx.cell? ⟨w.heap.size, 5, none⟩ = some (.int .i64 f.of_) := BF.cell 5
 have v0 : wx.cell? ⟨w.heap.size + 1, 0, none⟩ = some (.int .i64 v.number) := BV.cell 0
 have v1 : wx.cell? ⟨w.heap.size + 1, 1, none⟩ = some (.slice v.a.1 v.words.length v.a.2) := BV.cell 1
 have v2 : wx.cell? ⟨w.heap.size + 1, 2, none⟩ = some (.slice v.b.1 v.texts.length v.b.2) := BV.cell 2
 have v3 : wx.cell? ⟨w.heap.size + 1, 3, none⟩ = some (.slice v.c.1 v.subs.length v.c.2) := BV.cell 3
 have lf := BF.lt
 have lv := BV.lt
 have hX := Ext.refl wx
 clear BF BV hE
 go_wp2_with (first
  | (go_at_call 19; refine (alive20 _).mono ?_; rintro e w1 ⟨rfl, E1⟩; have X_ : Ext wx w1 := Ext.trans (by repeat with_reducible (first | exact Ext.refl _ | refine Ext.alloc ?_ _ | refine Ext.drew ?_ | refine Ext.drewN ?_ _ | refine Ext.setCell ?_ (by first | omega | (simp <;> omega)) _)) E1; replace hX := hX.up X_; replace hs := hs.up X_; replace hv := hv.up X_; replace z0 := X_.of_cell z0; replace z1 := X_.of_cell z1; replace z2 := X_.of_cell z2; replace z3 := X_.of_cell z3; replace z4 := X_.of_cell z4; replace z5 := X_.of_cell z5; replace v0 := X_.of_cell v0; replace v1 := X_.of_cell v1; replace v2 := X_.of_cell v2; replace v3 := X_.of_cell v3; clear X_)
  | (go_at_call 10; refine (few07 hs).mono ?_; rintro e w2 ⟨x, rfl, E2⟩; have X_ : Ext w1 w2 := Ext.trans (by repeat with_reducible (first | exact Ext.refl _ | refine Ext.alloc ?_ _ | refine Ext.drew ?_ | refine Ext.drewN ?_ _ | refine Ext.setCell ?_ (by first | omega | (simp <;> omega)) _)) E2; replace hX := hX.up X_; replace hs := hs.up X_; replace hv := hv.up X_; replace z0 := X_.of_cell z0; replace z1 := X_.of_cell z1; replace z2 := X_.of_cell z2; replace z3 := X_.of_cell z3; replace z4 := X_.of_cell z4; replace z5 := X_.of_cell z5; replace v0 := X_.of_cell v0; replace v1 := X_.of_cell v1; replace v2 := X_.of_cell v2; replace v3 := X_.of_cell v3; clear X_)
  | (go_at_call 20; refine (Hz.out _ hv).mono ?_; rintro e w4 ⟨y, rfl, p1, p2, p3, E4⟩; have X_ : Ext w2 w4 := Ext.trans (by repeat with_reducible (first | exact Ext.refl _ | refine Ext.alloc ?_ _ | refine Ext.drew ?_ | refine Ext.drewN ?_ _ | refine Ext.setCell ?_ (by first | omega | (simp <;> omega)) _)) E4; replace hX := hX.up X_; replace hs := hs.up X_; replace hv := hv.up X_; replace z0 := X_.of_cell z0; replace z1 := X_.of_cell z1; replace z2 := X_.of_cell z2; replace z3 := X_.of_cell z3; replace z4 := X_.of_cell z4; replace z5 := X_.of_cell z5; replace v0 := X_.of_cell v0; replace v1 := X_.of_cell v1; replace v2 := X_.of_cell v2; replace v3 := X_.of_cell v3; clear X_))
 · go_ret
   exact ⟨rfl, X0.trans hX⟩
 · replace lf := Nat.lt_of_lt_of_le lf hX.size
   replace lv := Nat.lt_of_lt_of_le lv hX.size
   have hsz : sizeU v ≤ 3000 := by
    have := p3 (by omega)
    omega
   have hsz2 : sizeU (bareV v) ≤ 3000 := by rw [sizeU_bare]; exact hsz
   clear p1 p2 p3
   have hX4 := X0.trans hX
   rw [Hr.out] at z3 ⊢
   go_wp2_with (first
    | (go_at_call 21; refine (Hl.out hsz2 _ hs hv).mono ?_; rintro e w6 ⟨A6, n6, c6, rfl, hn6, hb6, E6⟩; have X_ : Ext w4 w6 := Ext.trans (by repeat with_reducible (first | exact Ext.refl _ | refine Ext.alloc ?_ _ | refine Ext.drew ?_ | refine Ext.drewN ?_ _ | refine Ext.setCell ?_ (by first | omega | (simp <;> omega)) _)) E6; replace hX4 := hX4.up X_; replace hs := hs.up X_; replace hv := hv.up X_; replace z0 := X_.of_cell z0; replace z1 := X_.of_cell z1; replace z2 := X_.of_cell z2; replace z3 := X_.of_cell z3; replace z4 := X_.of_cell z4; replace z5 := X_.of_cell z5; replace v0 := X_.of_cell v0; replace v1 := X_.of_cell v1; replace v2 := X_.of_cell v2; replace v3 := X_.of_cell v3; clear X_; have lf6 := World.block_lt_of_cell? w6 _ z0;  have lv6 := World.block_lt_of_cell? w6 _ v0)
    | (go_at_call 22; refine (Ho.out _ hv).mono ?_; rintro e w7 ⟨u, rfl, q1, q2, _, E7⟩; have X_ : Ext w6 w7 := Ext.trans (by repeat with_reducible (first | exact Ext.refl _ | refine Ext.alloc ?_ _ | refine Ext.drew ?_ | refine Ext.drewN ?_ _ | refine Ext.setCell ?_ (by first | omega | (simp <;> omega)) _)) E7; replace hX4 := hX4.up X_; replace hs := hs.up X_; replace hb6 := hb6.up X_; replace z0 := X_.of_cell z0; replace z1 := X_.of_cell z1; replace z2 := X_.of_cell z2; replace z3 := X_.of_cell z3; replace z4 := X_.of_cell z4; replace z5 := X_.of_cell z5; clear X_; have Hq1 := Lib.hid q1;  clear q1;  have lf7 := World.block_lt_of_cell? w7 _ z0)
    | (go_at_call 23; refine (Hra.out _ (hs.up (by repeat with_reducible (first | exact Ext.refl _ | refine Ext.alloc ?_ _ | refine Ext.drew ?_ | refine Ext.drewN ?_ _ | refine Ext.setCell ?_ (by first | omega | (simp <;> omega)) _)))).mono ?_; rintro e w8 ⟨rfl, E8⟩; have X_ : Ext w7 w8 := Ext.trans (by repeat with_reducible (first | exact Ext.refl _ | refine Ext.alloc ?_ _ | refine Ext.drew ?_ | refine Ext.drewN ?_ _ | refine Ext.setCell ?_ (by first | omega | (simp <;> omega)) _)) E8; have X8 := X_; replace hX4 := hX4.up X_; replace hs := hs.up X_; replace hb6 := hb6.up X_; replace z0 := X_.of_cell z0; replace z1 := X_.of_cell z1; replace z2 := X_.of_cell z2; replace z3 := X_.of_cell z3; replace z4 := X_.of_cell z4; replace z5 := X_.of_cell z5; clear X_; have q3 := q2.up X8;  have BU := (BlkT.new w7 57 #[.int .i64 u.number, .slice u.a.1 u.words.length u.a.2, .slice u.b.1 u.texts.length u.b.2, .slice u.c.1 u.subs.length u.c.2] rfl).up E8;  have u0 : w8.cell? ⟨w7.heap.size, 0, none⟩ = some (.int .i64 u.number) := BU.cell 0;  have u1 : w8.cell? ⟨w7.heap.size, 1, none⟩ = some (.slice u.a.1 u.words.length u.a.2) := BU.cell 1;  have u2 : w8.cell? ⟨w7.heap.size, 2, none⟩ = some (.slice u.b.1 u.texts.length u.b.2) := BU.cell 2;  have u3 : w8.cell? ⟨w7.heap.size, 3, none⟩ = some (.slice u.c.1 u.subs.length u.c.2) := BU.cell 3;  clear BU)
    | (go_at_call 24; refine (Hfi.out _ u Hq1.out hs q3).mono ?_; rintro e w9 ⟨rfl, E9⟩; have X_ : Ext w8 w9 := Ext.trans (by repeat with_reducible (first | exact Ext.refl _ | refine Ext.alloc ?_ _ | refine Ext.drew ?_ | refine Ext.drewN ?_ _ | refine Ext.setCell ?_ (by first | omega | (simp <;> omega)) _)) E9; replace hX4 := hX4.up X_; replace hs := hs.up X_; replace hb6 := hb6.up X_; replace q3 := q3.up X_; replace z0 := X_.of_cell z0; replace z1 := X_.of_cell z1; replace z2 := X_.of_cell z2; replace z3 := X_.of_cell z3; replace z4 := X_.of_cell z4; replace z5 := X_.of_cell z5; replace u0 := X_.of_cell u0; replace u1 := X_.of_cell u1; replace u2 := X_.of_cell u2; replace u3 := X_.of_cell u3; clear X_)
    | (go_at_call 25; refine (Hm.out _ u Hq1.out).mono ?_; rintro e w10 ⟨rfl, E10⟩; have X_ : Ext w9 w10 := Ext.trans (by repeat with_reducible (first | exact Ext.refl _ | refine Ext.alloc ?_ _ | refine Ext.drew ?_ | refine Ext.drewN ?_ _ | refine Ext.setCell ?_ (by first | omega | (simp <;> omega)) _)) E10; replace hX4 := hX4.up X_; replace hs := hs.up X_; replace hb6 := hb6.up X_; replace q3 := q3.up X_; replace z0 := X_.of_cell z0; replace z1 := X_.of_cell z1; replace z2 := X_.of_cell z2; replace z3 := X_.of_cell z3; replace z4 := X_.of_cell z4; replace z5 := X_.of_cell z5; replace u0 := X_.of_cell u0; replace u1 := X_.of_cell u1; replace u2 := X_.of_cell u2; replace u3 := X_.of_cell u3; clear X_)
    | (go_at_call 27; refine (Hrf.out hsz2 _ u Hq1.out hs q3).mono ?_; rintro e w11 ⟨A11, n11, c11, rfl, hn11, own11⟩; have X_ : Ext w10 w11 := Ext.trans (by repeat with_reducible (first | exact Ext.refl _ | refine Ext.alloc ?_ _ | refine Ext.drew ?_ | refine Ext.drewN ?_ _ | refine Ext.setCell ?_ (by first | omega | (simp <;> omega)) _)) own11.ext; replace hX4 := hX4.up X_; replace hb6 := hb6.up X_; replace z0 := X_.of_cell z0; clear X_)
    | (go_at_call 26; refine (same hb6 (own11.reads : BytesAt _ _ _ _ R)).mono ?_; rintro e w12 ⟨rfl, hw12⟩; subst hw12))
   go_ret
   exact ⟨ret_bool (by simp), hX4⟩
 · go_ret
   exact ⟨rfl, X0.trans hX⟩

theorem loadFroms_walk {A : Option Addr} {n c : Nat} {S : List MsgV} {f : FieldD} {v : ValR} {w : World} (hs : SchemaAt w A n c S) (hf : f.Ok) (hv : ValAt w v) (h1 : v.words.length ≤ 1048576 ∧ v.texts.length ≤ 1048576 ∧ v.subs.length ≤ 1048576) (h2 : ∀ t ∈ v.texts, t.data.toList.length ≤ 1048576) (h3 : ∀ y ∈ v.subs, FitT 1048576 y ∧ LongT 1048576 y) :
  Calls Tryz.prog 4 #[.slice A n c, fieldV f, tvalV v] w fun e w' => e = .returned (.bool true) ∧ Ext w w' := by
 by_cases h0 : argsL (S.map MsgV.d) f 0 = 0
 · by_cases hfit : FitP (S.map MsgV.d) f (bareV v)
   · exact loadFroms_fit hs hv h1 h2 h3 h0 hfit
   · by_cases hm : manyU (bareV v) = 0
     · rcases hr : f.rep with _ | _
       · exact loadFroms_form1 hs hv h1 h2 h3 h0 hfit (by rw [hr]; rintro ⟨_, q⟩; cases q) hm hr
       · exact loadFroms_none hs hv h1 h2 h3 h0 hfit hm hr
     · exact loadFroms_form0 hs hv h1 h2 h3 h0 hfit (fun q => hm q.1) hm
 · exact loadFroms_args hs hv h1 h2 h3 h0

end Go.Proofs.YtnnphodgegcddaaGreat
