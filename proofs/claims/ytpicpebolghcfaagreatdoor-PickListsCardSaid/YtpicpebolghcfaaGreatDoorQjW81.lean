/- Contracts of layer 22: Words and Texts. -/
import Derived.Test.YtpicpebolghcfaaGreatDoorQjW80
import Derived.Test.YtpicpebolghcfaaGreatDoorQjS53

namespace Go.Proofs.YtpicpebolghcfaaGreatDoor
open Go.RowKit Go.Shelf
set_option linter.unusedVariables false
set_option linter.unusedSimpArgs false

theorem rows_list {w0 w : World} {e : TypeId} : ∀ {vs : List Value} {rows : List (List UInt8)}, Rows w0 w e vs rows → ∃ l : List BRow, l.map browV = vs ∧ bytesR l = rows ∧ ∀ r ∈ l, BytesAt w r.A r.n r.c r.bs
  | [], rows, h => by
    have := h.len
    simp only [List.length_nil] at this
    obtain rfl := List.length_eq_zero_iff.1 this.symm
    exact ⟨[], rfl, rfl, fun r hr => by cases hr⟩
  | v :: vs, [], h => by
    have := h.len
    simp at this
  | v :: vs, x :: rows, h => by
    obtain ⟨A, n, c, hv, hl, own⟩ := h.row 0 x rfl
    simp only [List.getElem?_cons_zero, Option.some.injEq] at hv
    obtain ⟨l, h1, h2, h3⟩ := rows_list (vs := vs) (rows := rows) ⟨by have := h.len; simpa using this, fun i r hr => by
      obtain ⟨A', n', c', q1, q2, q3⟩ := h.row (i + 1) r (by simpa using hr)
      exact ⟨A', n', c', by simpa using q1, q2, q3⟩⟩
    refine ⟨⟨A, n, c, x⟩ :: l, by rw [List.map_cons, h1, hv]; rfl, by unfold bytesR at h2 ⊢; rw [List.map_cons, h2], fun r hr => ?_⟩
    rcases List.mem_cons.1 hr with rfl | hr
    · exact own.reads
    · exact h3 r hr

section
variable {A B : Option Addr} {n c m k : Nat} {S : List MsgV} {root d : Int} {p : ByteArray} {bs : List UInt8} {w : World}

theorem pOf_no {g : FuncId} {q : Bool} (eg : ∀ args w, (callFunc g args).run Tryz.prog w = .ok (.enter g args) w) (hs : SchemaAt w A n c S) (hb : BytesAt w B m k bs) (hm : m ≤ 1000000000) (hp : p.size ≤ maxLen) (hK : (wayAtV (S.map MsgV.d) root d p bs).2 = 0) {f : FieldD} (hf : OnWay (S.map MsgV.d) root.toNat (wayAtV (S.map MsgV.d) root d p bs).1 f)
    (hq : ∀ W, Calls Tryz.prog g #[.int .i64 f.kind] W fun e W' => e = .returned (.bool q) ∧ Ext W W') {C : Nat} (hC : codeOf q f (atP (S.map MsgV.d) root d p bs) = C) (h0 : C ≠ 0) :
    Calls Tryz.prog 30 #[.slice A n c, .int .i64 root, .slice B m k, .int .i64 d, .string p, .func (.func g) #[] #[]] w fun e w' => ∃ A' n' c', e = .returned (.tuple #[foundV f A' n' c', .slice none 0 0, .int .u8 (C : Int)]) ∧ Ext w w' := by
  refine (pOf_ok eg (root := root) (d := d) hs hb hm hp hK hf hq).mono ?_
  rintro e w' (⟨_, A', n', c', h1, h2⟩ | ⟨h1, _⟩)
  · rw [hC] at h1
    exact ⟨A', n', c', h1, h2⟩
  · exact absurd (hC.symm.trans h1) h0

theorem pOf_yes {g : FuncId} {q : Bool} (eg : ∀ args w, (callFunc g args).run Tryz.prog w = .ok (.enter g args) w) (hs : SchemaAt w A n c S) (hb : BytesAt w B m k bs) (hm : m ≤ 1000000000) (hp : p.size ≤ maxLen) (hK : (wayAtV (S.map MsgV.d) root d p bs).2 = 0) {f : FieldD} (hf : OnWay (S.map MsgV.d) root.toNat (wayAtV (S.map MsgV.d) root d p bs).1 f)
    (hq : ∀ W, Calls Tryz.prog g #[.int .i64 f.kind] W fun e W' => e = .returned (.bool q) ∧ Ext W W') (hC : codeOf q f (atP (S.map MsgV.d) root d p bs) = 0) :
    Calls Tryz.prog 30 #[.slice A n c, .int .i64 root, .slice B m k, .int .i64 d, .string p, .func (.func g) #[] #[]] w fun e w' => ∃ l A' n' c' L kc, e = .returned (.tuple #[foundV f A' n' c', .slice L (loadP f (atP (S.map MsgV.d) root d p bs)).length kc, .int .u8 0]) ∧ BRowsAt w' A' n' c' l ∧ bytesR l = atP (S.map MsgV.d) root d p bs ∧
      BytesAt w' L (loadP f (atP (S.map MsgV.d) root d p bs)).length kc (loadP f (atP (S.map MsgV.d) root d p bs)) ∧ Ext w w' := by
  refine (pOf_ok eg (root := root) (d := d) hs hb hm hp hK hf hq).mono ?_
  rintro e w' (⟨h1, _⟩ | ⟨_, l, A', n', c', L, kc, h⟩)
  · exact absurd hC h1
  · exact ⟨l, A', n', c', L, kc, h⟩

set_option maxRecDepth 100000 in
theorem pWords_bad (hs : SchemaAt w A n c S) (hb : BytesAt w B m k bs) (hm : m ≤ 1000000000) (hp : p.size ≤ maxLen) {K : Nat} (hK : (wayAtV (S.map MsgV.d) root d p bs).2 = K) (h0 : K ≠ 0) :
    Calls Tryz.prog 8 #[.slice A n c, .int .i64 root, .slice B m k, .int .i64 d, .string p] w fun e w' => e = .returned (.tuple #[.slice none 0 0, .int .u8 (K : Int)]) ∧ Ext w w' := by
  have hof := fun W (a : SchemaAt W A n c S) (b : BytesAt W B m k bs) => pOf_bad (g := 31) (root := root) (d := d) a b hm hp hK h0
  have Hof := Lib.hid hof
  have q : ((K : Int) != 0) = true := by rw [bne_iff_ne]; omega
  clear hof hK h0
  unfold foundV noField at Hof
  simp only at Hof
  go_enter Tryz.func8, Tryz.ntmps8
  go_wp2_with (go_at_call 30; refine (Hof.out _ hs hb).mono ?_; rintro e w1 ⟨rfl, E1⟩)
  go_ret2
  exact ⟨rfl, Ext.trans E1 (by repeat with_reducible (first | exact Ext.refl _ | refine Ext.alloc ?_ _ | refine Ext.drew ?_ | refine Ext.drewN ?_ _ | refine Ext.setCell ?_ (by first | exact Nat.le_refl _ | omega | (simp; done) | (simp; omega)) _))⟩

set_option maxRecDepth 100000 in
theorem pTexts_bad (hs : SchemaAt w A n c S) (hb : BytesAt w B m k bs) (hm : m ≤ 1000000000) (hp : p.size ≤ maxLen) {K : Nat} (hK : (wayAtV (S.map MsgV.d) root d p bs).2 = K) (h0 : K ≠ 0) :
    Calls Tryz.prog 9 #[.slice A n c, .int .i64 root, .slice B m k, .int .i64 d, .string p] w fun e w' => e = .returned (.tuple #[.slice none 0 0, .int .u8 (K : Int)]) ∧ Ext w w' := by
  have hof := fun W (a : SchemaAt W A n c S) (b : BytesAt W B m k bs) => pOf_bad (g := 33) (root := root) (d := d) a b hm hp hK h0
  have Hof := Lib.hid hof
  have q : ((K : Int) != 0) = true := by rw [bne_iff_ne]; omega
  clear hof hK h0
  unfold foundV noField at Hof
  simp only at Hof
  go_enter Tryz.func9, Tryz.ntmps9
  go_wp2_with (go_at_call 30; refine (Hof.out _ hs hb).mono ?_; rintro e w1 ⟨rfl, E1⟩)
  go_ret2
  exact ⟨rfl, Ext.trans E1 (by repeat with_reducible (first | exact Ext.refl _ | refine Ext.alloc ?_ _ | refine Ext.drew ?_ | refine Ext.drewN ?_ _ | refine Ext.setCell ?_ (by first | exact Nat.le_refl _ | omega | (simp; done) | (simp; omega)) _))⟩

def wordsAt (f : FieldD) (ps : List (List UInt8)) : List Nat × Nat := if codeOf (numberB f.kind) f ps ≠ 0 then ([], codeOf (numberB f.kind) f ps) else wordsV f.kind (loadP f ps)

set_option maxRecDepth 100000 in
set_option maxHeartbeats 1000000 in
theorem pWords_ok (hs : SchemaAt w A n c S) (hb : BytesAt w B m k bs) (hm : m ≤ 1000000000) (hp : p.size ≤ maxLen) (hK : (wayAtV (S.map MsgV.d) root d p bs).2 = 0) {f : FieldD} (hf : OnWay (S.map MsgV.d) root.toNat (wayAtV (S.map MsgV.d) root d p bs).1 f) :
    Calls Tryz.prog 8 #[.slice A n c, .int .i64 root, .slice B m k, .int .i64 d, .string p] w fun e w' => ∃ A' c', e = .returned (.tuple #[.slice A' (wordsAt f (atP (S.map MsgV.d) root d p bs)).1.length c', .int .u8 ((wordsAt f (atP (S.map MsgV.d) root d p bs)).2 : Nat)]) ∧
      Own w w' 68 1 A' (wordsAt f (atP (S.map MsgV.d) root d p bs)).1.length c' ((wordsAt f (atP (S.map MsgV.d) root d p bs)).1.map uv) := by
  have eg : ∀ args w, (callFunc 31 args).run Tryz.prog w = .ok (.enter 31 args) w := enters_of Tryz.func31 (by kernel_rfl) rfl
  have hq := fun W => kNumber f.kind W
  unfold wordsAt
  by_cases hC : codeOf (numberB f.kind) f (atP (S.map MsgV.d) root d p bs) = 0
  · have hnum : numberB f.kind = true := by
      rcases hk : numberB f.kind with _ | _
      · unfold codeOf at hC
        rw [hk, if_pos rfl] at hC
        cases hC
      · rfl
    have hof := fun W (a : SchemaAt W A n c S) (b : BytesAt W B m k bs) => pOf_yes eg (root := root) (d := d) a b hm hp hK hf hq hC
    rw [if_neg (by simp [hC])]
    have hsm := load_small (f := f) (ps := atP (S.map MsgV.d) root d p bs) hnum (by
      have := piecesW_le (S.map MsgV.d) (wayAtV (S.map MsgV.d) root d p bs).1 root.toNat bs
      have := hb.length
      unfold atP
      omega)
    have Hof := Lib.hid hof
    clear hof hK hf hC hq hnum
    generalize atP (S.map MsgV.d) root d p bs = ps at Hof hsm ⊢
    obtain ⟨fname, fnum, fkind, frep, fpk, fof⟩ := f
    generalize loadP ⟨fname, fnum, fkind, frep, fpk, fof⟩ ps = LD at Hof hsm ⊢
    obtain ⟨ll, hll⟩ : ∃ ll, ll = LD.length := ⟨_, rfl⟩
    rw [← hll] at Hof hsm
    have huw := fun W L kc (h : BytesAt W L ll kc LD) => uWords (k := fkind) h hsm
    have Huw := Lib.hid huw
    clear huw hll
    go_enter Tryz.func8, Tryz.ntmps8
    go_wp2_with (go_at_call 30; refine (Hof.out _ hs hb).mono ?_; rintro e w1 ⟨l, A1, n1, k1, L1, kc1, rfl, hB1, hps, hL1, E1⟩; unfold foundV; have BX := BlkT.new w1 79 (foundC ⟨fname, fnum, fkind, frep, fpk, fof⟩ A1 n1 k1) rfl; unfold foundC at BX; have X2 : Ext w1 (w1.alloc (.cells #[.string fname, .int .i64 fnum, .int .i64 fkind, .bool frep, .bool fpk, .int .i64 fof, .slice A1 n1 k1] 79)) := (by repeat with_reducible (first | exact Ext.refl _ | refine Ext.alloc ?_ _ | refine Ext.drew ?_ | refine Ext.drewN ?_ _ | refine Ext.setCell ?_ (by first | exact Nat.le_refl _ | omega | (simp; done) | (simp; omega)) _)); have Hps := Lib.hid hps; clear hps)
    generalize w1.alloc (.cells #[.string fname, .int .i64 fnum, .int .i64 fkind, .bool frep, .bool fpk, .int .i64 fof, .slice A1 n1 k1] 79) = wy at *
    have c0 : wy.cell? ⟨w1.heap.size, 0, none⟩ = some (.string fname) := BX.cell 0
    have c1 : wy.cell? ⟨w1.heap.size, 1, none⟩ = some (.int .i64 fnum) := BX.cell 1
    have c2 : wy.cell? ⟨w1.heap.size, 2, none⟩ = some (.int .i64 fkind) := BX.cell 2
    have c3 : wy.cell? ⟨w1.heap.size, 3, none⟩ = some (.bool frep) := BX.cell 3
    have c4 : wy.cell? ⟨w1.heap.size, 4, none⟩ = some (.bool fpk) := BX.cell 4
    have c5 : wy.cell? ⟨w1.heap.size, 5, none⟩ = some (.int .i64 fof) := BX.cell 5
    have c6 : wy.cell? ⟨w1.heap.size, 6, none⟩ = some (.slice A1 n1 k1) := BX.cell 6
    have cl := BX.lt
    have X3 := E1.trans X2
    go_wp2_with (go_at_call 32; refine (Huw.out _ _ _ (hL1.up X2)).mono ?_; rintro e w3 ⟨A3, k3, rfl, own3⟩)
    go_ret2
    exact ⟨A3, k3, rfl, own3.since X3⟩
  · have hof := fun W (a : SchemaAt W A n c S) (b : BytesAt W B m k bs) => pOf_no eg (root := root) (d := d) a b hm hp hK hf hq rfl hC
    rw [if_pos hC]
    generalize codeOf (numberB f.kind) f (atP (S.map MsgV.d) root d p bs) = C at *
    have q : ((C : Int) != 0) = true := by rw [bne_iff_ne]; omega
    have Hof := Lib.hid hof
    clear hof hK hf hC hq
    obtain ⟨fname, fnum, fkind, frep, fpk, fof⟩ := f
    go_enter Tryz.func8, Tryz.ntmps8
    go_wp2_with (go_at_call 30; refine (Hof.out _ hs hb).mono ?_; rintro e w1 ⟨A1, n1, k1, rfl, E1⟩; unfold foundV)
    go_ret2
    exact ⟨none, 0, rfl, Own.nil (E1.trans (by repeat with_reducible (first | exact Ext.refl _ | refine Ext.alloc ?_ _ | refine Ext.drew ?_ | refine Ext.drewN ?_ _ | refine Ext.setCell ?_ (by first | exact Nat.le_refl _ | omega | (simp; done) | (simp; omega)) _))) _ 1⟩

def textB (k : Int) : Bool := k == 15 || k == 16

def textsAt (f : FieldD) (ps : List (List UInt8)) : List (List UInt8) := if f.rep = true then ps else [loadP f ps]

set_option maxRecDepth 100000 in
theorem pTexts_no (hs : SchemaAt w A n c S) (hb : BytesAt w B m k bs) (hm : m ≤ 1000000000) (hp : p.size ≤ maxLen) (hK : (wayAtV (S.map MsgV.d) root d p bs).2 = 0) {f : FieldD} (hf : OnWay (S.map MsgV.d) root.toNat (wayAtV (S.map MsgV.d) root d p bs).1 f) {C : Nat} (hC : codeOf (textB f.kind) f (atP (S.map MsgV.d) root d p bs) = C) (h0 : C ≠ 0) :
    Calls Tryz.prog 9 #[.slice A n c, .int .i64 root, .slice B m k, .int .i64 d, .string p] w fun e w' => e = .returned (.tuple #[.slice none 0 0, .int .u8 (C : Int)]) ∧ Ext w w' := by
  have eg : ∀ args w, (callFunc 33 args).run Tryz.prog w = .ok (.enter 33 args) w := enters_of Tryz.func33 (by kernel_rfl) rfl
  have hof := fun W (a : SchemaAt W A n c S) (b : BytesAt W B m k bs) => pOf_no eg (root := root) (d := d) a b hm hp hK hf (fun W => pText f.kind W) hC h0
  have q : ((C : Int) != 0) = true := by rw [bne_iff_ne]; omega
  have Hof := Lib.hid hof
  clear hof hK hf hC h0
  obtain ⟨fname, fnum, fkind, frep, fpk, fof⟩ := f
  go_enter Tryz.func9, Tryz.ntmps9
  go_wp2_with (go_at_call 30; refine (Hof.out _ hs hb).mono ?_; rintro e w1 ⟨A1, n1, k1, rfl, E1⟩; unfold foundV)
  go_ret2
  exact ⟨rfl, E1.trans (by repeat with_reducible (first | exact Ext.refl _ | refine Ext.alloc ?_ _ | refine Ext.drew ?_ | refine Ext.drewN ?_ _ | refine Ext.setCell ?_ (by first | exact Nat.le_refl _ | omega | (simp; done) | (simp; omega)) _))⟩

set_option maxRecDepth 100000 in
set_option maxHeartbeats 1000000 in
theorem pTexts_ok (hs : SchemaAt w A n c S) (hb : BytesAt w B m k bs) (hm : m ≤ 1000000000) (hp : p.size ≤ maxLen) (hK : (wayAtV (S.map MsgV.d) root d p bs).2 = 0) {f : FieldD} (hf : OnWay (S.map MsgV.d) root.toNat (wayAtV (S.map MsgV.d) root d p bs).1 f) (hC : codeOf (textB f.kind) f (atP (S.map MsgV.d) root d p bs) = 0) :
    Calls Tryz.prog 9 #[.slice A n c, .int .i64 root, .slice B m k, .int .i64 d, .string p] w fun e w' => ∃ l A' n' c', e = .returned (.tuple #[.slice A' n' c', .int .u8 0]) ∧ BRowsAt w' A' n' c' l ∧ bytesR l = textsAt f (atP (S.map MsgV.d) root d p bs) ∧ Ext w w' := by
  have eg : ∀ args w, (callFunc 33 args).run Tryz.prog w = .ok (.enter 33 args) w := enters_of Tryz.func33 (by kernel_rfl) rfl
  have hof := fun W (a : SchemaAt W A n c S) (b : BytesAt W B m k bs) => pOf_yes eg (root := root) (d := d) a b hm hp hK hf (fun W => pText f.kind W) hC
  have Hof := Lib.hid hof
  have hpl := piecesW_le (S.map MsgV.d) (wayAtV (S.map MsgV.d) root d p bs).1 root.toNat bs
  have hbl := hb.length
  have hps1 : (atP (S.map MsgV.d) root d p bs).length ≤ 1000000000 := by unfold atP; omega
  have hps2 : ∀ x ∈ atP (S.map MsgV.d) root d p bs, x.length ≤ 1000000000 := fun x hx => by have := piece_le hx; unfold atP at this; omega
  clear hof hK hf hC hpl hbl
  unfold textsAt
  generalize atP (S.map MsgV.d) root d p bs = ps at Hof hps1 hps2 ⊢
  obtain ⟨fname, fnum, fkind, frep, fpk, fof⟩ := f
  cases frep with
  | false =>
    rw [if_neg (by simp)]
    generalize loadP ⟨fname, fnum, fkind, false, fpk, fof⟩ ps = LD at Hof ⊢
    obtain ⟨ll, hll⟩ : ∃ ll, ll = LD.length := ⟨_, rfl⟩
    rw [← hll] at Hof
    clear hll hps1 hps2
    go_enter Tryz.func9, Tryz.ntmps9
    go_wp2_with (go_at_call 30; refine (Hof.out _ hs hb).mono ?_; rintro e w1 ⟨l, A1, n1, k1, L1, kc1, rfl, hB1, hps, hL1, E1⟩; unfold foundV; have BX := BlkT.new w1 79 (foundC ⟨fname, fnum, fkind, false, fpk, fof⟩ A1 n1 k1) rfl; unfold foundC at BX; have X2 : Ext w1 (w1.alloc (.cells #[.string fname, .int .i64 fnum, .int .i64 fkind, .bool false, .bool fpk, .int .i64 fof, .slice A1 n1 k1] 79)) := (by repeat with_reducible (first | exact Ext.refl _ | refine Ext.alloc ?_ _ | refine Ext.drew ?_ | refine Ext.drewN ?_ _ | refine Ext.setCell ?_ (by first | exact Nat.le_refl _ | omega | (simp; done) | (simp; omega)) _)); have Hps := Lib.hid hps; clear hps)
    have hzy : (w1.alloc (.cells #[.string fname, .int .i64 fnum, .int .i64 fkind, .bool false, .bool fpk, .int .i64 fof, .slice A1 n1 k1] 79)).heap.size = w1.heap.size + 1 := by simp
    have Hzy := Lib.hid hzy
    clear hzy
    generalize w1.alloc (.cells #[.string fname, .int .i64 fnum, .int .i64 fkind, .bool false, .bool fpk, .int .i64 fof, .slice A1 n1 k1] 79) = wy at *
    have c0 : wy.cell? ⟨w1.heap.size, 0, none⟩ = some (.string fname) := BX.cell 0
    have c1 : wy.cell? ⟨w1.heap.size, 1, none⟩ = some (.int .i64 fnum) := BX.cell 1
    have c2 : wy.cell? ⟨w1.heap.size, 2, none⟩ = some (.int .i64 fkind) := BX.cell 2
    have c3 : wy.cell? ⟨w1.heap.size, 3, none⟩ = some (.bool false) := BX.cell 3
    have c4 : wy.cell? ⟨w1.heap.size, 4, none⟩ = some (.bool fpk) := BX.cell 4
    have c5 : wy.cell? ⟨w1.heap.size, 5, none⟩ = some (.int .i64 fof) := BX.cell 5
    have c6 : wy.cell? ⟨w1.heap.size, 6, none⟩ = some (.slice A1 n1 k1) := BX.cell 6
    have cl := BX.lt
    go_wp2
    go_ret2
    have hr := (Own.made (Ext.refl wy) 24 1 (cs := [.slice L1 ll kc1]) (n := 1) (by simp [maxLen]) rfl).reads
    rw [Hzy.out] at hr
    exact ⟨[⟨L1, ll, kc1, LD⟩], some ⟨w1.heap.size + 1, 0, none⟩, 1, 1, rfl, ⟨hr, fun r hr => by rw [List.mem_singleton] at hr; subst hr; exact hL1.up (X2.alloc _)⟩, rfl, (E1.trans X2).alloc _⟩
  | true =>
    rw [if_pos rfl]
    have Hp1 := Lib.hid hps1
    have Hp2 := Lib.hid hps2
    clear hps1 hps2
    go_enter Tryz.func9, Tryz.ntmps9
    go_wp2_with (go_at_call 30; refine (Hof.out _ hs hb).mono ?_; rintro e w1 ⟨l, A1, n1, k1, L1, kc1, rfl, hB1, hps, hL1, E1⟩; unfold foundV; have BX := BlkT.new w1 79 (foundC ⟨fname, fnum, fkind, true, fpk, fof⟩ A1 n1 k1) rfl; unfold foundC at BX; have X2 : Ext w1 (w1.alloc (.cells #[.string fname, .int .i64 fnum, .int .i64 fkind, .bool true, .bool fpk, .int .i64 fof, .slice A1 n1 k1] 79)) := (by repeat with_reducible (first | exact Ext.refl _ | refine Ext.alloc ?_ _ | refine Ext.drew ?_ | refine Ext.drewN ?_ _ | refine Ext.setCell ?_ (by first | exact Nat.le_refl _ | omega | (simp; done) | (simp; omega)) _)); have Hps := Lib.hid hps; clear hps)
    generalize w1.alloc (.cells #[.string fname, .int .i64 fnum, .int .i64 fkind, .bool true, .bool fpk, .int .i64 fof, .slice A1 n1 k1] 79) = wy at *
    have c0 : wy.cell? ⟨w1.heap.size, 0, none⟩ = some (.string fname) := BX.cell 0
    have c1 : wy.cell? ⟨w1.heap.size, 1, none⟩ = some (.int .i64 fnum) := BX.cell 1
    have c2 : wy.cell? ⟨w1.heap.size, 2, none⟩ = some (.int .i64 fkind) := BX.cell 2
    have c3 : wy.cell? ⟨w1.heap.size, 3, none⟩ = some (.bool true) := BX.cell 3
    have c4 : wy.cell? ⟨w1.heap.size, 4, none⟩ = some (.bool fpk) := BX.cell 4
    have c5 : wy.cell? ⟨w1.heap.size, 5, none⟩ = some (.int .i64 fof) := BX.cell 5
    have c6 : wy.cell? ⟨w1.heap.size, 6, none⟩ = some (.slice A1 n1 k1) := BX.cell 6
    have cl := BX.lt
    have hB2 := hB1.up X2
    have HB2 := Lib.hid hB2
    have hnl := hB2.length
    have hn1 : n1 ≤ 1000000000 := by have := congrArg List.length Hps.out; unfold bytesR at this; rw [List.length_map, hnl] at this; have := Hp1.out; omega
    have X3 := E1.trans X2
    have HX3 := Lib.hid X3
    have Hnl := Lib.hid hnl
    clear hB2 hnl hL1 X3
    go_wp2_with fail
    go_loopw [15, 42] (fun t15 t42 wr => ∃ (q : Nat) (A2 : Option Addr) (k2 : Nat) (vs : List Value), q ≤ n1 ∧ t42 = .int .i64 q ∧ t15 = .slice A2 q k2 ∧ Own wy wr 24 1 A2 q k2 vs ∧ Rows wy wr 5 vs (ps.take q)) (fun _ i _ => n1 - (intOf i).toNat)
    case atStart => exact ⟨0, none, 0, [], Nat.zero_le _, rfl, rfl, Own.nil (Ext.refl _) 24 1, Rows.nil _ _ _⟩
    case round =>
      obtain ⟨q, A2, k2, vs, hq, rfl, rfl, own, hrows⟩ := hrel
      by_cases hlt : q < n1
      · have hlt2 : (q : Int) < n1 := by omega
        obtain ⟨b, off, r, rfl, hlr, hbb, hbr, hcell⟩ := (HB2.out.up own.ext).row hlt
        have hpr : ps[q]? = some r.bs := by rw [← Hps.out]; unfold bytesR; rw [List.getElem?_map, hlr]; rfl
        have hrn : r.n ≤ 1000000000 := by have := hbr.length; have := Hp2.out _ (List.mem_of_getElem? hpr); omega
        have Hpr := Lib.hid hpr
        have Hrl := Lib.hid hbr.length
        have hOw := own.ext
        clear hpr hlr
        go_wp2_with (first
          | (at_builtin; refine wpList_more elemB rfl (.tmp 47) (.tmp 48) rfl rfl (Own.empty (Ext.refl _) 5 1) rfl (hbr.ext (by repeat with_reducible (first | exact Ext.refl _ | refine Ext.alloc ?_ _ | refine Ext.drew ?_ | refine Ext.drewN ?_ _ | refine Ext.setCell ?_ (by first | exact Nat.le_refl _ | omega | (simp; done) | (simp; omega)) _))) (bv_one _) (by omega) (by unfold maxLen; omega) ?_; intro A3 k3 w3 own3 _; simp only [Nat.zero_add, List.nil_append] at own3; have X5 := own3.ext; have hr3 := (hrows.up X5).snoc Hrl.out (own3.since hOw); have own5 := own.up X5)
          | (at_builtin; refine wpList_one elemBB rfl (.tmp 46) (.tmp 50) rfl rfl own5 rfl (by first | rfl | simp) rfl (by omega) (by unfold maxLen; omega) ?_; intro A4 c4 w4 own4 g4; have hr4 := hr3.beside own5 (by decide) (Ext.alloc (Ext.refl _) _) g4 own4.ext))
        go_roundw
        case rel =>
          refine ⟨q + 1, A4, c4, _, by omega, by go_num, rfl, own4, ?_⟩
          rw [List.take_add_one, Hpr.out]
          exact hr4
        case measure => simp [intOf]; omega
      · have hqe : q = n1 := by omega
        subst hqe
        rw [List.take_of_length_le (by rw [← Hps.out]; unfold bytesR; rw [List.length_map, Hnl.out]; exact Nat.le_refl _)] at hrows
        obtain ⟨l2, q1, q2, q3⟩ := rows_list hrows
        go_wp2
        go_ret2
        exact ⟨l2, A2, q, k2, rfl, ⟨by rw [q1]; exact own.reads, q3⟩, q2, HX3.out.trans own.ext⟩
end

end Go.Proofs.YtpicpebolghcfaaGreatDoor
