/- Layer 22: the walk of PickLists out of its callees' contracts. (Printed by gen_lists.py.) -/
import Derived.Test.YtpicpebolghcfaaGreatDoorQjSort
import Derived.Test.YtpicpebolghcfaaGreatDoorQjW8
import Derived.Test.YtpicpebolghcfaaGreatDoorQjM14
import Derived.Test.YtpicpebolghcfaaGreatDoorQjS55
import Derived.Test.YtpicpebolghcfaaGreatDoorQjKSchemaChecks
import Derived.BigQuiet

namespace Go.Proofs.YtpicpebolghcfaaGreatDoor
open Go.RowKit Go.Shelf
set_option linter.unusedVariables false
set_option linter.unusedSimpArgs false

section
variable {A B : Option Addr} {n c m k : Nat} {S : List MsgV} {root d : Int} {p : ByteArray} {bs : List UInt8} {w : World}

set_option maxRecDepth 100000 in
set_option maxHeartbeats 2000000 in
theorem lists_great (ha : ∀ w : World, Calls Tryz.prog 6 #[] w fun e w' => e = .returned (.bool true) ∧ Ext w w') (hs : SchemaAt w A n c S) (hb : BytesAt w B m k bs) (hm : 1500 < m) (hp : p.size ≤ maxLen) :
    Calls Tryz.prog 3 #[.slice A n c, .int .i64 root, .slice B m k, .int .i64 d, .string p] w fun e w' => e = .returned (.bool true) ∧ Ext w w' := by
  have Ha := Lib.hid ha
  clear ha
  have hc := Reads.cap hb
  have hm2 : (1500 : Int) < m := by omega
  go_enter Tryz.func3, Tryz.ntmps3
  go_upto_region 3 with (go_at_call 6; refine (Ha.out _).mono ?_; rintro x w1 ⟨rfl, E1⟩)
  have hs1 := hs.up E1
  go_wp2_with (go_at_call 7; refine (few07 hs1).mono ?_; rintro y w2 ⟨x, rfl, E2⟩; clear hs1; rcases x with _ | _)
  all_goals
    go_ret
    exact ⟨rfl, E1.trans E2⟩

set_option maxRecDepth 100000 in
set_option maxHeartbeats 2000000 in
theorem lists_long (ha : ∀ w : World, Calls Tryz.prog 6 #[] w fun e w' => e = .returned (.bool true) ∧ Ext w w') (hs : SchemaAt w A n c S) (hb : BytesAt w B m k bs) (hm : m ≤ 1500) (hp : p.size ≤ maxLen) (hp2 : 5000 < p.size) :
    Calls Tryz.prog 3 #[.slice A n c, .int .i64 root, .slice B m k, .int .i64 d, .string p] w fun e w' => e = .returned (.bool true) ∧ Ext w w' := by
  have Ha := Lib.hid ha
  clear ha
  have hc := Reads.cap hb
  have hp3 : (5000 : Int) < (p.size : Int) := by omega
  go_enter Tryz.func3, Tryz.ntmps3
  go_upto_region 3 with (go_at_call 6; refine (Ha.out _).mono ?_; rintro x w1 ⟨rfl, E1⟩)
  have hs1 := hs.up E1
  go_wp2_with (go_at_call 7; refine (few07 hs1).mono ?_; rintro y w2 ⟨x, rfl, E2⟩; clear hs1; rcases x with _ | _)
  all_goals
    go_ret
    exact ⟨rfl, E1.trans E2⟩

set_option maxRecDepth 100000 in
set_option maxHeartbeats 2000000 in
theorem lists_bad (ha : ∀ w : World, Calls Tryz.prog 6 #[] w fun e w' => e = .returned (.bool true) ∧ Ext w w') (hs : SchemaAt w A n c S) (hb : BytesAt w B m k bs) (hm : m ≤ 1500) (hp : p.size ≤ 5000) {K wl : Nat} (h0 : K ≠ 0) (hK : K < 256)
    (hW : ∀ W, SchemaAt W A n c S → BytesAt W B m k bs → Calls Tryz.prog 8 #[.slice A n c, .int .i64 root, .slice B m k, .int .i64 d, .string p] W fun e W' => e = .returned (.tuple #[.slice none 0 0, .int .u8 (K : Int)]) ∧ Ext W W')
    (hX : ∀ W, SchemaAt W A n c S → BytesAt W B m k bs → Calls Tryz.prog 9 #[.slice A n c, .int .i64 root, .slice B m k, .int .i64 d, .string p] W fun e W' => e = .returned (.tuple #[.slice none 0 0, .int .u8 (K : Int)]) ∧ Ext W W')
    (hR : ∀ W, SchemaAt W A n c S → BytesAt W B m k bs → Calls Tryz.prog 10 #[.slice A n c, .int .i64 root, .slice B m k, .int .i64 d, .string p] W fun e W' => ∃ A' c', e = .returned (.tuple #[.slice A' wl c', .int .i64 (K : Int)]) ∧ Ext W W') :
    Calls Tryz.prog 3 #[.slice A n c, .int .i64 root, .slice B m k, .int .i64 d, .string p] w fun e w' => e = .returned (.bool true) ∧ Ext w w' := by
  have Ha := Lib.hid ha
  have HW := Lib.hid hW
  have HX := Lib.hid hX
  have HR := Lib.hid hR
  have q : ((K : Int) != 0) = true := by rw [bne_iff_ne]; omega
  have q2 : ((K : Int) == 0) = false := by rw [beq_eq_false_iff_ne]; omega
  clear ha hW hX hR h0
  have hc := Reads.cap hb
  go_enter Tryz.func3, Tryz.ntmps3
  go_upto_region 3 with (go_at_call 6; refine (Ha.out _).mono ?_; rintro x w1 ⟨rfl, E1⟩)
  go_cut [39] (fun t wz => ∃ b, t = .bool b ∧ Ext w1 wz)
  case first =>
    have hs1 := hs.up E1
    go_wp2_with (go_at_call 7; refine (few07 hs1).mono ?_; rintro y w2 ⟨x, rfl, E2⟩; clear hs1)
    all_goals
      go_meet
      exact ⟨_, rfl, E2⟩
  case rest =>
    obtain ⟨b, rfl, Xc⟩ := hcut
    have X1 := E1.trans Xc
    rcases b with _ | _
    case true =>
      go_wp2
      go_ret
      exact ⟨rfl, X1⟩
    case false =>
      have hsc := hs.up X1
      have hbc := hb.up X1
      go_wp2_with (first
        | (go_at_call 8; refine (HW.out _ hsc hbc).mono ?_; rintro y w3 ⟨rfl, E3⟩; replace hsc := hsc.up E3; replace hbc := hbc.up E3)
        | (go_at_call 9; refine (HX.out _ hsc hbc).mono ?_; rintro y w4 ⟨rfl, E4⟩; replace hsc := hsc.up E4; replace hbc := hbc.up E4)
        | (go_at_call 10; refine (HR.out _ hsc hbc).mono ?_; rintro y w6 ⟨A6, c6, rfl, E6⟩))
      go_ret
      exact ⟨rfl, ((X1.trans E3).trans E4).trans E6⟩

set_option maxRecDepth 100000 in
set_option maxHeartbeats 2000000 in
theorem lists_no_num (ha : ∀ w : World, Calls Tryz.prog 6 #[] w fun e w' => e = .returned (.bool true) ∧ Ext w w') (hs : SchemaAt w A n c S) (hb : BytesAt w B m k bs) (hm : m ≤ 1500) (hp : p.size ≤ 5000) {wl wn tn : Nat} {way : List Int} {F : FieldD} {X : MsgT} {ws vw : List Nat} {vt : List ByteArray} {ts : List (List UInt8)} (hn : numberB F.kind = true) (hk15 : F.kind ≠ 15) (hk16 : F.kind ≠ 16)
    (hW : ∀ W, SchemaAt W A n c S → BytesAt W B m k bs → Calls Tryz.prog 8 #[.slice A n c, .int .i64 root, .slice B m k, .int .i64 d, .string p] W fun e W' => ∃ A' c', e = .returned (.tuple #[.slice A' 0 c', .int .u8 11]) ∧ WordsAt W' A' 0 c' ws ∧ Ext W W')
    (hX : ∀ W, SchemaAt W A n c S → BytesAt W B m k bs → Calls Tryz.prog 9 #[.slice A n c, .int .i64 root, .slice B m k, .int .i64 d, .string p] W fun e W' => e = .returned (.tuple #[.slice none 0 0, .int .u8 2]) ∧ Ext W W')
    (hR : ∀ W, SchemaAt W A n c S → BytesAt W B m k bs → Calls Tryz.prog 10 #[.slice A n c, .int .i64 root, .slice B m k, .int .i64 d, .string p] W fun e W' => ∃ A' c', e = .returned (.tuple #[.slice A' wl c', .int .i64 0]) ∧ Reads W' A' wl c' 1 (way.map wyV) ∧ Ext W W')
    (hO : ∀ W, SchemaAt W A n c S → BytesAt W B m k bs → Calls Tryz.prog 11 #[.slice A n c, .int .i64 root, .slice B m k] W fun e W' => ∃ y : MsgR, e = .returned (.agg #[.slice y.a.1 y.vals.length y.a.2, .slice y.b.1 y.unk.length y.b.2]) ∧ bare y = X ∧ TreeAt W' y ∧ Ext W W')
    (hL : ∀ W A' c', SchemaAt W A n c S → Reads W A' wl c' 1 (way.map wyV) → Calls Tryz.prog 12 #[.slice A n c, .int .i64 root, .slice A' wl c'] W fun e W' => e = .returned (.tuple #[fieldV F, .bool true]) ∧ Ext W W')
    (hA : ∀ W (y : MsgR) A' c', TreeAt W y → bare y = X → Reads W A' wl c' 1 (way.map wyV) → Calls Tryz.prog 13 #[.agg #[.slice y.a.1 y.vals.length y.a.2, .slice y.b.1 y.unk.length y.b.2], .slice A' wl c'] W fun e W' => ∃ v : ValR, e = .returned (.tuple #[.agg #[.int .i64 v.number, .slice v.a.1 v.words.length v.a.2, .slice v.b.1 v.texts.length v.b.2, .slice v.c.1 v.subs.length v.c.2], .bool false]) ∧ Ext W W' ∧ Hid (true = false → ValAt W v ∧ v.words = vw ∧ v.texts = vt)) :
    Calls Tryz.prog 3 #[.slice A n c, .int .i64 root, .slice B m k, .int .i64 d, .string p] w fun e w' => e = .returned (.bool true) ∧ Ext w w' := by
  have Ha := Lib.hid ha
  have HW := Lib.hid hW
  have HX := Lib.hid hX
  have HR := Lib.hid hR
  have HO := Lib.hid hO
  have HL := Lib.hid hL
  have HA := Lib.hid hA
  have hkn := fun W : World => kNumberR F.kind W
  rw [hn] at hkn
  have Hkn := Lib.hid hkn
  have q15 : (F.kind != 15) = true := by rw [bne_iff_ne]; exact hk15
  have q16 : (F.kind != 16) = true := by rw [bne_iff_ne]; exact hk16
  clear ha hW hX hR hO hL hA hkn hn
  have hc := Reads.cap hb
  obtain ⟨fname, fnum, fkind, frep, fpk, fof⟩ := F
  unfold fieldV at *
  simp only at *
  go_enter Tryz.func3, Tryz.ntmps3
  go_upto_region 3 with (go_at_call 6; refine (Ha.out _).mono ?_; rintro x w1 ⟨rfl, E1⟩)
  go_cut [39] (fun t wz => ∃ b, t = .bool b ∧ Ext w1 wz)
  case first =>
    have hs1 := hs.up E1
    go_wp2_with (go_at_call 7; refine (few07 hs1).mono ?_; rintro y w2 ⟨x, rfl, E2⟩; clear hs1)
    all_goals
      go_meet
      exact ⟨_, rfl, E2⟩
  case rest =>
    obtain ⟨b, rfl, Xc⟩ := hcut
    have X1 := E1.trans Xc
    rcases b with _ | _
    case true =>
      go_wp2
      go_ret
      exact ⟨rfl, X1⟩
    case false =>
      have hsc := hs.up X1
      have hbc := hb.up X1
      go_upto_region 11 with (first
        | (go_at_call 8; refine (HW.out _ hsc hbc).mono ?_; rintro y w3 ⟨A3, c3, rfl, hw3, E3⟩; replace hsc := hsc.up E3; replace hbc := hbc.up E3; have X3 := X1.trans E3)
        | (go_at_call 9; refine (HX.out _ hsc hbc).mono ?_; rintro y w4 ⟨rfl, E4⟩; replace hsc := hsc.up E4; replace hbc := hbc.up E4; replace hw3 := hw3.up E4; have X4 := X3.trans E4)
        | (go_at_call 10; refine (HR.out _ hsc hbc).mono ?_; rintro y w6 ⟨A6, c6, rfl, hw6, E6⟩; replace hsc := hsc.up E6; replace hbc := hbc.up E6; replace hw3 := hw3.up E6; have X6 := X4.trans E6)
        | (go_at_call 11; refine (HO.out _ hsc hbc).mono ?_; rintro z w7 ⟨y, rfl, hby, hty, E7⟩; replace hsc := hsc.up E7; replace hbc := hbc.up E7; replace hw3 := hw3.up E7; replace hw6 := hw6.ext E7; have X7 := X6.trans E7))
      have BY := BlkT.new w7 40 #[.slice y.a.1 y.vals.length y.a.2, .slice y.b.1 y.unk.length y.b.2] rfl
      have X8 : Ext w7 (w7.alloc (.cells #[.slice y.a.1 y.vals.length y.a.2, .slice y.b.1 y.unk.length y.b.2] 40)) := (Ext.refl w7).alloc _
      clear X1 X3 X4 X6 Xc E1 E3 E4 E6 E7 HW HX HR HO Ha hbc
      generalize w7.alloc (.cells #[.slice y.a.1 y.vals.length y.a.2, .slice y.b.1 y.unk.length y.b.2] 40) = w8 at *
      replace hsc := hsc.up X8
      replace hw3 := hw3.up X8
      replace hw6 := hw6.ext X8
      replace hty := hty.up X8
      have x0 : w8.cell? ⟨w7.heap.size, 0, none⟩ = some (.slice y.a.1 y.vals.length y.a.2) := BY.cell 0
      have x1 : w8.cell? ⟨w7.heap.size, 1, none⟩ = some (.slice y.b.1 y.unk.length y.b.2) := BY.cell 1
      have xl := BY.lt
      replace X8 := X7.trans X8
      clear BY X7
      go_upto_region 12 with (go_at_call 12; refine (HL.out _ _ _ hsc hw6).mono ?_; rintro z w9 ⟨rfl, E9⟩)
      have BF := BlkT.new w9 43 #[.string fname, .int .i64 fnum, .int .i64 fkind, .bool frep, .bool fpk, .int .i64 fof] rfl
      have X10 : Ext w9 (w9.alloc (.cells #[.string fname, .int .i64 fnum, .int .i64 fkind, .bool frep, .bool fpk, .int .i64 fof] 43)) := (Ext.refl w9).alloc _
      generalize w9.alloc (.cells #[.string fname, .int .i64 fnum, .int .i64 fkind, .bool frep, .bool fpk, .int .i64 fof] 43) = w10 at *
      have c2z : w10.cell? ⟨w9.heap.size, 2, none⟩ = some (.int .i64 fkind) := BF.cell 2
      have cl := BF.lt
      replace X10 := E9.trans X10
      replace hw3 := hw3.up X10
      replace hw6 := hw6.ext X10
      replace hty := hty.up X10
      replace x0 := X10.of_cell x0
      replace x1 := X10.of_cell x1
      replace xl := Nat.lt_of_lt_of_le xl X10.size
      replace X10 := X8.trans X10
      clear BF X8 E9 hsc HL
      go_upto_region 13 with (go_at_call 13; refine (HA.out _ _ _ _ hty hby hw6).mono ?_; rintro z w11 ⟨v, rfl, E11, hv⟩)
      have BV := BlkT.new w11 48 #[.int .i64 v.number, .slice v.a.1 v.words.length v.a.2, .slice v.b.1 v.texts.length v.b.2, .slice v.c.1 v.subs.length v.c.2] rfl
      have X12 : Ext w11 (w11.alloc (.cells #[.int .i64 v.number, .slice v.a.1 v.words.length v.a.2, .slice v.b.1 v.texts.length v.b.2, .slice v.c.1 v.subs.length v.c.2] 48)) := (Ext.refl w11).alloc _
      generalize w11.alloc (.cells #[.int .i64 v.number, .slice v.a.1 v.words.length v.a.2, .slice v.b.1 v.texts.length v.b.2, .slice v.c.1 v.subs.length v.c.2] 48) = w12 at *
      have v1 : w12.cell? ⟨w11.heap.size, 1, none⟩ = some (.slice v.a.1 v.words.length v.a.2) := BV.cell 1
      have v2 : w12.cell? ⟨w11.heap.size, 2, none⟩ = some (.slice v.b.1 v.texts.length v.b.2) := BV.cell 2
      have vl := BV.lt
      replace X12 := E11.trans X12
      replace hw3 := hw3.up X12
      replace c2z := X12.of_cell c2z
      replace cl := Nat.lt_of_lt_of_le cl X12.size
      have HV := Lib.hid (fun h => (hv.out h).1.up X12)
      have Hv := Lib.hid (fun h => (hv.out h).2)
      replace X12 := X10.trans X12
      clear BV X10 E11 hw6 hty hby HA x0 x1 xl hv
      go_wp2_with (go_at_call 14; refine (Hkn.out _).mono ?_; rintro z w13 ⟨rfl, rfl⟩)
      go_ret
      exact ⟨rfl, X12⟩

set_option maxRecDepth 100000 in
set_option maxHeartbeats 2000000 in
theorem lists_no_other (ha : ∀ w : World, Calls Tryz.prog 6 #[] w fun e w' => e = .returned (.bool true) ∧ Ext w w') (hs : SchemaAt w A n c S) (hb : BytesAt w B m k bs) (hm : m ≤ 1500) (hp : p.size ≤ 5000) {wl wn tn : Nat} {way : List Int} {F : FieldD} {X : MsgT} {ws vw : List Nat} {vt : List ByteArray} {ts : List (List UInt8)} (hn : numberB F.kind = false) (hk15 : F.kind ≠ 15) (hk16 : F.kind ≠ 16)
    (hW : ∀ W, SchemaAt W A n c S → BytesAt W B m k bs → Calls Tryz.prog 8 #[.slice A n c, .int .i64 root, .slice B m k, .int .i64 d, .string p] W fun e W' => ∃ A' c', e = .returned (.tuple #[.slice A' 0 c', .int .u8 2]) ∧ WordsAt W' A' 0 c' ws ∧ Ext W W')
    (hX : ∀ W, SchemaAt W A n c S → BytesAt W B m k bs → Calls Tryz.prog 9 #[.slice A n c, .int .i64 root, .slice B m k, .int .i64 d, .string p] W fun e W' => e = .returned (.tuple #[.slice none 0 0, .int .u8 2]) ∧ Ext W W')
    (hR : ∀ W, SchemaAt W A n c S → BytesAt W B m k bs → Calls Tryz.prog 10 #[.slice A n c, .int .i64 root, .slice B m k, .int .i64 d, .string p] W fun e W' => ∃ A' c', e = .returned (.tuple #[.slice A' wl c', .int .i64 0]) ∧ Reads W' A' wl c' 1 (way.map wyV) ∧ Ext W W')
    (hO : ∀ W, SchemaAt W A n c S → BytesAt W B m k bs → Calls Tryz.prog 11 #[.slice A n c, .int .i64 root, .slice B m k] W fun e W' => ∃ y : MsgR, e = .returned (.agg #[.slice y.a.1 y.vals.length y.a.2, .slice y.b.1 y.unk.length y.b.2]) ∧ bare y = X ∧ TreeAt W' y ∧ Ext W W')
    (hL : ∀ W A' c', SchemaAt W A n c S → Reads W A' wl c' 1 (way.map wyV) → Calls Tryz.prog 12 #[.slice A n c, .int .i64 root, .slice A' wl c'] W fun e W' => e = .returned (.tuple #[fieldV F, .bool true]) ∧ Ext W W')
    (hA : ∀ W (y : MsgR) A' c', TreeAt W y → bare y = X → Reads W A' wl c' 1 (way.map wyV) → Calls Tryz.prog 13 #[.agg #[.slice y.a.1 y.vals.length y.a.2, .slice y.b.1 y.unk.length y.b.2], .slice A' wl c'] W fun e W' => ∃ v : ValR, e = .returned (.tuple #[.agg #[.int .i64 v.number, .slice v.a.1 v.words.length v.a.2, .slice v.b.1 v.texts.length v.b.2, .slice v.c.1 v.subs.length v.c.2], .bool false]) ∧ Ext W W' ∧ Hid (true = false → ValAt W v ∧ v.words = vw ∧ v.texts = vt)) :
    Calls Tryz.prog 3 #[.slice A n c, .int .i64 root, .slice B m k, .int .i64 d, .string p] w fun e w' => e = .returned (.bool true) ∧ Ext w w' := by
  have Ha := Lib.hid ha
  have HW := Lib.hid hW
  have HX := Lib.hid hX
  have HR := Lib.hid hR
  have HO := Lib.hid hO
  have HL := Lib.hid hL
  have HA := Lib.hid hA
  have hkn := fun W : World => kNumberR F.kind W
  rw [hn] at hkn
  have Hkn := Lib.hid hkn
  have q15 : (F.kind != 15) = true := by rw [bne_iff_ne]; exact hk15
  have q16 : (F.kind != 16) = true := by rw [bne_iff_ne]; exact hk16
  clear ha hW hX hR hO hL hA hkn hn
  have hc := Reads.cap hb
  obtain ⟨fname, fnum, fkind, frep, fpk, fof⟩ := F
  unfold fieldV at *
  simp only at *
  go_enter Tryz.func3, Tryz.ntmps3
  go_upto_region 3 with (go_at_call 6; refine (Ha.out _).mono ?_; rintro x w1 ⟨rfl, E1⟩)
  go_cut [39] (fun t wz => ∃ b, t = .bool b ∧ Ext w1 wz)
  case first =>
    have hs1 := hs.up E1
    go_wp2_with (go_at_call 7; refine (few07 hs1).mono ?_; rintro y w2 ⟨x, rfl, E2⟩; clear hs1)
    all_goals
      go_meet
      exact ⟨_, rfl, E2⟩
  case rest =>
    obtain ⟨b, rfl, Xc⟩ := hcut
    have X1 := E1.trans Xc
    rcases b with _ | _
    case true =>
      go_wp2
      go_ret
      exact ⟨rfl, X1⟩
    case false =>
      have hsc := hs.up X1
      have hbc := hb.up X1
      go_upto_region 11 with (first
        | (go_at_call 8; refine (HW.out _ hsc hbc).mono ?_; rintro y w3 ⟨A3, c3, rfl, hw3, E3⟩; replace hsc := hsc.up E3; replace hbc := hbc.up E3; have X3 := X1.trans E3)
        | (go_at_call 9; refine (HX.out _ hsc hbc).mono ?_; rintro y w4 ⟨rfl, E4⟩; replace hsc := hsc.up E4; replace hbc := hbc.up E4; replace hw3 := hw3.up E4; have X4 := X3.trans E4)
        | (go_at_call 10; refine (HR.out _ hsc hbc).mono ?_; rintro y w6 ⟨A6, c6, rfl, hw6, E6⟩; replace hsc := hsc.up E6; replace hbc := hbc.up E6; replace hw3 := hw3.up E6; have X6 := X4.trans E6)
        | (go_at_call 11; refine (HO.out _ hsc hbc).mono ?_; rintro z w7 ⟨y, rfl, hby, hty, E7⟩; replace hsc := hsc.up E7; replace hbc := hbc.up E7; replace hw3 := hw3.up E7; replace hw6 := hw6.ext E7; have X7 := X6.trans E7))
      have BY := BlkT.new w7 40 #[.slice y.a.1 y.vals.length y.a.2, .slice y.b.1 y.unk.length y.b.2] rfl
      have X8 : Ext w7 (w7.alloc (.cells #[.slice y.a.1 y.vals.length y.a.2, .slice y.b.1 y.unk.length y.b.2] 40)) := (Ext.refl w7).alloc _
      clear X1 X3 X4 X6 Xc E1 E3 E4 E6 E7 HW HX HR HO Ha hbc
      generalize w7.alloc (.cells #[.slice y.a.1 y.vals.length y.a.2, .slice y.b.1 y.unk.length y.b.2] 40) = w8 at *
      replace hsc := hsc.up X8
      replace hw3 := hw3.up X8
      replace hw6 := hw6.ext X8
      replace hty := hty.up X8
      have x0 : w8.cell? ⟨w7.heap.size, 0, none⟩ = some (.slice y.a.1 y.vals.length y.a.2) := BY.cell 0
      have x1 : w8.cell? ⟨w7.heap.size, 1, none⟩ = some (.slice y.b.1 y.unk.length y.b.2) := BY.cell 1
      have xl := BY.lt
      replace X8 := X7.trans X8
      clear BY X7
      go_upto_region 12 with (go_at_call 12; refine (HL.out _ _ _ hsc hw6).mono ?_; rintro z w9 ⟨rfl, E9⟩)
      have BF := BlkT.new w9 43 #[.string fname, .int .i64 fnum, .int .i64 fkind, .bool frep, .bool fpk, .int .i64 fof] rfl
      have X10 : Ext w9 (w9.alloc (.cells #[.string fname, .int .i64 fnum, .int .i64 fkind, .bool frep, .bool fpk, .int .i64 fof] 43)) := (Ext.refl w9).alloc _
      generalize w9.alloc (.cells #[.string fname, .int .i64 fnum, .int .i64 fkind, .bool frep, .bool fpk, .int .i64 fof] 43) = w10 at *
      have c2z : w10.cell? ⟨w9.heap.size, 2, none⟩ = some (.int .i64 fkind) := BF.cell 2
      have cl := BF.lt
      replace X10 := E9.trans X10
      replace hw3 := hw3.up X10
      replace hw6 := hw6.ext X10
      replace hty := hty.up X10
      replace x0 := X10.of_cell x0
      replace x1 := X10.of_cell x1
      replace xl := Nat.lt_of_lt_of_le xl X10.size
      replace X10 := X8.trans X10
      clear BF X8 E9 hsc HL
      go_upto_region 13 with (go_at_call 13; refine (HA.out _ _ _ _ hty hby hw6).mono ?_; rintro z w11 ⟨v, rfl, E11, hv⟩)
      have BV := BlkT.new w11 48 #[.int .i64 v.number, .slice v.a.1 v.words.length v.a.2, .slice v.b.1 v.texts.length v.b.2, .slice v.c.1 v.subs.length v.c.2] rfl
      have X12 : Ext w11 (w11.alloc (.cells #[.int .i64 v.number, .slice v.a.1 v.words.length v.a.2, .slice v.b.1 v.texts.length v.b.2, .slice v.c.1 v.subs.length v.c.2] 48)) := (Ext.refl w11).alloc _
      generalize w11.alloc (.cells #[.int .i64 v.number, .slice v.a.1 v.words.length v.a.2, .slice v.b.1 v.texts.length v.b.2, .slice v.c.1 v.subs.length v.c.2] 48) = w12 at *
      have v1 : w12.cell? ⟨w11.heap.size, 1, none⟩ = some (.slice v.a.1 v.words.length v.a.2) := BV.cell 1
      have v2 : w12.cell? ⟨w11.heap.size, 2, none⟩ = some (.slice v.b.1 v.texts.length v.b.2) := BV.cell 2
      have vl := BV.lt
      replace X12 := E11.trans X12
      replace hw3 := hw3.up X12
      replace c2z := X12.of_cell c2z
      replace cl := Nat.lt_of_lt_of_le cl X12.size
      have HV := Lib.hid (fun h => (hv.out h).1.up X12)
      have Hv := Lib.hid (fun h => (hv.out h).2)
      replace X12 := X10.trans X12
      clear BV X10 E11 hw6 hty hby HA x0 x1 xl hv
      go_wp2_with (go_at_call 14; refine (Hkn.out _).mono ?_; rintro z w13 ⟨rfl, rfl⟩)
      go_ret
      exact ⟨rfl, X12⟩

set_option maxRecDepth 100000 in
set_option maxHeartbeats 2000000 in
theorem lists_no_15 (ha : ∀ w : World, Calls Tryz.prog 6 #[] w fun e w' => e = .returned (.bool true) ∧ Ext w w') (hs : SchemaAt w A n c S) (hb : BytesAt w B m k bs) (hm : m ≤ 1500) (hp : p.size ≤ 5000) {wl wn tn : Nat} {way : List Int} {F : FieldD} {X : MsgT} {ws vw : List Nat} {vt : List ByteArray} {ts : List (List UInt8)} (hn : numberB F.kind = false) (hk : F.kind = 15)
    (hW : ∀ W, SchemaAt W A n c S → BytesAt W B m k bs → Calls Tryz.prog 8 #[.slice A n c, .int .i64 root, .slice B m k, .int .i64 d, .string p] W fun e W' => ∃ A' c', e = .returned (.tuple #[.slice A' 0 c', .int .u8 2]) ∧ WordsAt W' A' 0 c' ws ∧ Ext W W')
    (hX : ∀ W, SchemaAt W A n c S → BytesAt W B m k bs → Calls Tryz.prog 9 #[.slice A n c, .int .i64 root, .slice B m k, .int .i64 d, .string p] W fun e W' => e = .returned (.tuple #[.slice none 0 0, .int .u8 11]) ∧ Ext W W')
    (hR : ∀ W, SchemaAt W A n c S → BytesAt W B m k bs → Calls Tryz.prog 10 #[.slice A n c, .int .i64 root, .slice B m k, .int .i64 d, .string p] W fun e W' => ∃ A' c', e = .returned (.tuple #[.slice A' wl c', .int .i64 0]) ∧ Reads W' A' wl c' 1 (way.map wyV) ∧ Ext W W')
    (hO : ∀ W, SchemaAt W A n c S → BytesAt W B m k bs → Calls Tryz.prog 11 #[.slice A n c, .int .i64 root, .slice B m k] W fun e W' => ∃ y : MsgR, e = .returned (.agg #[.slice y.a.1 y.vals.length y.a.2, .slice y.b.1 y.unk.length y.b.2]) ∧ bare y = X ∧ TreeAt W' y ∧ Ext W W')
    (hL : ∀ W A' c', SchemaAt W A n c S → Reads W A' wl c' 1 (way.map wyV) → Calls Tryz.prog 12 #[.slice A n c, .int .i64 root, .slice A' wl c'] W fun e W' => e = .returned (.tuple #[fieldV F, .bool true]) ∧ Ext W W')
    (hA : ∀ W (y : MsgR) A' c', TreeAt W y → bare y = X → Reads W A' wl c' 1 (way.map wyV) → Calls Tryz.prog 13 #[.agg #[.slice y.a.1 y.vals.length y.a.2, .slice y.b.1 y.unk.length y.b.2], .slice A' wl c'] W fun e W' => ∃ v : ValR, e = .returned (.tuple #[.agg #[.int .i64 v.number, .slice v.a.1 v.words.length v.a.2, .slice v.b.1 v.texts.length v.b.2, .slice v.c.1 v.subs.length v.c.2], .bool false]) ∧ Ext W W' ∧ Hid (true = false → ValAt W v ∧ v.words = vw ∧ v.texts = vt)) :
    Calls Tryz.prog 3 #[.slice A n c, .int .i64 root, .slice B m k, .int .i64 d, .string p] w fun e w' => e = .returned (.bool true) ∧ Ext w w' := by
  have Ha := Lib.hid ha
  have HW := Lib.hid hW
  have HX := Lib.hid hX
  have HR := Lib.hid hR
  have HO := Lib.hid hO
  have HL := Lib.hid hL
  have HA := Lib.hid hA
  have hkn := fun W : World => kNumberR F.kind W
  rw [hn] at hkn
  have Hkn := Lib.hid hkn
  clear ha hW hX hR hO hL hA hkn hn
  have hc := Reads.cap hb
  obtain ⟨fname, fnum, fkind, frep, fpk, fof⟩ := F
  unfold fieldV at *
  simp only at *
  subst hk
  go_enter Tryz.func3, Tryz.ntmps3
  go_upto_region 3 with (go_at_call 6; refine (Ha.out _).mono ?_; rintro x w1 ⟨rfl, E1⟩)
  go_cut [39] (fun t wz => ∃ b, t = .bool b ∧ Ext w1 wz)
  case first =>
    have hs1 := hs.up E1
    go_wp2_with (go_at_call 7; refine (few07 hs1).mono ?_; rintro y w2 ⟨x, rfl, E2⟩; clear hs1)
    all_goals
      go_meet
      exact ⟨_, rfl, E2⟩
  case rest =>
    obtain ⟨b, rfl, Xc⟩ := hcut
    have X1 := E1.trans Xc
    rcases b with _ | _
    case true =>
      go_wp2
      go_ret
      exact ⟨rfl, X1⟩
    case false =>
      have hsc := hs.up X1
      have hbc := hb.up X1
      go_upto_region 11 with (first
        | (go_at_call 8; refine (HW.out _ hsc hbc).mono ?_; rintro y w3 ⟨A3, c3, rfl, hw3, E3⟩; replace hsc := hsc.up E3; replace hbc := hbc.up E3; have X3 := X1.trans E3)
        | (go_at_call 9; refine (HX.out _ hsc hbc).mono ?_; rintro y w4 ⟨rfl, E4⟩; replace hsc := hsc.up E4; replace hbc := hbc.up E4; replace hw3 := hw3.up E4; have X4 := X3.trans E4)
        | (go_at_call 10; refine (HR.out _ hsc hbc).mono ?_; rintro y w6 ⟨A6, c6, rfl, hw6, E6⟩; replace hsc := hsc.up E6; replace hbc := hbc.up E6; replace hw3 := hw3.up E6; have X6 := X4.trans E6)
        | (go_at_call 11; refine (HO.out _ hsc hbc).mono ?_; rintro z w7 ⟨y, rfl, hby, hty, E7⟩; replace hsc := hsc.up E7; replace hbc := hbc.up E7; replace hw3 := hw3.up E7; replace hw6 := hw6.ext E7; have X7 := X6.trans E7))
      have BY := BlkT.new w7 40 #[.slice y.a.1 y.vals.length y.a.2, .slice y.b.1 y.unk.length y.b.2] rfl
      have X8 : Ext w7 (w7.alloc (.cells #[.slice y.a.1 y.vals.length y.a.2, .slice y.b.1 y.unk.length y.b.2] 40)) := (Ext.refl w7).alloc _
      clear X1 X3 X4 X6 Xc E1 E3 E4 E6 E7 HW HX HR HO Ha hbc
      generalize w7.alloc (.cells #[.slice y.a.1 y.vals.length y.a.2, .slice y.b.1 y.unk.length y.b.2] 40) = w8 at *
      replace hsc := hsc.up X8
      replace hw3 := hw3.up X8
      replace hw6 := hw6.ext X8
      replace hty := hty.up X8
      have x0 : w8.cell? ⟨w7.heap.size, 0, none⟩ = some (.slice y.a.1 y.vals.length y.a.2) := BY.cell 0
      have x1 : w8.cell? ⟨w7.heap.size, 1, none⟩ = some (.slice y.b.1 y.unk.length y.b.2) := BY.cell 1
      have xl := BY.lt
      replace X8 := X7.trans X8
      clear BY X7
      go_upto_region 12 with (go_at_call 12; refine (HL.out _ _ _ hsc hw6).mono ?_; rintro z w9 ⟨rfl, E9⟩)
      have BF := BlkT.new w9 43 #[.string fname, .int .i64 fnum, .int .i64 15, .bool frep, .bool fpk, .int .i64 fof] rfl
      have X10 : Ext w9 (w9.alloc (.cells #[.string fname, .int .i64 fnum, .int .i64 15, .bool frep, .bool fpk, .int .i64 fof] 43)) := (Ext.refl w9).alloc _
      generalize w9.alloc (.cells #[.string fname, .int .i64 fnum, .int .i64 15, .bool frep, .bool fpk, .int .i64 fof] 43) = w10 at *
      have c2z : w10.cell? ⟨w9.heap.size, 2, none⟩ = some (.int .i64 15) := BF.cell 2
      have cl := BF.lt
      replace X10 := E9.trans X10
      replace hw3 := hw3.up X10
      replace hw6 := hw6.ext X10
      replace hty := hty.up X10
      replace x0 := X10.of_cell x0
      replace x1 := X10.of_cell x1
      replace xl := Nat.lt_of_lt_of_le xl X10.size
      replace X10 := X8.trans X10
      clear BF X8 E9 hsc HL
      go_upto_region 13 with (go_at_call 13; refine (HA.out _ _ _ _ hty hby hw6).mono ?_; rintro z w11 ⟨v, rfl, E11, hv⟩)
      have BV := BlkT.new w11 48 #[.int .i64 v.number, .slice v.a.1 v.words.length v.a.2, .slice v.b.1 v.texts.length v.b.2, .slice v.c.1 v.subs.length v.c.2] rfl
      have X12 : Ext w11 (w11.alloc (.cells #[.int .i64 v.number, .slice v.a.1 v.words.length v.a.2, .slice v.b.1 v.texts.length v.b.2, .slice v.c.1 v.subs.length v.c.2] 48)) := (Ext.refl w11).alloc _
      generalize w11.alloc (.cells #[.int .i64 v.number, .slice v.a.1 v.words.length v.a.2, .slice v.b.1 v.texts.length v.b.2, .slice v.c.1 v.subs.length v.c.2] 48) = w12 at *
      have v1 : w12.cell? ⟨w11.heap.size, 1, none⟩ = some (.slice v.a.1 v.words.length v.a.2) := BV.cell 1
      have v2 : w12.cell? ⟨w11.heap.size, 2, none⟩ = some (.slice v.b.1 v.texts.length v.b.2) := BV.cell 2
      have vl := BV.lt
      replace X12 := E11.trans X12
      replace hw3 := hw3.up X12
      replace c2z := X12.of_cell c2z
      replace cl := Nat.lt_of_lt_of_le cl X12.size
      have HV := Lib.hid (fun h => (hv.out h).1.up X12)
      have Hv := Lib.hid (fun h => (hv.out h).2)
      replace X12 := X10.trans X12
      clear BV X10 E11 hw6 hty hby HA x0 x1 xl hv
      go_wp2_with (go_at_call 14; refine (Hkn.out _).mono ?_; rintro z w13 ⟨rfl, rfl⟩)
      go_ret
      exact ⟨rfl, X12⟩

set_option maxRecDepth 100000 in
set_option maxHeartbeats 2000000 in
theorem lists_no_16 (ha : ∀ w : World, Calls Tryz.prog 6 #[] w fun e w' => e = .returned (.bool true) ∧ Ext w w') (hs : SchemaAt w A n c S) (hb : BytesAt w B m k bs) (hm : m ≤ 1500) (hp : p.size ≤ 5000) {wl wn tn : Nat} {way : List Int} {F : FieldD} {X : MsgT} {ws vw : List Nat} {vt : List ByteArray} {ts : List (List UInt8)} (hn : numberB F.kind = false) (hk : F.kind = 16)
    (hW : ∀ W, SchemaAt W A n c S → BytesAt W B m k bs → Calls Tryz.prog 8 #[.slice A n c, .int .i64 root, .slice B m k, .int .i64 d, .string p] W fun e W' => ∃ A' c', e = .returned (.tuple #[.slice A' 0 c', .int .u8 2]) ∧ WordsAt W' A' 0 c' ws ∧ Ext W W')
    (hX : ∀ W, SchemaAt W A n c S → BytesAt W B m k bs → Calls Tryz.prog 9 #[.slice A n c, .int .i64 root, .slice B m k, .int .i64 d, .string p] W fun e W' => e = .returned (.tuple #[.slice none 0 0, .int .u8 11]) ∧ Ext W W')
    (hR : ∀ W, SchemaAt W A n c S → BytesAt W B m k bs → Calls Tryz.prog 10 #[.slice A n c, .int .i64 root, .slice B m k, .int .i64 d, .string p] W fun e W' => ∃ A' c', e = .returned (.tuple #[.slice A' wl c', .int .i64 0]) ∧ Reads W' A' wl c' 1 (way.map wyV) ∧ Ext W W')
    (hO : ∀ W, SchemaAt W A n c S → BytesAt W B m k bs → Calls Tryz.prog 11 #[.slice A n c, .int .i64 root, .slice B m k] W fun e W' => ∃ y : MsgR, e = .returned (.agg #[.slice y.a.1 y.vals.length y.a.2, .slice y.b.1 y.unk.length y.b.2]) ∧ bare y = X ∧ TreeAt W' y ∧ Ext W W')
    (hL : ∀ W A' c', SchemaAt W A n c S → Reads W A' wl c' 1 (way.map wyV) → Calls Tryz.prog 12 #[.slice A n c, .int .i64 root, .slice A' wl c'] W fun e W' => e = .returned (.tuple #[fieldV F, .bool true]) ∧ Ext W W')
    (hA : ∀ W (y : MsgR) A' c', TreeAt W y → bare y = X → Reads W A' wl c' 1 (way.map wyV) → Calls Tryz.prog 13 #[.agg #[.slice y.a.1 y.vals.length y.a.2, .slice y.b.1 y.unk.length y.b.2], .slice A' wl c'] W fun e W' => ∃ v : ValR, e = .returned (.tuple #[.agg #[.int .i64 v.number, .slice v.a.1 v.words.length v.a.2, .slice v.b.1 v.texts.length v.b.2, .slice v.c.1 v.subs.length v.c.2], .bool false]) ∧ Ext W W' ∧ Hid (true = false → ValAt W v ∧ v.words = vw ∧ v.texts = vt)) :
    Calls Tryz.prog 3 #[.slice A n c, .int .i64 root, .slice B m k, .int .i64 d, .string p] w fun e w' => e = .returned (.bool true) ∧ Ext w w' := by
  have Ha := Lib.hid ha
  have HW := Lib.hid hW
  have HX := Lib.hid hX
  have HR := Lib.hid hR
  have HO := Lib.hid hO
  have HL := Lib.hid hL
  have HA := Lib.hid hA
  have hkn := fun W : World => kNumberR F.kind W
  rw [hn] at hkn
  have Hkn := Lib.hid hkn
  clear ha hW hX hR hO hL hA hkn hn
  have hc := Reads.cap hb
  obtain ⟨fname, fnum, fkind, frep, fpk, fof⟩ := F
  unfold fieldV at *
  simp only at *
  subst hk
  go_enter Tryz.func3, Tryz.ntmps3
  go_upto_region 3 with (go_at_call 6; refine (Ha.out _).mono ?_; rintro x w1 ⟨rfl, E1⟩)
  go_cut [39] (fun t wz => ∃ b, t = .bool b ∧ Ext w1 wz)
  case first =>
    have hs1 := hs.up E1
    go_wp2_with (go_at_call 7; refine (few07 hs1).mono ?_; rintro y w2 ⟨x, rfl, E2⟩; clear hs1)
    all_goals
      go_meet
      exact ⟨_, rfl, E2⟩
  case rest =>
    obtain ⟨b, rfl, Xc⟩ := hcut
    have X1 := E1.trans Xc
    rcases b with _ | _
    case true =>
      go_wp2
      go_ret
      exact ⟨rfl, X1⟩
    case false =>
      have hsc := hs.up X1
      have hbc := hb.up X1
      go_upto_region 11 with (first
        | (go_at_call 8; refine (HW.out _ hsc hbc).mono ?_; rintro y w3 ⟨A3, c3, rfl, hw3, E3⟩; replace hsc := hsc.up E3; replace hbc := hbc.up E3; have X3 := X1.trans E3)
        | (go_at_call 9; refine (HX.out _ hsc hbc).mono ?_; rintro y w4 ⟨rfl, E4⟩; replace hsc := hsc.up E4; replace hbc := hbc.up E4; replace hw3 := hw3.up E4; have X4 := X3.trans E4)
        | (go_at_call 10; refine (HR.out _ hsc hbc).mono ?_; rintro y w6 ⟨A6, c6, rfl, hw6, E6⟩; replace hsc := hsc.up E6; replace hbc := hbc.up E6; replace hw3 := hw3.up E6; have X6 := X4.trans E6)
        | (go_at_call 11; refine (HO.out _ hsc hbc).mono ?_; rintro z w7 ⟨y, rfl, hby, hty, E7⟩; replace hsc := hsc.up E7; replace hbc := hbc.up E7; replace hw3 := hw3.up E7; replace hw6 := hw6.ext E7; have X7 := X6.trans E7))
      have BY := BlkT.new w7 40 #[.slice y.a.1 y.vals.length y.a.2, .slice y.b.1 y.unk.length y.b.2] rfl
      have X8 : Ext w7 (w7.alloc (.cells #[.slice y.a.1 y.vals.length y.a.2, .slice y.b.1 y.unk.length y.b.2] 40)) := (Ext.refl w7).alloc _
      clear X1 X3 X4 X6 Xc E1 E3 E4 E6 E7 HW HX HR HO Ha hbc
      generalize w7.alloc (.cells #[.slice y.a.1 y.vals.length y.a.2, .slice y.b.1 y.unk.length y.b.2] 40) = w8 at *
      replace hsc := hsc.up X8
      replace hw3 := hw3.up X8
      replace hw6 := hw6.ext X8
      replace hty := hty.up X8
      have x0 : w8.cell? ⟨w7.heap.size, 0, none⟩ = some (.slice y.a.1 y.vals.length y.a.2) := BY.cell 0
      have x1 : w8.cell? ⟨w7.heap.size, 1, none⟩ = some (.slice y.b.1 y.unk.length y.b.2) := BY.cell 1
      have xl := BY.lt
      replace X8 := X7.trans X8
      clear BY X7
      go_upto_region 12 with (go_at_call 12; refine (HL.out _ _ _ hsc hw6).mono ?_; rintro z w9 ⟨rfl, E9⟩)
      have BF := BlkT.new w9 43 #[.string fname, .int .i64 fnum, .int .i64 16, .bool frep, .bool fpk, .int .i64 fof] rfl
      have X10 : Ext w9 (w9.alloc (.cells #[.string fname, .int .i64 fnum, .int .i64 16, .bool frep, .bool fpk, .int .i64 fof] 43)) := (Ext.refl w9).alloc _
      generalize w9.alloc (.cells #[.string fname, .int .i64 fnum, .int .i64 16, .bool frep, .bool fpk, .int .i64 fof] 43) = w10 at *
      have c2z : w10.cell? ⟨w9.heap.size, 2, none⟩ = some (.int .i64 16) := BF.cell 2
      have cl := BF.lt
      replace X10 := E9.trans X10
      replace hw3 := hw3.up X10
      replace hw6 := hw6.ext X10
      replace hty := hty.up X10
      replace x0 := X10.of_cell x0
      replace x1 := X10.of_cell x1
      replace xl := Nat.lt_of_lt_of_le xl X10.size
      replace X10 := X8.trans X10
      clear BF X8 E9 hsc HL
      go_upto_region 13 with (go_at_call 13; refine (HA.out _ _ _ _ hty hby hw6).mono ?_; rintro z w11 ⟨v, rfl, E11, hv⟩)
      have BV := BlkT.new w11 48 #[.int .i64 v.number, .slice v.a.1 v.words.length v.a.2, .slice v.b.1 v.texts.length v.b.2, .slice v.c.1 v.subs.length v.c.2] rfl
      have X12 : Ext w11 (w11.alloc (.cells #[.int .i64 v.number, .slice v.a.1 v.words.length v.a.2, .slice v.b.1 v.texts.length v.b.2, .slice v.c.1 v.subs.length v.c.2] 48)) := (Ext.refl w11).alloc _
      generalize w11.alloc (.cells #[.int .i64 v.number, .slice v.a.1 v.words.length v.a.2, .slice v.b.1 v.texts.length v.b.2, .slice v.c.1 v.subs.length v.c.2] 48) = w12 at *
      have v1 : w12.cell? ⟨w11.heap.size, 1, none⟩ = some (.slice v.a.1 v.words.length v.a.2) := BV.cell 1
      have v2 : w12.cell? ⟨w11.heap.size, 2, none⟩ = some (.slice v.b.1 v.texts.length v.b.2) := BV.cell 2
      have vl := BV.lt
      replace X12 := E11.trans X12
      replace hw3 := hw3.up X12
      replace c2z := X12.of_cell c2z
      replace cl := Nat.lt_of_lt_of_le cl X12.size
      have HV := Lib.hid (fun h => (hv.out h).1.up X12)
      have Hv := Lib.hid (fun h => (hv.out h).2)
      replace X12 := X10.trans X12
      clear BV X10 E11 hw6 hty hby HA x0 x1 xl hv
      go_wp2_with (go_at_call 14; refine (Hkn.out _).mono ?_; rintro z w13 ⟨rfl, rfl⟩)
      go_ret
      exact ⟨rfl, X12⟩

set_option maxRecDepth 100000 in
set_option maxHeartbeats 2000000 in
theorem lists_yes_other (ha : ∀ w : World, Calls Tryz.prog 6 #[] w fun e w' => e = .returned (.bool true) ∧ Ext w w') (hs : SchemaAt w A n c S) (hb : BytesAt w B m k bs) (hm : m ≤ 1500) (hp : p.size ≤ 5000) {wl wn tn : Nat} {way : List Int} {F : FieldD} {X : MsgT} {ws vw : List Nat} {vt : List ByteArray} {ts : List (List UInt8)} (hn : numberB F.kind = false) (hk15 : F.kind ≠ 15) (hk16 : F.kind ≠ 16)
    (hW : ∀ W, SchemaAt W A n c S → BytesAt W B m k bs → Calls Tryz.prog 8 #[.slice A n c, .int .i64 root, .slice B m k, .int .i64 d, .string p] W fun e W' => ∃ A' c', e = .returned (.tuple #[.slice A' 0 c', .int .u8 2]) ∧ WordsAt W' A' 0 c' ws ∧ Ext W W')
    (hX : ∀ W, SchemaAt W A n c S → BytesAt W B m k bs → Calls Tryz.prog 9 #[.slice A n c, .int .i64 root, .slice B m k, .int .i64 d, .string p] W fun e W' => e = .returned (.tuple #[.slice none 0 0, .int .u8 2]) ∧ Ext W W')
    (hR : ∀ W, SchemaAt W A n c S → BytesAt W B m k bs → Calls Tryz.prog 10 #[.slice A n c, .int .i64 root, .slice B m k, .int .i64 d, .string p] W fun e W' => ∃ A' c', e = .returned (.tuple #[.slice A' wl c', .int .i64 0]) ∧ Reads W' A' wl c' 1 (way.map wyV) ∧ Ext W W')
    (hO : ∀ W, SchemaAt W A n c S → BytesAt W B m k bs → Calls Tryz.prog 11 #[.slice A n c, .int .i64 root, .slice B m k] W fun e W' => ∃ y : MsgR, e = .returned (.agg #[.slice y.a.1 y.vals.length y.a.2, .slice y.b.1 y.unk.length y.b.2]) ∧ bare y = X ∧ TreeAt W' y ∧ Ext W W')
    (hL : ∀ W A' c', SchemaAt W A n c S → Reads W A' wl c' 1 (way.map wyV) → Calls Tryz.prog 12 #[.slice A n c, .int .i64 root, .slice A' wl c'] W fun e W' => e = .returned (.tuple #[fieldV F, .bool true]) ∧ Ext W W')
    (hA : ∀ W (y : MsgR) A' c', TreeAt W y → bare y = X → Reads W A' wl c' 1 (way.map wyV) → Calls Tryz.prog 13 #[.agg #[.slice y.a.1 y.vals.length y.a.2, .slice y.b.1 y.unk.length y.b.2], .slice A' wl c'] W fun e W' => ∃ v : ValR, e = .returned (.tuple #[.agg #[.int .i64 v.number, .slice v.a.1 v.words.length v.a.2, .slice v.b.1 v.texts.length v.b.2, .slice v.c.1 v.subs.length v.c.2], .bool true]) ∧ Ext W W' ∧ Hid (true = true → ValAt W v ∧ v.words = vw ∧ v.texts = vt)) :
    Calls Tryz.prog 3 #[.slice A n c, .int .i64 root, .slice B m k, .int .i64 d, .string p] w fun e w' => e = .returned (.bool true) ∧ Ext w w' := by
  have Ha := Lib.hid ha
  have HW := Lib.hid hW
  have HX := Lib.hid hX
  have HR := Lib.hid hR
  have HO := Lib.hid hO
  have HL := Lib.hid hL
  have HA := Lib.hid hA
  have hkn := fun W : World => kNumberR F.kind W
  rw [hn] at hkn
  have Hkn := Lib.hid hkn
  have q15 : (F.kind != 15) = true := by rw [bne_iff_ne]; exact hk15
  have q16 : (F.kind != 16) = true := by rw [bne_iff_ne]; exact hk16
  clear ha hW hX hR hO hL hA hkn hn
  have hc := Reads.cap hb
  obtain ⟨fname, fnum, fkind, frep, fpk, fof⟩ := F
  unfold fieldV at *
  simp only at *
  go_enter Tryz.func3, Tryz.ntmps3
  go_upto_region 3 with (go_at_call 6; refine (Ha.out _).mono ?_; rintro x w1 ⟨rfl, E1⟩)
  go_cut [39] (fun t wz => ∃ b, t = .bool b ∧ Ext w1 wz)
  case first =>
    have hs1 := hs.up E1
    go_wp2_with (go_at_call 7; refine (few07 hs1).mono ?_; rintro y w2 ⟨x, rfl, E2⟩; clear hs1)
    all_goals
      go_meet
      exact ⟨_, rfl, E2⟩
  case rest =>
    obtain ⟨b, rfl, Xc⟩ := hcut
    have X1 := E1.trans Xc
    rcases b with _ | _
    case true =>
      go_wp2
      go_ret
      exact ⟨rfl, X1⟩
    case false =>
      have hsc := hs.up X1
      have hbc := hb.up X1
      go_upto_region 11 with (first
        | (go_at_call 8; refine (HW.out _ hsc hbc).mono ?_; rintro y w3 ⟨A3, c3, rfl, hw3, E3⟩; replace hsc := hsc.up E3; replace hbc := hbc.up E3; have X3 := X1.trans E3)
        | (go_at_call 9; refine (HX.out _ hsc hbc).mono ?_; rintro y w4 ⟨rfl, E4⟩; replace hsc := hsc.up E4; replace hbc := hbc.up E4; replace hw3 := hw3.up E4; have X4 := X3.trans E4)
        | (go_at_call 10; refine (HR.out _ hsc hbc).mono ?_; rintro y w6 ⟨A6, c6, rfl, hw6, E6⟩; replace hsc := hsc.up E6; replace hbc := hbc.up E6; replace hw3 := hw3.up E6; have X6 := X4.trans E6)
        | (go_at_call 11; refine (HO.out _ hsc hbc).mono ?_; rintro z w7 ⟨y, rfl, hby, hty, E7⟩; replace hsc := hsc.up E7; replace hbc := hbc.up E7; replace hw3 := hw3.up E7; replace hw6 := hw6.ext E7; have X7 := X6.trans E7))
      have BY := BlkT.new w7 40 #[.slice y.a.1 y.vals.length y.a.2, .slice y.b.1 y.unk.length y.b.2] rfl
      have X8 : Ext w7 (w7.alloc (.cells #[.slice y.a.1 y.vals.length y.a.2, .slice y.b.1 y.unk.length y.b.2] 40)) := (Ext.refl w7).alloc _
      clear X1 X3 X4 X6 Xc E1 E3 E4 E6 E7 HW HX HR HO Ha hbc
      generalize w7.alloc (.cells #[.slice y.a.1 y.vals.length y.a.2, .slice y.b.1 y.unk.length y.b.2] 40) = w8 at *
      replace hsc := hsc.up X8
      replace hw3 := hw3.up X8
      replace hw6 := hw6.ext X8
      replace hty := hty.up X8
      have x0 : w8.cell? ⟨w7.heap.size, 0, none⟩ = some (.slice y.a.1 y.vals.length y.a.2) := BY.cell 0
      have x1 : w8.cell? ⟨w7.heap.size, 1, none⟩ = some (.slice y.b.1 y.unk.length y.b.2) := BY.cell 1
      have xl := BY.lt
      replace X8 := X7.trans X8
      clear BY X7
      go_upto_region 12 with (go_at_call 12; refine (HL.out _ _ _ hsc hw6).mono ?_; rintro z w9 ⟨rfl, E9⟩)
      have BF := BlkT.new w9 43 #[.string fname, .int .i64 fnum, .int .i64 fkind, .bool frep, .bool fpk, .int .i64 fof] rfl
      have X10 : Ext w9 (w9.alloc (.cells #[.string fname, .int .i64 fnum, .int .i64 fkind, .bool frep, .bool fpk, .int .i64 fof] 43)) := (Ext.refl w9).alloc _
      generalize w9.alloc (.cells #[.string fname, .int .i64 fnum, .int .i64 fkind, .bool frep, .bool fpk, .int .i64 fof] 43) = w10 at *
      have c2z : w10.cell? ⟨w9.heap.size, 2, none⟩ = some (.int .i64 fkind) := BF.cell 2
      have cl := BF.lt
      replace X10 := E9.trans X10
      replace hw3 := hw3.up X10
      replace hw6 := hw6.ext X10
      replace hty := hty.up X10
      replace x0 := X10.of_cell x0
      replace x1 := X10.of_cell x1
      replace xl := Nat.lt_of_lt_of_le xl X10.size
      replace X10 := X8.trans X10
      clear BF X8 E9 hsc HL
      go_upto_region 13 with (go_at_call 13; refine (HA.out _ _ _ _ hty hby hw6).mono ?_; rintro z w11 ⟨v, rfl, E11, hv⟩)
      have BV := BlkT.new w11 48 #[.int .i64 v.number, .slice v.a.1 v.words.length v.a.2, .slice v.b.1 v.texts.length v.b.2, .slice v.c.1 v.subs.length v.c.2] rfl
      have X12 : Ext w11 (w11.alloc (.cells #[.int .i64 v.number, .slice v.a.1 v.words.length v.a.2, .slice v.b.1 v.texts.length v.b.2, .slice v.c.1 v.subs.length v.c.2] 48)) := (Ext.refl w11).alloc _
      generalize w11.alloc (.cells #[.int .i64 v.number, .slice v.a.1 v.words.length v.a.2, .slice v.b.1 v.texts.length v.b.2, .slice v.c.1 v.subs.length v.c.2] 48) = w12 at *
      have v1 : w12.cell? ⟨w11.heap.size, 1, none⟩ = some (.slice v.a.1 v.words.length v.a.2) := BV.cell 1
      have v2 : w12.cell? ⟨w11.heap.size, 2, none⟩ = some (.slice v.b.1 v.texts.length v.b.2) := BV.cell 2
      have vl := BV.lt
      replace X12 := E11.trans X12
      replace hw3 := hw3.up X12
      replace c2z := X12.of_cell c2z
      replace cl := Nat.lt_of_lt_of_le cl X12.size
      have HV := Lib.hid (fun h => (hv.out h).1.up X12)
      have Hv := Lib.hid (fun h => (hv.out h).2)
      replace X12 := X10.trans X12
      clear BV X10 E11 hw6 hty hby HA x0 x1 xl hv
      go_wp2_with (go_at_call 14; refine (Hkn.out _).mono ?_; rintro z w13 ⟨rfl, rfl⟩)
      go_ret
      exact ⟨rfl, X12⟩

set_option maxRecDepth 100000 in
set_option maxHeartbeats 2000000 in
theorem lists_words (ha : ∀ w : World, Calls Tryz.prog 6 #[] w fun e w' => e = .returned (.bool true) ∧ Ext w w') (hs : SchemaAt w A n c S) (hb : BytesAt w B m k bs) (hm : m ≤ 1500) (hp : p.size ≤ 5000) {wl wn tn : Nat} {way : List Int} {F : FieldD} {X : MsgT} {ws vw : List Nat} {vt : List ByteArray} {ts : List (List UInt8)} (hn : numberB F.kind = true) (hk15 : F.kind ≠ 15) (hk16 : F.kind ≠ 16) (hvw : vw = ws) (hwn : wn ≤ 1000000000)
    (hW : ∀ W, SchemaAt W A n c S → BytesAt W B m k bs → Calls Tryz.prog 8 #[.slice A n c, .int .i64 root, .slice B m k, .int .i64 d, .string p] W fun e W' => ∃ A' c', e = .returned (.tuple #[.slice A' wn c', .int .u8 0]) ∧ WordsAt W' A' wn c' ws ∧ Ext W W')
    (hX : ∀ W, SchemaAt W A n c S → BytesAt W B m k bs → Calls Tryz.prog 9 #[.slice A n c, .int .i64 root, .slice B m k, .int .i64 d, .string p] W fun e W' => e = .returned (.tuple #[.slice none 0 0, .int .u8 2]) ∧ Ext W W')
    (hR : ∀ W, SchemaAt W A n c S → BytesAt W B m k bs → Calls Tryz.prog 10 #[.slice A n c, .int .i64 root, .slice B m k, .int .i64 d, .string p] W fun e W' => ∃ A' c', e = .returned (.tuple #[.slice A' wl c', .int .i64 0]) ∧ Reads W' A' wl c' 1 (way.map wyV) ∧ Ext W W')
    (hO : ∀ W, SchemaAt W A n c S → BytesAt W B m k bs → Calls Tryz.prog 11 #[.slice A n c, .int .i64 root, .slice B m k] W fun e W' => ∃ y : MsgR, e = .returned (.agg #[.slice y.a.1 y.vals.length y.a.2, .slice y.b.1 y.unk.length y.b.2]) ∧ bare y = X ∧ TreeAt W' y ∧ Ext W W')
    (hL : ∀ W A' c', SchemaAt W A n c S → Reads W A' wl c' 1 (way.map wyV) → Calls Tryz.prog 12 #[.slice A n c, .int .i64 root, .slice A' wl c'] W fun e W' => e = .returned (.tuple #[fieldV F, .bool true]) ∧ Ext W W')
    (hA : ∀ W (y : MsgR) A' c', TreeAt W y → bare y = X → Reads W A' wl c' 1 (way.map wyV) → Calls Tryz.prog 13 #[.agg #[.slice y.a.1 y.vals.length y.a.2, .slice y.b.1 y.unk.length y.b.2], .slice A' wl c'] W fun e W' => ∃ v : ValR, e = .returned (.tuple #[.agg #[.int .i64 v.number, .slice v.a.1 v.words.length v.a.2, .slice v.b.1 v.texts.length v.b.2, .slice v.c.1 v.subs.length v.c.2], .bool true]) ∧ Ext W W' ∧ Hid (true = true → ValAt W v ∧ v.words = vw ∧ v.texts = vt)) :
    Calls Tryz.prog 3 #[.slice A n c, .int .i64 root, .slice B m k, .int .i64 d, .string p] w fun e w' => e = .returned (.bool true) ∧ Ext w w' := by
  have Ha := Lib.hid ha
  have HW := Lib.hid hW
  have HX := Lib.hid hX
  have HR := Lib.hid hR
  have HO := Lib.hid hO
  have HL := Lib.hid hL
  have HA := Lib.hid hA
  have hkn := fun W : World => kNumberR F.kind W
  rw [hn] at hkn
  have Hkn := Lib.hid hkn
  have q15 : (F.kind != 15) = true := by rw [bne_iff_ne]; exact hk15
  have q16 : (F.kind != 16) = true := by rw [bne_iff_ne]; exact hk16
  clear ha hW hX hR hO hL hA hkn hn
  have hc := Reads.cap hb
  obtain ⟨fname, fnum, fkind, frep, fpk, fof⟩ := F
  unfold fieldV at *
  simp only at *
  go_enter Tryz.func3, Tryz.ntmps3
  go_upto_region 3 with (go_at_call 6; refine (Ha.out _).mono ?_; rintro x w1 ⟨rfl, E1⟩)
  go_cut [39] (fun t wz => ∃ b, t = .bool b ∧ Ext w1 wz)
  case first =>
    have hs1 := hs.up E1
    go_wp2_with (go_at_call 7; refine (few07 hs1).mono ?_; rintro y w2 ⟨x, rfl, E2⟩; clear hs1)
    all_goals
      go_meet
      exact ⟨_, rfl, E2⟩
  case rest =>
    obtain ⟨b, rfl, Xc⟩ := hcut
    have X1 := E1.trans Xc
    rcases b with _ | _
    case true =>
      go_wp2
      go_ret
      exact ⟨rfl, X1⟩
    case false =>
      have hsc := hs.up X1
      have hbc := hb.up X1
      go_upto_region 11 with (first
        | (go_at_call 8; refine (HW.out _ hsc hbc).mono ?_; rintro y w3 ⟨A3, c3, rfl, hw3, E3⟩; replace hsc := hsc.up E3; replace hbc := hbc.up E3; have X3 := X1.trans E3)
        | (go_at_call 9; refine (HX.out _ hsc hbc).mono ?_; rintro y w4 ⟨rfl, E4⟩; replace hsc := hsc.up E4; replace hbc := hbc.up E4; replace hw3 := hw3.up E4; have X4 := X3.trans E4)
        | (go_at_call 10; refine (HR.out _ hsc hbc).mono ?_; rintro y w6 ⟨A6, c6, rfl, hw6, E6⟩; replace hsc := hsc.up E6; replace hbc := hbc.up E6; replace hw3 := hw3.up E6; have X6 := X4.trans E6)
        | (go_at_call 11; refine (HO.out _ hsc hbc).mono ?_; rintro z w7 ⟨y, rfl, hby, hty, E7⟩; replace hsc := hsc.up E7; replace hbc := hbc.up E7; replace hw3 := hw3.up E7; replace hw6 := hw6.ext E7; have X7 := X6.trans E7))
      have BY := BlkT.new w7 40 #[.slice y.a.1 y.vals.length y.a.2, .slice y.b.1 y.unk.length y.b.2] rfl
      have X8 : Ext w7 (w7.alloc (.cells #[.slice y.a.1 y.vals.length y.a.2, .slice y.b.1 y.unk.length y.b.2] 40)) := (Ext.refl w7).alloc _
      clear X1 X3 X4 X6 Xc E1 E3 E4 E6 E7 HW HX HR HO Ha hbc
      generalize w7.alloc (.cells #[.slice y.a.1 y.vals.length y.a.2, .slice y.b.1 y.unk.length y.b.2] 40) = w8 at *
      replace hsc := hsc.up X8
      replace hw3 := hw3.up X8
      replace hw6 := hw6.ext X8
      replace hty := hty.up X8
      have x0 : w8.cell? ⟨w7.heap.size, 0, none⟩ = some (.slice y.a.1 y.vals.length y.a.2) := BY.cell 0
      have x1 : w8.cell? ⟨w7.heap.size, 1, none⟩ = some (.slice y.b.1 y.unk.length y.b.2) := BY.cell 1
      have xl := BY.lt
      replace X8 := X7.trans X8
      clear BY X7
      go_upto_region 12 with (go_at_call 12; refine (HL.out _ _ _ hsc hw6).mono ?_; rintro z w9 ⟨rfl, E9⟩)
      have BF := BlkT.new w9 43 #[.string fname, .int .i64 fnum, .int .i64 fkind, .bool frep, .bool fpk, .int .i64 fof] rfl
      have X10 : Ext w9 (w9.alloc (.cells #[.string fname, .int .i64 fnum, .int .i64 fkind, .bool frep, .bool fpk, .int .i64 fof] 43)) := (Ext.refl w9).alloc _
      generalize w9.alloc (.cells #[.string fname, .int .i64 fnum, .int .i64 fkind, .bool frep, .bool fpk, .int .i64 fof] 43) = w10 at *
      have c2z : w10.cell? ⟨w9.heap.size, 2, none⟩ = some (.int .i64 fkind) := BF.cell 2
      have cl := BF.lt
      replace X10 := E9.trans X10
      replace hw3 := hw3.up X10
      replace hw6 := hw6.ext X10
      replace hty := hty.up X10
      replace x0 := X10.of_cell x0
      replace x1 := X10.of_cell x1
      replace xl := Nat.lt_of_lt_of_le xl X10.size
      replace X10 := X8.trans X10
      clear BF X8 E9 hsc HL
      go_upto_region 13 with (go_at_call 13; refine (HA.out _ _ _ _ hty hby hw6).mono ?_; rintro z w11 ⟨v, rfl, E11, hv⟩)
      have BV := BlkT.new w11 48 #[.int .i64 v.number, .slice v.a.1 v.words.length v.a.2, .slice v.b.1 v.texts.length v.b.2, .slice v.c.1 v.subs.length v.c.2] rfl
      have X12 : Ext w11 (w11.alloc (.cells #[.int .i64 v.number, .slice v.a.1 v.words.length v.a.2, .slice v.b.1 v.texts.length v.b.2, .slice v.c.1 v.subs.length v.c.2] 48)) := (Ext.refl w11).alloc _
      generalize w11.alloc (.cells #[.int .i64 v.number, .slice v.a.1 v.words.length v.a.2, .slice v.b.1 v.texts.length v.b.2, .slice v.c.1 v.subs.length v.c.2] 48) = w12 at *
      have v1 : w12.cell? ⟨w11.heap.size, 1, none⟩ = some (.slice v.a.1 v.words.length v.a.2) := BV.cell 1
      have v2 : w12.cell? ⟨w11.heap.size, 2, none⟩ = some (.slice v.b.1 v.texts.length v.b.2) := BV.cell 2
      have vl := BV.lt
      replace X12 := E11.trans X12
      replace hw3 := hw3.up X12
      replace c2z := X12.of_cell c2z
      replace cl := Nat.lt_of_lt_of_le cl X12.size
      have HV := Lib.hid (fun h => (hv.out h).1.up X12)
      have Hv := Lib.hid (fun h => (hv.out h).2)
      replace X12 := X10.trans X12
      clear BV X10 E11 hw6 hty hby HA x0 x1 xl hv
      obtain ⟨h1, h2⟩ := Hv.out (by simp)
      have hvl := (HV.out (by simp)).own.words
      rw [h1, hvw] at hvl
      rw [h1, hvw] at v1
      have Hvl := Lib.hid hvl
      have hd : decide (ws = ws) = true := by simp
      clear h1 h2 hvl Hv HV hvw
      go_wp2_with (first
        | (go_at_call 14; refine (Hkn.out _).mono ?_; rintro z w13 ⟨rfl, rfl⟩)
        | (go_at_call 15; refine (sameU hw3 Hvl.out (by omega)).mono ?_; rintro z w14 ⟨rfl, E14⟩))
      go_ret
      exact ⟨rfl, X12.trans E14⟩

set_option maxRecDepth 100000 in
set_option maxHeartbeats 2000000 in
theorem lists_texts_15 (ha : ∀ w : World, Calls Tryz.prog 6 #[] w fun e w' => e = .returned (.bool true) ∧ Ext w w') (hs : SchemaAt w A n c S) (hb : BytesAt w B m k bs) (hm : m ≤ 1500) (hp : p.size ≤ 5000) {wl wn tn : Nat} {way : List Int} {F : FieldD} {X : MsgT} {ws vw : List Nat} {vt : List ByteArray} {ts : List (List UInt8)} (hn : numberB F.kind = false) (hk : F.kind = 15) (hvt : vt = ts.map textO) (htn : ts.length = tn) (htn9 : tn ≤ 1000000000)
    (hW : ∀ W, SchemaAt W A n c S → BytesAt W B m k bs → Calls Tryz.prog 8 #[.slice A n c, .int .i64 root, .slice B m k, .int .i64 d, .string p] W fun e W' => ∃ A' c', e = .returned (.tuple #[.slice A' 0 c', .int .u8 2]) ∧ WordsAt W' A' 0 c' ws ∧ Ext W W')
    (hX : ∀ W, SchemaAt W A n c S → BytesAt W B m k bs → Calls Tryz.prog 9 #[.slice A n c, .int .i64 root, .slice B m k, .int .i64 d, .string p] W fun e W' => ∃ l A' c', e = .returned (.tuple #[.slice A' tn c', .int .u8 0]) ∧ BRowsAt W' A' tn c' l ∧ bytesR l = ts ∧ Ext W W')
    (hR : ∀ W, SchemaAt W A n c S → BytesAt W B m k bs → Calls Tryz.prog 10 #[.slice A n c, .int .i64 root, .slice B m k, .int .i64 d, .string p] W fun e W' => ∃ A' c', e = .returned (.tuple #[.slice A' wl c', .int .i64 0]) ∧ Reads W' A' wl c' 1 (way.map wyV) ∧ Ext W W')
    (hO : ∀ W, SchemaAt W A n c S → BytesAt W B m k bs → Calls Tryz.prog 11 #[.slice A n c, .int .i64 root, .slice B m k] W fun e W' => ∃ y : MsgR, e = .returned (.agg #[.slice y.a.1 y.vals.length y.a.2, .slice y.b.1 y.unk.length y.b.2]) ∧ bare y = X ∧ TreeAt W' y ∧ Ext W W')
    (hL : ∀ W A' c', SchemaAt W A n c S → Reads W A' wl c' 1 (way.map wyV) → Calls Tryz.prog 12 #[.slice A n c, .int .i64 root, .slice A' wl c'] W fun e W' => e = .returned (.tuple #[fieldV F, .bool true]) ∧ Ext W W')
    (hA : ∀ W (y : MsgR) A' c', TreeAt W y → bare y = X → Reads W A' wl c' 1 (way.map wyV) → Calls Tryz.prog 13 #[.agg #[.slice y.a.1 y.vals.length y.a.2, .slice y.b.1 y.unk.length y.b.2], .slice A' wl c'] W fun e W' => ∃ v : ValR, e = .returned (.tuple #[.agg #[.int .i64 v.number, .slice v.a.1 v.words.length v.a.2, .slice v.b.1 v.texts.length v.b.2, .slice v.c.1 v.subs.length v.c.2], .bool true]) ∧ Ext W W' ∧ Hid (true = true → ValAt W v ∧ v.words = vw ∧ v.texts = vt)) :
    Calls Tryz.prog 3 #[.slice A n c, .int .i64 root, .slice B m k, .int .i64 d, .string p] w fun e w' => e = .returned (.bool true) ∧ Ext w w' := by
  have Ha := Lib.hid ha
  have HW := Lib.hid hW
  have HX := Lib.hid hX
  have HR := Lib.hid hR
  have HO := Lib.hid hO
  have HL := Lib.hid hL
  have HA := Lib.hid hA
  have hkn := fun W : World => kNumberR F.kind W
  rw [hn] at hkn
  have Hkn := Lib.hid hkn
  have Htn := Lib.hid htn
  clear htn
  clear ha hW hX hR hO hL hA hkn hn
  have hc := Reads.cap hb
  obtain ⟨fname, fnum, fkind, frep, fpk, fof⟩ := F
  unfold fieldV at *
  simp only at *
  subst hk
  go_enter Tryz.func3, Tryz.ntmps3
  go_upto_region 3 with (go_at_call 6; refine (Ha.out _).mono ?_; rintro x w1 ⟨rfl, E1⟩)
  go_cut [39] (fun t wz => ∃ b, t = .bool b ∧ Ext w1 wz)
  case first =>
    have hs1 := hs.up E1
    go_wp2_with (go_at_call 7; refine (few07 hs1).mono ?_; rintro y w2 ⟨x, rfl, E2⟩; clear hs1)
    all_goals
      go_meet
      exact ⟨_, rfl, E2⟩
  case rest =>
    obtain ⟨b, rfl, Xc⟩ := hcut
    have X1 := E1.trans Xc
    rcases b with _ | _
    case true =>
      go_wp2
      go_ret
      exact ⟨rfl, X1⟩
    case false =>
      have hsc := hs.up X1
      have hbc := hb.up X1
      go_upto_region 11 with (first
        | (go_at_call 8; refine (HW.out _ hsc hbc).mono ?_; rintro y w3 ⟨A3, c3, rfl, hw3, E3⟩; replace hsc := hsc.up E3; replace hbc := hbc.up E3; have X3 := X1.trans E3)
        | (go_at_call 9; refine (HX.out _ hsc hbc).mono ?_; rintro y w4 ⟨l4, A4, c4, rfl, hB4, hts4, E4⟩; replace hsc := hsc.up E4; replace hbc := hbc.up E4; replace hw3 := hw3.up E4; have X4 := X3.trans E4)
        | (go_at_call 10; refine (HR.out _ hsc hbc).mono ?_; rintro y w6 ⟨A6, c6, rfl, hw6, E6⟩; replace hsc := hsc.up E6; replace hbc := hbc.up E6; replace hw3 := hw3.up E6; replace hB4 := hB4.up E6; have X6 := X4.trans E6)
        | (go_at_call 11; refine (HO.out _ hsc hbc).mono ?_; rintro z w7 ⟨y, rfl, hby, hty, E7⟩; replace hsc := hsc.up E7; replace hbc := hbc.up E7; replace hw3 := hw3.up E7; replace hB4 := hB4.up E7; replace hw6 := hw6.ext E7; have X7 := X6.trans E7))
      have BY := BlkT.new w7 40 #[.slice y.a.1 y.vals.length y.a.2, .slice y.b.1 y.unk.length y.b.2] rfl
      have X8 : Ext w7 (w7.alloc (.cells #[.slice y.a.1 y.vals.length y.a.2, .slice y.b.1 y.unk.length y.b.2] 40)) := (Ext.refl w7).alloc _
      clear X1 X3 X4 X6 Xc E1 E3 E4 E6 E7 HW HX HR HO Ha hbc
      generalize w7.alloc (.cells #[.slice y.a.1 y.vals.length y.a.2, .slice y.b.1 y.unk.length y.b.2] 40) = w8 at *
      replace hsc := hsc.up X8
      replace hw3 := hw3.up X8
      replace hB4 := hB4.up X8
      replace hw6 := hw6.ext X8
      replace hty := hty.up X8
      have x0 : w8.cell? ⟨w7.heap.size, 0, none⟩ = some (.slice y.a.1 y.vals.length y.a.2) := BY.cell 0
      have x1 : w8.cell? ⟨w7.heap.size, 1, none⟩ = some (.slice y.b.1 y.unk.length y.b.2) := BY.cell 1
      have xl := BY.lt
      replace X8 := X7.trans X8
      clear BY X7
      go_upto_region 12 with (go_at_call 12; refine (HL.out _ _ _ hsc hw6).mono ?_; rintro z w9 ⟨rfl, E9⟩)
      have BF := BlkT.new w9 43 #[.string fname, .int .i64 fnum, .int .i64 15, .bool frep, .bool fpk, .int .i64 fof] rfl
      have X10 : Ext w9 (w9.alloc (.cells #[.string fname, .int .i64 fnum, .int .i64 15, .bool frep, .bool fpk, .int .i64 fof] 43)) := (Ext.refl w9).alloc _
      generalize w9.alloc (.cells #[.string fname, .int .i64 fnum, .int .i64 15, .bool frep, .bool fpk, .int .i64 fof] 43) = w10 at *
      have c2z : w10.cell? ⟨w9.heap.size, 2, none⟩ = some (.int .i64 15) := BF.cell 2
      have cl := BF.lt
      replace X10 := E9.trans X10
      replace hw3 := hw3.up X10
      replace hB4 := hB4.up X10
      replace hw6 := hw6.ext X10
      replace hty := hty.up X10
      replace x0 := X10.of_cell x0
      replace x1 := X10.of_cell x1
      replace xl := Nat.lt_of_lt_of_le xl X10.size
      replace X10 := X8.trans X10
      clear BF X8 E9 hsc HL
      go_upto_region 13 with (go_at_call 13; refine (HA.out _ _ _ _ hty hby hw6).mono ?_; rintro z w11 ⟨v, rfl, E11, hv⟩)
      have BV := BlkT.new w11 48 #[.int .i64 v.number, .slice v.a.1 v.words.length v.a.2, .slice v.b.1 v.texts.length v.b.2, .slice v.c.1 v.subs.length v.c.2] rfl
      have X12 : Ext w11 (w11.alloc (.cells #[.int .i64 v.number, .slice v.a.1 v.words.length v.a.2, .slice v.b.1 v.texts.length v.b.2, .slice v.c.1 v.subs.length v.c.2] 48)) := (Ext.refl w11).alloc _
      generalize w11.alloc (.cells #[.int .i64 v.number, .slice v.a.1 v.words.length v.a.2, .slice v.b.1 v.texts.length v.b.2, .slice v.c.1 v.subs.length v.c.2] 48) = w12 at *
      have v1 : w12.cell? ⟨w11.heap.size, 1, none⟩ = some (.slice v.a.1 v.words.length v.a.2) := BV.cell 1
      have v2 : w12.cell? ⟨w11.heap.size, 2, none⟩ = some (.slice v.b.1 v.texts.length v.b.2) := BV.cell 2
      have vl := BV.lt
      replace X12 := E11.trans X12
      replace hw3 := hw3.up X12
      replace hB4 := hB4.up X12
      replace c2z := X12.of_cell c2z
      replace cl := Nat.lt_of_lt_of_le cl X12.size
      have HV := Lib.hid (fun h => (hv.out h).1.up X12)
      have Hv := Lib.hid (fun h => (hv.out h).2)
      replace X12 := X10.trans X12
      clear BV X10 E11 hw6 hty hby HA x0 x1 xl hv
      obtain ⟨h1, h2⟩ := Hv.out (by simp)
      rw [hvt] at h2
      have htx := (HV.out (by simp)).own.texts
      have hvl : v.texts.length = tn := by rw [h2, List.length_map, Htn.out]
      rw [hvl] at v2
      have Htx := Lib.hid htx
      have H2 := Lib.hid h2
      have Hvl := Lib.hid hvl
      have Hts := Lib.hid hts4
      clear h1 h2 hvl htx Hv HV hvt hts4
      go_wp2_with (go_at_call 14; refine (Hkn.out _).mono ?_; rintro z w13 ⟨rfl, rfl⟩)
      go_loopw [24] (fun u wr => ∃ (q : Nat), q ≤ tn ∧ u = .int .i64 (q : Int) ∧ Ext w12 wr) (fun u _ => tn - (intOf u).toNat)
      case atStart => exact ⟨0, Nat.zero_le _, rfl, (by repeat with_reducible (first | exact Ext.refl _ | refine Ext.alloc ?_ _ | refine Ext.drew ?_ | refine Ext.drewN ?_ _ | refine Ext.setCell ?_ (by first | exact Nat.le_refl _ | omega | (simp; done) | (simp; omega)) _))⟩
      case round =>
        obtain ⟨q, hq, rfl, E14⟩ := hrel
        by_cases hlt : q < tn
        · have hlt2 : (q : Int) < tn := by omega
          obtain ⟨b5, o5, r5, rfl, hr5, hb5, hby5, hc5⟩ := (hB4.up E14).row hlt
          have hrt : ts[q]? = some r5.bs := by
            rw [← Hts.out]
            unfold bytesR
            rw [List.getElem?_map, hr5]
            rfl
          obtain ⟨b6, o6, t6, hA6, ht6, hb6, _, hc6⟩ := (Htx.out.up E14).text (k := q) (by rw [Hvl.out]; exact hlt)
          have htt : t6 = textO r5.bs := by
            rw [H2.out, List.getElem?_map, hrt] at ht6
            exact (Option.some.inj ht6).symm
          subst htt
          replace v2 := E14.of_cell v2
          replace vl := Nat.lt_of_lt_of_le vl E14.size
          rw [hA6] at v2
          obtain ⟨RA, rn, rc, rb⟩ := r5
          simp only at hby5 hc5 hc6
          unfold textO at hc6
          have cv : ∀ n, (convert 24 9 (.slice RA rn rc)).run Tryz.prog (wr.drewN n) = .ok (.string ⟨rb.toArray⟩) (wr.drewN n) := fun n => (hby5.up ((Ext.refl wr).drewN n)).convert (P := Tryz.prog) 24 5 9 Tryz.underlying24 Tryz.underlying5 Tryz.underlying9
          clear hr5 hrt ht6 hA6 hby5 hB4 Htx H2 Hts Hvl
          go_wp2_with fail
          go_quiet (fail)
          go_wp2_with fail
          go_roundw
          case rel => exact ⟨q + 1, by omega, by go_num, by first | exact E14 | exact E14.drewN _⟩
          case measure => simp [intOf]; omega
        · obtain rfl : q = tn := by omega
          go_wp2
          go_ret
          exact ⟨rfl, X12.trans E14⟩

set_option maxRecDepth 100000 in
set_option maxHeartbeats 2000000 in
theorem lists_texts_16 (ha : ∀ w : World, Calls Tryz.prog 6 #[] w fun e w' => e = .returned (.bool true) ∧ Ext w w') (hs : SchemaAt w A n c S) (hb : BytesAt w B m k bs) (hm : m ≤ 1500) (hp : p.size ≤ 5000) {wl wn tn : Nat} {way : List Int} {F : FieldD} {X : MsgT} {ws vw : List Nat} {vt : List ByteArray} {ts : List (List UInt8)} (hn : numberB F.kind = false) (hk : F.kind = 16) (hvt : vt = ts.map textO) (htn : ts.length = tn) (htn9 : tn ≤ 1000000000)
    (hW : ∀ W, SchemaAt W A n c S → BytesAt W B m k bs → Calls Tryz.prog 8 #[.slice A n c, .int .i64 root, .slice B m k, .int .i64 d, .string p] W fun e W' => ∃ A' c', e = .returned (.tuple #[.slice A' 0 c', .int .u8 2]) ∧ WordsAt W' A' 0 c' ws ∧ Ext W W')
    (hX : ∀ W, SchemaAt W A n c S → BytesAt W B m k bs → Calls Tryz.prog 9 #[.slice A n c, .int .i64 root, .slice B m k, .int .i64 d, .string p] W fun e W' => ∃ l A' c', e = .returned (.tuple #[.slice A' tn c', .int .u8 0]) ∧ BRowsAt W' A' tn c' l ∧ bytesR l = ts ∧ Ext W W')
    (hR : ∀ W, SchemaAt W A n c S → BytesAt W B m k bs → Calls Tryz.prog 10 #[.slice A n c, .int .i64 root, .slice B m k, .int .i64 d, .string p] W fun e W' => ∃ A' c', e = .returned (.tuple #[.slice A' wl c', .int .i64 0]) ∧ Reads W' A' wl c' 1 (way.map wyV) ∧ Ext W W')
    (hO : ∀ W, SchemaAt W A n c S → BytesAt W B m k bs → Calls Tryz.prog 11 #[.slice A n c, .int .i64 root, .slice B m k] W fun e W' => ∃ y : MsgR, e = .returned (.agg #[.slice y.a.1 y.vals.length y.a.2, .slice y.b.1 y.unk.length y.b.2]) ∧ bare y = X ∧ TreeAt W' y ∧ Ext W W')
    (hL : ∀ W A' c', SchemaAt W A n c S → Reads W A' wl c' 1 (way.map wyV) → Calls Tryz.prog 12 #[.slice A n c, .int .i64 root, .slice A' wl c'] W fun e W' => e = .returned (.tuple #[fieldV F, .bool true]) ∧ Ext W W')
    (hA : ∀ W (y : MsgR) A' c', TreeAt W y → bare y = X → Reads W A' wl c' 1 (way.map wyV) → Calls Tryz.prog 13 #[.agg #[.slice y.a.1 y.vals.length y.a.2, .slice y.b.1 y.unk.length y.b.2], .slice A' wl c'] W fun e W' => ∃ v : ValR, e = .returned (.tuple #[.agg #[.int .i64 v.number, .slice v.a.1 v.words.length v.a.2, .slice v.b.1 v.texts.length v.b.2, .slice v.c.1 v.subs.length v.c.2], .bool true]) ∧ Ext W W' ∧ Hid (true = true → ValAt W v ∧ v.words = vw ∧ v.texts = vt)) :
    Calls Tryz.prog 3 #[.slice A n c, .int .i64 root, .slice B m k, .int .i64 d, .string p] w fun e w' => e = .returned (.bool true) ∧ Ext w w' := by
  have Ha := Lib.hid ha
  have HW := Lib.hid hW
  have HX := Lib.hid hX
  have HR := Lib.hid hR
  have HO := Lib.hid hO
  have HL := Lib.hid hL
  have HA := Lib.hid hA
  have hkn := fun W : World => kNumberR F.kind W
  rw [hn] at hkn
  have Hkn := Lib.hid hkn
  have Htn := Lib.hid htn
  clear htn
  clear ha hW hX hR hO hL hA hkn hn
  have hc := Reads.cap hb
  obtain ⟨fname, fnum, fkind, frep, fpk, fof⟩ := F
  unfold fieldV at *
  simp only at *
  subst hk
  go_enter Tryz.func3, Tryz.ntmps3
  go_upto_region 3 with (go_at_call 6; refine (Ha.out _).mono ?_; rintro x w1 ⟨rfl, E1⟩)
  go_cut [39] (fun t wz => ∃ b, t = .bool b ∧ Ext w1 wz)
  case first =>
    have hs1 := hs.up E1
    go_wp2_with (go_at_call 7; refine (few07 hs1).mono ?_; rintro y w2 ⟨x, rfl, E2⟩; clear hs1)
    all_goals
      go_meet
      exact ⟨_, rfl, E2⟩
  case rest =>
    obtain ⟨b, rfl, Xc⟩ := hcut
    have X1 := E1.trans Xc
    rcases b with _ | _
    case true =>
      go_wp2
      go_ret
      exact ⟨rfl, X1⟩
    case false =>
      have hsc := hs.up X1
      have hbc := hb.up X1
      go_upto_region 11 with (first
        | (go_at_call 8; refine (HW.out _ hsc hbc).mono ?_; rintro y w3 ⟨A3, c3, rfl, hw3, E3⟩; replace hsc := hsc.up E3; replace hbc := hbc.up E3; have X3 := X1.trans E3)
        | (go_at_call 9; refine (HX.out _ hsc hbc).mono ?_; rintro y w4 ⟨l4, A4, c4, rfl, hB4, hts4, E4⟩; replace hsc := hsc.up E4; replace hbc := hbc.up E4; replace hw3 := hw3.up E4; have X4 := X3.trans E4)
        | (go_at_call 10; refine (HR.out _ hsc hbc).mono ?_; rintro y w6 ⟨A6, c6, rfl, hw6, E6⟩; replace hsc := hsc.up E6; replace hbc := hbc.up E6; replace hw3 := hw3.up E6; replace hB4 := hB4.up E6; have X6 := X4.trans E6)
        | (go_at_call 11; refine (HO.out _ hsc hbc).mono ?_; rintro z w7 ⟨y, rfl, hby, hty, E7⟩; replace hsc := hsc.up E7; replace hbc := hbc.up E7; replace hw3 := hw3.up E7; replace hB4 := hB4.up E7; replace hw6 := hw6.ext E7; have X7 := X6.trans E7))
      have BY := BlkT.new w7 40 #[.slice y.a.1 y.vals.length y.a.2, .slice y.b.1 y.unk.length y.b.2] rfl
      have X8 : Ext w7 (w7.alloc (.cells #[.slice y.a.1 y.vals.length y.a.2, .slice y.b.1 y.unk.length y.b.2] 40)) := (Ext.refl w7).alloc _
      clear X1 X3 X4 X6 Xc E1 E3 E4 E6 E7 HW HX HR HO Ha hbc
      generalize w7.alloc (.cells #[.slice y.a.1 y.vals.length y.a.2, .slice y.b.1 y.unk.length y.b.2] 40) = w8 at *
      replace hsc := hsc.up X8
      replace hw3 := hw3.up X8
      replace hB4 := hB4.up X8
      replace hw6 := hw6.ext X8
      replace hty := hty.up X8
      have x0 : w8.cell? ⟨w7.heap.size, 0, none⟩ = some (.slice y.a.1 y.vals.length y.a.2) := BY.cell 0
      have x1 : w8.cell? ⟨w7.heap.size, 1, none⟩ = some (.slice y.b.1 y.unk.length y.b.2) := BY.cell 1
      have xl := BY.lt
      replace X8 := X7.trans X8
      clear BY X7
      go_upto_region 12 with (go_at_call 12; refine (HL.out _ _ _ hsc hw6).mono ?_; rintro z w9 ⟨rfl, E9⟩)
      have BF := BlkT.new w9 43 #[.string fname, .int .i64 fnum, .int .i64 16, .bool frep, .bool fpk, .int .i64 fof] rfl
      have X10 : Ext w9 (w9.alloc (.cells #[.string fname, .int .i64 fnum, .int .i64 16, .bool frep, .bool fpk, .int .i64 fof] 43)) := (Ext.refl w9).alloc _
      generalize w9.alloc (.cells #[.string fname, .int .i64 fnum, .int .i64 16, .bool frep, .bool fpk, .int .i64 fof] 43) = w10 at *
      have c2z : w10.cell? ⟨w9.heap.size, 2, none⟩ = some (.int .i64 16) := BF.cell 2
      have cl := BF.lt
      replace X10 := E9.trans X10
      replace hw3 := hw3.up X10
      replace hB4 := hB4.up X10
      replace hw6 := hw6.ext X10
      replace hty := hty.up X10
      replace x0 := X10.of_cell x0
      replace x1 := X10.of_cell x1
      replace xl := Nat.lt_of_lt_of_le xl X10.size
      replace X10 := X8.trans X10
      clear BF X8 E9 hsc HL
      go_upto_region 13 with (go_at_call 13; refine (HA.out _ _ _ _ hty hby hw6).mono ?_; rintro z w11 ⟨v, rfl, E11, hv⟩)
      have BV := BlkT.new w11 48 #[.int .i64 v.number, .slice v.a.1 v.words.length v.a.2, .slice v.b.1 v.texts.length v.b.2, .slice v.c.1 v.subs.length v.c.2] rfl
      have X12 : Ext w11 (w11.alloc (.cells #[.int .i64 v.number, .slice v.a.1 v.words.length v.a.2, .slice v.b.1 v.texts.length v.b.2, .slice v.c.1 v.subs.length v.c.2] 48)) := (Ext.refl w11).alloc _
      generalize w11.alloc (.cells #[.int .i64 v.number, .slice v.a.1 v.words.length v.a.2, .slice v.b.1 v.texts.length v.b.2, .slice v.c.1 v.subs.length v.c.2] 48) = w12 at *
      have v1 : w12.cell? ⟨w11.heap.size, 1, none⟩ = some (.slice v.a.1 v.words.length v.a.2) := BV.cell 1
      have v2 : w12.cell? ⟨w11.heap.size, 2, none⟩ = some (.slice v.b.1 v.texts.length v.b.2) := BV.cell 2
      have vl := BV.lt
      replace X12 := E11.trans X12
      replace hw3 := hw3.up X12
      replace hB4 := hB4.up X12
      replace c2z := X12.of_cell c2z
      replace cl := Nat.lt_of_lt_of_le cl X12.size
      have HV := Lib.hid (fun h => (hv.out h).1.up X12)
      have Hv := Lib.hid (fun h => (hv.out h).2)
      replace X12 := X10.trans X12
      clear BV X10 E11 hw6 hty hby HA x0 x1 xl hv
      obtain ⟨h1, h2⟩ := Hv.out (by simp)
      rw [hvt] at h2
      have htx := (HV.out (by simp)).own.texts
      have hvl : v.texts.length = tn := by rw [h2, List.length_map, Htn.out]
      rw [hvl] at v2
      have Htx := Lib.hid htx
      have H2 := Lib.hid h2
      have Hvl := Lib.hid hvl
      have Hts := Lib.hid hts4
      clear h1 h2 hvl htx Hv HV hvt hts4
      go_wp2_with (go_at_call 14; refine (Hkn.out _).mono ?_; rintro z w13 ⟨rfl, rfl⟩)
      go_loopw [24] (fun u wr => ∃ (q : Nat), q ≤ tn ∧ u = .int .i64 (q : Int) ∧ Ext w12 wr) (fun u _ => tn - (intOf u).toNat)
      case atStart => exact ⟨0, Nat.zero_le _, rfl, (by repeat with_reducible (first | exact Ext.refl _ | refine Ext.alloc ?_ _ | refine Ext.drew ?_ | refine Ext.drewN ?_ _ | refine Ext.setCell ?_ (by first | exact Nat.le_refl _ | omega | (simp; done) | (simp; omega)) _))⟩
      case round =>
        obtain ⟨q, hq, rfl, E14⟩ := hrel
        by_cases hlt : q < tn
        · have hlt2 : (q : Int) < tn := by omega
          obtain ⟨b5, o5, r5, rfl, hr5, hb5, hby5, hc5⟩ := (hB4.up E14).row hlt
          have hrt : ts[q]? = some r5.bs := by
            rw [← Hts.out]
            unfold bytesR
            rw [List.getElem?_map, hr5]
            rfl
          obtain ⟨b6, o6, t6, hA6, ht6, hb6, _, hc6⟩ := (Htx.out.up E14).text (k := q) (by rw [Hvl.out]; exact hlt)
          have htt : t6 = textO r5.bs := by
            rw [H2.out, List.getElem?_map, hrt] at ht6
            exact (Option.some.inj ht6).symm
          subst htt
          replace v2 := E14.of_cell v2
          replace vl := Nat.lt_of_lt_of_le vl E14.size
          rw [hA6] at v2
          obtain ⟨RA, rn, rc, rb⟩ := r5
          simp only at hby5 hc5 hc6
          unfold textO at hc6
          have cv : ∀ n, (convert 24 9 (.slice RA rn rc)).run Tryz.prog (wr.drewN n) = .ok (.string ⟨rb.toArray⟩) (wr.drewN n) := fun n => (hby5.up ((Ext.refl wr).drewN n)).convert (P := Tryz.prog) 24 5 9 Tryz.underlying24 Tryz.underlying5 Tryz.underlying9
          clear hr5 hrt ht6 hA6 hby5 hB4 Htx H2 Hts Hvl
          go_wp2_with fail
          go_quiet (fail)
          go_wp2_with fail
          go_roundw
          case rel => exact ⟨q + 1, by omega, by go_num, by first | exact E14 | exact E14.drewN _⟩
          case measure => simp [intOf]; omega
        · obtain rfl : q = tn := by omega
          go_wp2
          go_ret
          exact ⟨rfl, X12.trans E14⟩

end

end Go.Proofs.YtpicpebolghcfaaGreatDoor
