/- Layer 22: the walk of PickGets out of its callees' contracts. (Printed by gen_gets.py.) -/
import Derived.Test.YtpicpebolghcfaaGreatDoorQiW17
import Derived.Test.YtpicpebolghcfaaGreatDoorQiW85
import Derived.Test.YtpicpebolghcfaaGreatDoorQiW8
import Derived.Test.YtpicpebolghcfaaGreatDoorQiKSchemaChecks
import Derived.BigQuiet

namespace Go.Proofs.YtpicpebolghcfaaGreatDoor
open Go.RowKit Go.Shelf
set_option linter.unusedVariables false
set_option linter.unusedSimpArgs false

section
variable {A B : Option Addr} {n c m k : Nat} {S : List MsgV} {root d i : Int} {p : ByteArray} {bs : List UInt8} {w : World}

set_option maxRecDepth 100000 in
set_option maxHeartbeats 2000000 in
theorem gets_great (ha : ∀ w : World, Calls Tryz.prog 6 #[] w fun e w' => e = .returned (.bool true) ∧ Ext w w') (hs : SchemaAt w A n c S) (hb : BytesAt w B m k bs) (hm : 1500 < m) (hp : p.size ≤ maxLen) :
    Calls Tryz.prog 4 #[.slice A n c, .int .i64 root, .slice B m k, .int .i64 d, .string p, .int .i64 i] w fun e w' => e = .returned (.bool true) ∧ Ext w w' := by
  have Ha := Lib.hid ha
  clear ha
  have hc := Reads.cap hb
  have hm2 : (1500 : Int) < m := by omega
  go_enter Tryz.func4, Tryz.ntmps4
  go_upto_region 3 with (go_at_call 6; refine (Ha.out _).mono ?_; rintro x w1 ⟨rfl, E1⟩)
  have hs1 := hs.up E1
  go_wp2_with (go_at_call 7; refine (few07 hs1).mono ?_; rintro y w2 ⟨x, rfl, E2⟩; clear hs1; rcases x with _ | _)
  all_goals
    go_ret
    exact ⟨rfl, E1.trans E2⟩

set_option maxRecDepth 100000 in
set_option maxHeartbeats 2000000 in
theorem gets_long (ha : ∀ w : World, Calls Tryz.prog 6 #[] w fun e w' => e = .returned (.bool true) ∧ Ext w w') (hs : SchemaAt w A n c S) (hb : BytesAt w B m k bs) (hm : m ≤ 1500) (hp : p.size ≤ maxLen) (hp2 : 5000 < p.size) :
    Calls Tryz.prog 4 #[.slice A n c, .int .i64 root, .slice B m k, .int .i64 d, .string p, .int .i64 i] w fun e w' => e = .returned (.bool true) ∧ Ext w w' := by
  have Ha := Lib.hid ha
  clear ha
  have hc := Reads.cap hb
  have hp3 : (5000 : Int) < (p.size : Int) := by omega
  go_enter Tryz.func4, Tryz.ntmps4
  go_upto_region 3 with (go_at_call 6; refine (Ha.out _).mono ?_; rintro x w1 ⟨rfl, E1⟩)
  have hs1 := hs.up E1
  go_wp2_with (go_at_call 7; refine (few07 hs1).mono ?_; rintro y w2 ⟨x, rfl, E2⟩; clear hs1; rcases x with _ | _)
  all_goals
    go_ret
    exact ⟨rfl, E1.trans E2⟩

set_option maxRecDepth 100000 in
set_option maxHeartbeats 2000000 in
theorem gets_bad (ha : ∀ w : World, Calls Tryz.prog 6 #[] w fun e w' => e = .returned (.bool true) ∧ Ext w w') (hs : SchemaAt w A n c S) (hb : BytesAt w B m k bs) (hm : m ≤ 1500) (hp : p.size ≤ 5000) {K wl : Nat} {way : List Int} (h0 : K ≠ 0) (hK : K < 256)
    (hG : ∀ W, SchemaAt W A n c S → BytesAt W B m k bs → Calls Tryz.prog 16 #[.slice A n c, .int .i64 root, .slice B m k, .int .i64 d, .string p] W fun e W' => e = .returned (.tuple #[.slice none 0 0, .int .u8 (K : Int)]) ∧ Ext W W')
    (hC : ∀ W, SchemaAt W A n c S → BytesAt W B m k bs → Calls Tryz.prog 17 #[.slice A n c, .int .i64 root, .slice B m k, .int .i64 d, .string p] W fun e W' => e = .returned (.tuple #[.int .i64 0, .int .u8 (K : Int)]) ∧ Ext W W')
    (hI : ∀ W, SchemaAt W A n c S → BytesAt W B m k bs → Calls Tryz.prog 18 #[.slice A n c, .int .i64 root, .slice B m k, .int .i64 d, .string p, .int .i64 i] W fun e W' => e = .returned (.tuple #[.slice none 0 0, .int .u8 (K : Int)]) ∧ Ext W W')
    (hR : ∀ W, SchemaAt W A n c S → BytesAt W B m k bs → Calls Tryz.prog 10 #[.slice A n c, .int .i64 root, .slice B m k, .int .i64 d, .string p] W fun e W' => ∃ A' c', e = .returned (.tuple #[.slice A' wl c', .int .i64 (K : Int)]) ∧ Ext W W') :
    Calls Tryz.prog 4 #[.slice A n c, .int .i64 root, .slice B m k, .int .i64 d, .string p, .int .i64 i] w fun e w' => e = .returned (.bool true) ∧ Ext w w' := by
  have Ha := Lib.hid ha
  have HG := Lib.hid hG
  have HC := Lib.hid hC
  have HI := Lib.hid hI
  have HR := Lib.hid hR
  have q : ((K : Int) != 0) = true := by rw [bne_iff_ne]; omega
  have q2 : ((K : Int) == 0) = false := by rw [beq_eq_false_iff_ne]; omega
  clear ha hG hC hI hR h0
  have hc := Reads.cap hb
  go_enter Tryz.func4, Tryz.ntmps4
  go_upto_region 3 with (go_at_call 6; refine (Ha.out _).mono ?_; rintro x w1 ⟨rfl, E1⟩)
  go_cut [43] (fun t wz => ∃ b, t = .bool b ∧ Ext w1 wz)
  case first =>
    have hs1 := hs.up E1
    go_wp2_with (go_at_call 7; refine (few07 hs1).mono ?_; rintro y w2 ⟨x, rfl, E2⟩; clear hs1)
    all_goals
      go_meet
      exact ⟨_, rfl, E2⟩
  case rest =>
    obtain ⟨b, rfl, Xc⟩ := hcut
    have X1 := E1.trans Xc
    rcases b with _ | _
    case true =>
      go_wp2
      go_ret
      exact ⟨rfl, X1⟩
    case false =>
      have hsc := hs.up X1
      have hbc := hb.up X1
      go_wp2_with (first
        | (go_at_call 16; refine (HG.out _ hsc hbc).mono ?_; rintro y w3 ⟨rfl, E3⟩; replace hsc := hsc.up E3; replace hbc := hbc.up E3)
        | (go_at_call 17; refine (HC.out _ hsc hbc).mono ?_; rintro y w4 ⟨rfl, E4⟩; replace hsc := hsc.up E4; replace hbc := hbc.up E4)
        | (go_at_call 18; refine (HI.out _ hsc hbc).mono ?_; rintro y w5 ⟨rfl, E5⟩; replace hsc := hsc.up E5; replace hbc := hbc.up E5)
        | (go_at_call 10; refine (HR.out _ hsc hbc).mono ?_; rintro y w6 ⟨A6, c6, rfl, E6⟩))
      go_ret
      exact ⟨rfl, (((X1.trans E3).trans E4).trans E5).trans E6⟩

set_option maxRecDepth 100000 in
set_option maxHeartbeats 2000000 in
theorem gets_no (ha : ∀ w : World, Calls Tryz.prog 6 #[] w fun e w' => e = .returned (.bool true) ∧ Ext w w') (hs : SchemaAt w A n c S) (hb : BytesAt w B m k bs) (hm : m ≤ 1500) (hp : p.size ≤ 5000) {Y : List UInt8} {N wl : Nat} {way : List Int} {F : FieldD} {ps : List (List UInt8)} (hi : i < 0 ∨ (N : Int) ≤ i) (hN : N ≤ 1000000000)
    (hG : ∀ W, SchemaAt W A n c S → BytesAt W B m k bs → Calls Tryz.prog 16 #[.slice A n c, .int .i64 root, .slice B m k, .int .i64 d, .string p] W fun e W' => ∃ A' c', e = .returned (.tuple #[.slice A' 0 c', .int .u8 11]) ∧ BytesAt W' A' 0 c' ([] : List UInt8) ∧ Ext W W')
    (hC : ∀ W, SchemaAt W A n c S → BytesAt W B m k bs → Calls Tryz.prog 17 #[.slice A n c, .int .i64 root, .slice B m k, .int .i64 d, .string p] W fun e W' => e = .returned (.tuple #[.int .i64 (N : Nat), .int .u8 0]) ∧ Ext W W')
    (hI : ∀ W, SchemaAt W A n c S → BytesAt W B m k bs → Calls Tryz.prog 18 #[.slice A n c, .int .i64 root, .slice B m k, .int .i64 d, .string p, .int .i64 i] W fun e W' => ∃ A' c', e = .returned (.tuple #[.slice A' 0 c', .int .u8 11]) ∧ BytesAt W' A' 0 c' Y ∧ Ext W W')
    (hR : ∀ W, SchemaAt W A n c S → BytesAt W B m k bs → Calls Tryz.prog 10 #[.slice A n c, .int .i64 root, .slice B m k, .int .i64 d, .string p] W fun e W' => ∃ A' c', e = .returned (.tuple #[.slice A' wl c', .int .i64 0]) ∧ Reads W' A' wl c' 1 (way.map wyV) ∧ Ext W W')
    (hP : ∀ W A' c', SchemaAt W A n c S → BytesAt W B m k bs → Reads W A' wl c' 1 (way.map wyV) → Calls Tryz.prog 19 #[.slice A n c, .int .i64 root, .slice B m k, .slice A' wl c'] W (PiecesPost F ps W))
    (hL : ∀ W A' n' c' l, BRowsAt W A' n' c' l → bytesR l = ps → Calls Tryz.prog 20 #[.slice A' n' c', fieldV F] W fun e W' => ∃ A2 c2, e = .returned (.tuple #[.slice A2 0 c2, .bool false]) ∧ BytesAt W' A2 0 c2 ([] : List UInt8) ∧ Ext W W')
    (hT : ∀ W A' n' c' l, BRowsAt W A' n' c' l → bytesR l = ps → Calls Tryz.prog 21 #[.slice A' n' c', fieldV F] W fun e W' => e = .returned (.int .i64 (N : Nat)) ∧ Ext W W') :
    Calls Tryz.prog 4 #[.slice A n c, .int .i64 root, .slice B m k, .int .i64 d, .string p, .int .i64 i] w fun e w' => e = .returned (.bool true) ∧ Ext w w' := by
  have Ha := Lib.hid ha
  have HG := Lib.hid hG
  have HC := Lib.hid hC
  have HI := Lib.hid hI
  have HR := Lib.hid hR
  have HP := Lib.hid hP
  have HL := Lib.hid hL
  have HT := Lib.hid hT
  clear ha hG hC hI hR hP hL hT
  have hc := Reads.cap hb
  obtain ⟨fname, fnum, fkind, frep, fpk, fof⟩ := F
  unfold PiecesPost fieldV at *
  simp only at *
  go_enter Tryz.func4, Tryz.ntmps4
  go_upto_region 3 with (go_at_call 6; refine (Ha.out _).mono ?_; rintro x w1 ⟨rfl, E1⟩)
  go_cut [43] (fun t wz => ∃ b, t = .bool b ∧ Ext w1 wz)
  case first =>
    have hs1 := hs.up E1
    go_wp2_with (go_at_call 7; refine (few07 hs1).mono ?_; rintro y w2 ⟨x, rfl, E2⟩; clear hs1)
    all_goals
      go_meet
      exact ⟨_, rfl, E2⟩
  case rest =>
    obtain ⟨b, rfl, Xc⟩ := hcut
    have X1 := E1.trans Xc
    rcases b with _ | _
    case true =>
      go_wp2
      go_ret
      exact ⟨rfl, X1⟩
    case false =>
      have hsc := hs.up X1
      have hbc := hb.up X1
      go_upto_region 12 with (first
        | (go_at_call 16; refine (HG.out _ hsc hbc).mono ?_; rintro y w3 ⟨A3, c3, rfl, hx3, E3⟩; replace hsc := hsc.up E3; replace hbc := hbc.up E3; have X3 := X1.trans E3)
        | (go_at_call 17; refine (HC.out _ hsc hbc).mono ?_; rintro y w4 ⟨rfl, E4⟩; replace hsc := hsc.up E4; replace hbc := hbc.up E4; replace hx3 := hx3.up E4; have X4 := X3.trans E4)
        | (go_at_call 18; refine (HI.out _ hsc hbc).mono ?_; rintro y w5 ⟨A5, c5, rfl, hy5, E5⟩; replace hsc := hsc.up E5; replace hbc := hbc.up E5; replace hx3 := hx3.up E5; have X5 := X4.trans E5)
        | (go_at_call 10; refine (HR.out _ hsc hbc).mono ?_; rintro y w6 ⟨A6, c6, rfl, hw6, E6⟩; replace hsc := hsc.up E6; replace hbc := hbc.up E6; replace hx3 := hx3.up E6; replace hy5 := hy5.up E6; have X6 := X5.trans E6)
        | (go_at_call 19; refine (HP.out _ _ _ hsc hbc hw6).mono ?_; rintro y w7 ⟨l7, A7, n7, c7, rfl, hB7, hps7, E7, _⟩; replace hsc := hsc.up E7; replace hbc := hbc.up E7; replace hx3 := hx3.up E7; replace hy5 := hy5.up E7; have X7 := X6.trans E7))
      have BF := BlkT.new w7 43 #[.string fname, .int .i64 fnum, .int .i64 fkind, .bool frep, .bool fpk, .int .i64 fof] rfl
      have X8 : Ext w7 (w7.alloc (.cells #[.string fname, .int .i64 fnum, .int .i64 fkind, .bool frep, .bool fpk, .int .i64 fof] 43)) := (Ext.refl w7).alloc _
      clear X1 X3 X4 X5 X6 Xc E1 E3 E4 E5 E6 hw6 hsc hbc HG HC HI HR HP Ha
      generalize w7.alloc (.cells #[.string fname, .int .i64 fnum, .int .i64 fkind, .bool frep, .bool fpk, .int .i64 fof] 43) = wx at *
      have hB8 := hB7.up X8
      have hx8 := hx3.up X8
      have hy8 := hy5.up X8
      replace X8 := X7.trans X8
      clear hB7 hx3 hy5 X7
      have c0z : wx.cell? ⟨w7.heap.size, 0, none⟩ = some (.string fname) := BF.cell 0
      have c1z : wx.cell? ⟨w7.heap.size, 1, none⟩ = some (.int .i64 fnum) := BF.cell 1
      have c2z : wx.cell? ⟨w7.heap.size, 2, none⟩ = some (.int .i64 fkind) := BF.cell 2
      have c3z : wx.cell? ⟨w7.heap.size, 3, none⟩ = some (.bool frep) := BF.cell 3
      have c4z : wx.cell? ⟨w7.heap.size, 4, none⟩ = some (.bool fpk) := BF.cell 4
      have c5z : wx.cell? ⟨w7.heap.size, 5, none⟩ = some (.int .i64 fof) := BF.cell 5
      have cl := BF.lt
      clear BF
      by_cases hneg : i < 0
      · have hio : i < 0 := hneg
        go_wp2_with (first
          | (go_at_call 20; refine (HL.out _ _ _ _ _ hB8 hps7).mono ?_; rintro y w9 ⟨A9, c9, rfl, hl9, E9⟩; replace c0z := E9.of_cell c0z; replace c1z := E9.of_cell c1z; replace c2z := E9.of_cell c2z; replace c3z := E9.of_cell c3z; replace c4z := E9.of_cell c4z; replace c5z := E9.of_cell c5z; replace cl := Nat.lt_of_lt_of_le cl E9.size; replace hB8 := hB8.up E9; replace hx8 := hx8.up E9; replace hy8 := hy8.up E9; have X9 := X8.trans E9)
          | (go_at_call 21; refine (HT.out _ _ _ _ _ hB8 hps7).mono ?_; rintro y w10 ⟨rfl, E10⟩; replace c0z := E10.of_cell c0z; replace c1z := E10.of_cell c1z; replace c2z := E10.of_cell c2z; replace c3z := E10.of_cell c3z; replace c4z := E10.of_cell c4z; replace c5z := E10.of_cell c5z; replace cl := Nat.lt_of_lt_of_le cl E10.size; replace hB8 := hB8.up E10; replace hx8 := hx8.up E10; replace hy8 := hy8.up E10; replace hl9 := hl9.up E10; have X10 := X9.trans E10))
        go_ret
        exact ⟨rfl, X10⟩
      · have hio : (N : Int) ≤ i := hi.resolve_left hneg
        go_wp2_with (first
          | (go_at_call 20; refine (HL.out _ _ _ _ _ hB8 hps7).mono ?_; rintro y w9 ⟨A9, c9, rfl, hl9, E9⟩; replace c0z := E9.of_cell c0z; replace c1z := E9.of_cell c1z; replace c2z := E9.of_cell c2z; replace c3z := E9.of_cell c3z; replace c4z := E9.of_cell c4z; replace c5z := E9.of_cell c5z; replace cl := Nat.lt_of_lt_of_le cl E9.size; replace hB8 := hB8.up E9; replace hx8 := hx8.up E9; replace hy8 := hy8.up E9; have X9 := X8.trans E9)
          | (go_at_call 21; refine (HT.out _ _ _ _ _ hB8 hps7).mono ?_; rintro y w10 ⟨rfl, E10⟩; replace c0z := E10.of_cell c0z; replace c1z := E10.of_cell c1z; replace c2z := E10.of_cell c2z; replace c3z := E10.of_cell c3z; replace c4z := E10.of_cell c4z; replace c5z := E10.of_cell c5z; replace cl := Nat.lt_of_lt_of_le cl E10.size; replace hB8 := hB8.up E10; replace hx8 := hx8.up E10; replace hy8 := hy8.up E10; replace hl9 := hl9.up E10; have X10 := X9.trans E10))
        go_ret
        exact ⟨rfl, X10⟩

set_option maxRecDepth 100000 in
set_option maxHeartbeats 2000000 in
theorem gets_out (ha : ∀ w : World, Calls Tryz.prog 6 #[] w fun e w' => e = .returned (.bool true) ∧ Ext w w') (hs : SchemaAt w A n c S) (hb : BytesAt w B m k bs) (hm : m ≤ 1500) (hp : p.size ≤ 5000) {X Y : List UInt8} {xl : Nat} {N wl : Nat} {way : List Int} {F : FieldD} {ps : List (List UInt8)} (hi : i < 0 ∨ (N : Int) ≤ i) (hN : N ≤ 1000000000)
    (hG : ∀ W, SchemaAt W A n c S → BytesAt W B m k bs → Calls Tryz.prog 16 #[.slice A n c, .int .i64 root, .slice B m k, .int .i64 d, .string p] W fun e W' => ∃ A' c', e = .returned (.tuple #[.slice A' xl c', .int .u8 0]) ∧ BytesAt W' A' xl c' X ∧ Ext W W')
    (hC : ∀ W, SchemaAt W A n c S → BytesAt W B m k bs → Calls Tryz.prog 17 #[.slice A n c, .int .i64 root, .slice B m k, .int .i64 d, .string p] W fun e W' => e = .returned (.tuple #[.int .i64 (N : Nat), .int .u8 0]) ∧ Ext W W')
    (hI : ∀ W, SchemaAt W A n c S → BytesAt W B m k bs → Calls Tryz.prog 18 #[.slice A n c, .int .i64 root, .slice B m k, .int .i64 d, .string p, .int .i64 i] W fun e W' => ∃ A' c', e = .returned (.tuple #[.slice A' 0 c', .int .u8 11]) ∧ BytesAt W' A' 0 c' Y ∧ Ext W W')
    (hR : ∀ W, SchemaAt W A n c S → BytesAt W B m k bs → Calls Tryz.prog 10 #[.slice A n c, .int .i64 root, .slice B m k, .int .i64 d, .string p] W fun e W' => ∃ A' c', e = .returned (.tuple #[.slice A' wl c', .int .i64 0]) ∧ Reads W' A' wl c' 1 (way.map wyV) ∧ Ext W W')
    (hP : ∀ W A' c', SchemaAt W A n c S → BytesAt W B m k bs → Reads W A' wl c' 1 (way.map wyV) → Calls Tryz.prog 19 #[.slice A n c, .int .i64 root, .slice B m k, .slice A' wl c'] W (PiecesPost F ps W))
    (hL : ∀ W A' n' c' l, BRowsAt W A' n' c' l → bytesR l = ps → Calls Tryz.prog 20 #[.slice A' n' c', fieldV F] W fun e W' => ∃ A2 c2, e = .returned (.tuple #[.slice A2 xl c2, .bool true]) ∧ BytesAt W' A2 xl c2 X ∧ Ext W W')
    (hT : ∀ W A' n' c' l, BRowsAt W A' n' c' l → bytesR l = ps → Calls Tryz.prog 21 #[.slice A' n' c', fieldV F] W fun e W' => e = .returned (.int .i64 (N : Nat)) ∧ Ext W W') :
    Calls Tryz.prog 4 #[.slice A n c, .int .i64 root, .slice B m k, .int .i64 d, .string p, .int .i64 i] w fun e w' => e = .returned (.bool true) ∧ Ext w w' := by
  have Ha := Lib.hid ha
  have HG := Lib.hid hG
  have HC := Lib.hid hC
  have HI := Lib.hid hI
  have HR := Lib.hid hR
  have HP := Lib.hid hP
  have HL := Lib.hid hL
  have HT := Lib.hid hT
  clear ha hG hC hI hR hP hL hT
  have hc := Reads.cap hb
  obtain ⟨fname, fnum, fkind, frep, fpk, fof⟩ := F
  unfold PiecesPost fieldV at *
  simp only at *
  go_enter Tryz.func4, Tryz.ntmps4
  go_upto_region 3 with (go_at_call 6; refine (Ha.out _).mono ?_; rintro x w1 ⟨rfl, E1⟩)
  go_cut [43] (fun t wz => ∃ b, t = .bool b ∧ Ext w1 wz)
  case first =>
    have hs1 := hs.up E1
    go_wp2_with (go_at_call 7; refine (few07 hs1).mono ?_; rintro y w2 ⟨x, rfl, E2⟩; clear hs1)
    all_goals
      go_meet
      exact ⟨_, rfl, E2⟩
  case rest =>
    obtain ⟨b, rfl, Xc⟩ := hcut
    have X1 := E1.trans Xc
    rcases b with _ | _
    case true =>
      go_wp2
      go_ret
      exact ⟨rfl, X1⟩
    case false =>
      have hsc := hs.up X1
      have hbc := hb.up X1
      go_upto_region 12 with (first
        | (go_at_call 16; refine (HG.out _ hsc hbc).mono ?_; rintro y w3 ⟨A3, c3, rfl, hx3, E3⟩; replace hsc := hsc.up E3; replace hbc := hbc.up E3; have X3 := X1.trans E3)
        | (go_at_call 17; refine (HC.out _ hsc hbc).mono ?_; rintro y w4 ⟨rfl, E4⟩; replace hsc := hsc.up E4; replace hbc := hbc.up E4; replace hx3 := hx3.up E4; have X4 := X3.trans E4)
        | (go_at_call 18; refine (HI.out _ hsc hbc).mono ?_; rintro y w5 ⟨A5, c5, rfl, hy5, E5⟩; replace hsc := hsc.up E5; replace hbc := hbc.up E5; replace hx3 := hx3.up E5; have X5 := X4.trans E5)
        | (go_at_call 10; refine (HR.out _ hsc hbc).mono ?_; rintro y w6 ⟨A6, c6, rfl, hw6, E6⟩; replace hsc := hsc.up E6; replace hbc := hbc.up E6; replace hx3 := hx3.up E6; replace hy5 := hy5.up E6; have X6 := X5.trans E6)
        | (go_at_call 19; refine (HP.out _ _ _ hsc hbc hw6).mono ?_; rintro y w7 ⟨l7, A7, n7, c7, rfl, hB7, hps7, E7, _⟩; replace hsc := hsc.up E7; replace hbc := hbc.up E7; replace hx3 := hx3.up E7; replace hy5 := hy5.up E7; have X7 := X6.trans E7))
      have BF := BlkT.new w7 43 #[.string fname, .int .i64 fnum, .int .i64 fkind, .bool frep, .bool fpk, .int .i64 fof] rfl
      have X8 : Ext w7 (w7.alloc (.cells #[.string fname, .int .i64 fnum, .int .i64 fkind, .bool frep, .bool fpk, .int .i64 fof] 43)) := (Ext.refl w7).alloc _
      clear X1 X3 X4 X5 X6 Xc E1 E3 E4 E5 E6 hw6 hsc hbc HG HC HI HR HP Ha
      generalize w7.alloc (.cells #[.string fname, .int .i64 fnum, .int .i64 fkind, .bool frep, .bool fpk, .int .i64 fof] 43) = wx at *
      have hB8 := hB7.up X8
      have hx8 := hx3.up X8
      have hy8 := hy5.up X8
      replace X8 := X7.trans X8
      clear hB7 hx3 hy5 X7
      have c0z : wx.cell? ⟨w7.heap.size, 0, none⟩ = some (.string fname) := BF.cell 0
      have c1z : wx.cell? ⟨w7.heap.size, 1, none⟩ = some (.int .i64 fnum) := BF.cell 1
      have c2z : wx.cell? ⟨w7.heap.size, 2, none⟩ = some (.int .i64 fkind) := BF.cell 2
      have c3z : wx.cell? ⟨w7.heap.size, 3, none⟩ = some (.bool frep) := BF.cell 3
      have c4z : wx.cell? ⟨w7.heap.size, 4, none⟩ = some (.bool fpk) := BF.cell 4
      have c5z : wx.cell? ⟨w7.heap.size, 5, none⟩ = some (.int .i64 fof) := BF.cell 5
      have cl := BF.lt
      clear BF
      by_cases hneg : i < 0
      · have hio : i < 0 := hneg
        go_wp2_with (first
          | (go_at_call 20; refine (HL.out _ _ _ _ _ hB8 hps7).mono ?_; rintro y w9 ⟨A9, c9, rfl, hl9, E9⟩; replace c0z := E9.of_cell c0z; replace c1z := E9.of_cell c1z; replace c2z := E9.of_cell c2z; replace c3z := E9.of_cell c3z; replace c4z := E9.of_cell c4z; replace c5z := E9.of_cell c5z; replace cl := Nat.lt_of_lt_of_le cl E9.size; replace hB8 := hB8.up E9; replace hx8 := hx8.up E9; replace hy8 := hy8.up E9; have X9 := X8.trans E9)
          | (go_at_call 21; refine (HT.out _ _ _ _ _ hB8 hps7).mono ?_; rintro y w10 ⟨rfl, E10⟩; replace c0z := E10.of_cell c0z; replace c1z := E10.of_cell c1z; replace c2z := E10.of_cell c2z; replace c3z := E10.of_cell c3z; replace c4z := E10.of_cell c4z; replace c5z := E10.of_cell c5z; replace cl := Nat.lt_of_lt_of_le cl E10.size; replace hB8 := hB8.up E10; replace hx8 := hx8.up E10; replace hy8 := hy8.up E10; replace hl9 := hl9.up E10; have X10 := X9.trans E10)
          | (go_at_call 22; refine (same hx8 hl9).mono ?_; rintro y w11 ⟨rfl, rfl⟩))
        go_ret
        exact ⟨rfl, X10⟩
      · have hio : (N : Int) ≤ i := hi.resolve_left hneg
        go_wp2_with (first
          | (go_at_call 20; refine (HL.out _ _ _ _ _ hB8 hps7).mono ?_; rintro y w9 ⟨A9, c9, rfl, hl9, E9⟩; replace c0z := E9.of_cell c0z; replace c1z := E9.of_cell c1z; replace c2z := E9.of_cell c2z; replace c3z := E9.of_cell c3z; replace c4z := E9.of_cell c4z; replace c5z := E9.of_cell c5z; replace cl := Nat.lt_of_lt_of_le cl E9.size; replace hB8 := hB8.up E9; replace hx8 := hx8.up E9; replace hy8 := hy8.up E9; have X9 := X8.trans E9)
          | (go_at_call 21; refine (HT.out _ _ _ _ _ hB8 hps7).mono ?_; rintro y w10 ⟨rfl, E10⟩; replace c0z := E10.of_cell c0z; replace c1z := E10.of_cell c1z; replace c2z := E10.of_cell c2z; replace c3z := E10.of_cell c3z; replace c4z := E10.of_cell c4z; replace c5z := E10.of_cell c5z; replace cl := Nat.lt_of_lt_of_le cl E10.size; replace hB8 := hB8.up E10; replace hx8 := hx8.up E10; replace hy8 := hy8.up E10; replace hl9 := hl9.up E10; have X10 := X9.trans E10)
          | (go_at_call 22; refine (same hx8 hl9).mono ?_; rintro y w11 ⟨rfl, rfl⟩))
        go_ret
        exact ⟨rfl, X10⟩

set_option maxRecDepth 100000 in
set_option maxHeartbeats 2000000 in
theorem gets_one (ha : ∀ w : World, Calls Tryz.prog 6 #[] w fun e w' => e = .returned (.bool true) ∧ Ext w w') (hs : SchemaAt w A n c S) (hb : BytesAt w B m k bs) (hm : m ≤ 1500) (hp : p.size ≤ 5000) {X Y : List UInt8} {xl yl : Nat} {N wl : Nat} {way : List Int} {F : FieldD} {ps : List (List UInt8)} {q : Nat} (hi : i = (q : Nat)) (hq : q < N) (hN : N ≤ 1000000000) (hn : numberB F.kind = false) (hr : F.rep = false) (hY : Y = X)
    (hG : ∀ W, SchemaAt W A n c S → BytesAt W B m k bs → Calls Tryz.prog 16 #[.slice A n c, .int .i64 root, .slice B m k, .int .i64 d, .string p] W fun e W' => ∃ A' c', e = .returned (.tuple #[.slice A' xl c', .int .u8 0]) ∧ BytesAt W' A' xl c' X ∧ Ext W W')
    (hC : ∀ W, SchemaAt W A n c S → BytesAt W B m k bs → Calls Tryz.prog 17 #[.slice A n c, .int .i64 root, .slice B m k, .int .i64 d, .string p] W fun e W' => e = .returned (.tuple #[.int .i64 (N : Nat), .int .u8 0]) ∧ Ext W W')
    (hI : ∀ W, SchemaAt W A n c S → BytesAt W B m k bs → Calls Tryz.prog 18 #[.slice A n c, .int .i64 root, .slice B m k, .int .i64 d, .string p, .int .i64 i] W fun e W' => ∃ A' c', e = .returned (.tuple #[.slice A' yl c', .int .u8 0]) ∧ BytesAt W' A' yl c' Y ∧ Ext W W')
    (hR : ∀ W, SchemaAt W A n c S → BytesAt W B m k bs → Calls Tryz.prog 10 #[.slice A n c, .int .i64 root, .slice B m k, .int .i64 d, .string p] W fun e W' => ∃ A' c', e = .returned (.tuple #[.slice A' wl c', .int .i64 0]) ∧ Reads W' A' wl c' 1 (way.map wyV) ∧ Ext W W')
    (hP : ∀ W A' c', SchemaAt W A n c S → BytesAt W B m k bs → Reads W A' wl c' 1 (way.map wyV) → Calls Tryz.prog 19 #[.slice A n c, .int .i64 root, .slice B m k, .slice A' wl c'] W (PiecesPost F ps W))
    (hL : ∀ W A' n' c' l, BRowsAt W A' n' c' l → bytesR l = ps → Calls Tryz.prog 20 #[.slice A' n' c', fieldV F] W fun e W' => ∃ A2 c2, e = .returned (.tuple #[.slice A2 xl c2, .bool true]) ∧ BytesAt W' A2 xl c2 X ∧ Ext W W')
    (hT : ∀ W A' n' c' l, BRowsAt W A' n' c' l → bytesR l = ps → Calls Tryz.prog 21 #[.slice A' n' c', fieldV F] W fun e W' => e = .returned (.int .i64 (N : Nat)) ∧ Ext W W') :
    Calls Tryz.prog 4 #[.slice A n c, .int .i64 root, .slice B m k, .int .i64 d, .string p, .int .i64 i] w fun e w' => e = .returned (.bool true) ∧ Ext w w' := by
  have Ha := Lib.hid ha
  have HG := Lib.hid hG
  have HC := Lib.hid hC
  have HI := Lib.hid hI
  have HR := Lib.hid hR
  have HP := Lib.hid hP
  have HL := Lib.hid hL
  have HT := Lib.hid hT
  subst hi
  have hq1 : (q : Int) < N := by omega
  have hq0 : ¬ (q : Int) < 0 := by omega
  have hkn := fun W : World => kNumberR F.kind W
  rw [hn] at hkn
  have Hkn := Lib.hid hkn
  clear hkn hn
  clear ha hG hC hI hR hP hL hT
  have hc := Reads.cap hb
  obtain ⟨fname, fnum, fkind, frep, fpk, fof⟩ := F
  unfold PiecesPost fieldV at *
  simp only at *
  go_enter Tryz.func4, Tryz.ntmps4
  go_upto_region 3 with (go_at_call 6; refine (Ha.out _).mono ?_; rintro x w1 ⟨rfl, E1⟩)
  go_cut [43] (fun t wz => ∃ b, t = .bool b ∧ Ext w1 wz)
  case first =>
    have hs1 := hs.up E1
    go_wp2_with (go_at_call 7; refine (few07 hs1).mono ?_; rintro y w2 ⟨x, rfl, E2⟩; clear hs1)
    all_goals
      go_meet
      exact ⟨_, rfl, E2⟩
  case rest =>
    obtain ⟨b, rfl, Xc⟩ := hcut
    have X1 := E1.trans Xc
    rcases b with _ | _
    case true =>
      go_wp2
      go_ret
      exact ⟨rfl, X1⟩
    case false =>
      have hsc := hs.up X1
      have hbc := hb.up X1
      go_upto_region 12 with (first
        | (go_at_call 16; refine (HG.out _ hsc hbc).mono ?_; rintro y w3 ⟨A3, c3, rfl, hx3, E3⟩; replace hsc := hsc.up E3; replace hbc := hbc.up E3; have X3 := X1.trans E3)
        | (go_at_call 17; refine (HC.out _ hsc hbc).mono ?_; rintro y w4 ⟨rfl, E4⟩; replace hsc := hsc.up E4; replace hbc := hbc.up E4; replace hx3 := hx3.up E4; have X4 := X3.trans E4)
        | (go_at_call 18; refine (HI.out _ hsc hbc).mono ?_; rintro y w5 ⟨A5, c5, rfl, hy5, E5⟩; replace hsc := hsc.up E5; replace hbc := hbc.up E5; replace hx3 := hx3.up E5; have X5 := X4.trans E5)
        | (go_at_call 10; refine (HR.out _ hsc hbc).mono ?_; rintro y w6 ⟨A6, c6, rfl, hw6, E6⟩; replace hsc := hsc.up E6; replace hbc := hbc.up E6; replace hx3 := hx3.up E6; replace hy5 := hy5.up E6; have X6 := X5.trans E6)
        | (go_at_call 19; refine (HP.out _ _ _ hsc hbc hw6).mono ?_; rintro y w7 ⟨l7, A7, n7, c7, rfl, hB7, hps7, E7, _⟩; replace hsc := hsc.up E7; replace hbc := hbc.up E7; replace hx3 := hx3.up E7; replace hy5 := hy5.up E7; have X7 := X6.trans E7))
      subst hr
      have BF := BlkT.new w7 43 #[.string fname, .int .i64 fnum, .int .i64 fkind, .bool false, .bool fpk, .int .i64 fof] rfl
      have X8 : Ext w7 (w7.alloc (.cells #[.string fname, .int .i64 fnum, .int .i64 fkind, .bool false, .bool fpk, .int .i64 fof] 43)) := (Ext.refl w7).alloc _
      clear X1 X3 X4 X5 X6 Xc E1 E3 E4 E5 E6 hw6 hsc hbc HG HC HI HR HP Ha
      generalize w7.alloc (.cells #[.string fname, .int .i64 fnum, .int .i64 fkind, .bool false, .bool fpk, .int .i64 fof] 43) = wx at *
      have hB8 := hB7.up X8
      have hx8 := hx3.up X8
      have hy8 := hy5.up X8
      replace X8 := X7.trans X8
      clear hB7 hx3 hy5 X7
      have c0z : wx.cell? ⟨w7.heap.size, 0, none⟩ = some (.string fname) := BF.cell 0
      have c1z : wx.cell? ⟨w7.heap.size, 1, none⟩ = some (.int .i64 fnum) := BF.cell 1
      have c2z : wx.cell? ⟨w7.heap.size, 2, none⟩ = some (.int .i64 fkind) := BF.cell 2
      have c3z : wx.cell? ⟨w7.heap.size, 3, none⟩ = some (.bool false) := BF.cell 3
      have c4z : wx.cell? ⟨w7.heap.size, 4, none⟩ = some (.bool fpk) := BF.cell 4
      have c5z : wx.cell? ⟨w7.heap.size, 5, none⟩ = some (.int .i64 fof) := BF.cell 5
      have cl := BF.lt
      clear BF
      go_wp2_with (first
        | (go_at_call 20; refine (HL.out _ _ _ _ _ hB8 hps7).mono ?_; rintro y w9 ⟨A9, c9, rfl, hl9, E9⟩; replace c0z := E9.of_cell c0z; replace c1z := E9.of_cell c1z; replace c2z := E9.of_cell c2z; replace c3z := E9.of_cell c3z; replace c4z := E9.of_cell c4z; replace c5z := E9.of_cell c5z; replace cl := Nat.lt_of_lt_of_le cl E9.size; replace hB8 := hB8.up E9; replace hx8 := hx8.up E9; replace hy8 := hy8.up E9; have X9 := X8.trans E9)
        | (go_at_call 21; refine (HT.out _ _ _ _ _ hB8 hps7).mono ?_; rintro y w10 ⟨rfl, E10⟩; replace c0z := E10.of_cell c0z; replace c1z := E10.of_cell c1z; replace c2z := E10.of_cell c2z; replace c3z := E10.of_cell c3z; replace c4z := E10.of_cell c4z; replace c5z := E10.of_cell c5z; replace cl := Nat.lt_of_lt_of_le cl E10.size; replace hB8 := hB8.up E10; replace hx8 := hx8.up E10; replace hy8 := hy8.up E10; replace hl9 := hl9.up E10; have X10 := X9.trans E10)
        | (go_at_call 22; refine (same hx8 hl9).mono ?_; rintro y w11 ⟨rfl, rfl⟩)
        | (go_at_call 14; refine (Hkn.out _).mono ?_; rintro y w12 ⟨rfl, rfl⟩)
        | (go_at_call 22; refine (same hy8 hl9).mono ?_; rintro y w13 ⟨rfl, rfl⟩))
      go_ret
      exact ⟨rfl, X10⟩

set_option maxRecDepth 100000 in
set_option maxHeartbeats 2000000 in
theorem gets_rep (ha : ∀ w : World, Calls Tryz.prog 6 #[] w fun e w' => e = .returned (.bool true) ∧ Ext w w') (hs : SchemaAt w A n c S) (hb : BytesAt w B m k bs) (hm : m ≤ 1500) (hp : p.size ≤ 5000) {X Y : List UInt8} {xl yl : Nat} {N wl : Nat} {way : List Int} {F : FieldD} {ps : List (List UInt8)} {q : Nat} (hi : i = (q : Nat)) (hq : q < N) (hN : N ≤ 1000000000) (hn : numberB F.kind = false) (hr : F.rep = true) (hY : ps[q]? = some Y)
    (hG : ∀ W, SchemaAt W A n c S → BytesAt W B m k bs → Calls Tryz.prog 16 #[.slice A n c, .int .i64 root, .slice B m k, .int .i64 d, .string p] W fun e W' => ∃ A' c', e = .returned (.tuple #[.slice A' xl c', .int .u8 0]) ∧ BytesAt W' A' xl c' X ∧ Ext W W')
    (hC : ∀ W, SchemaAt W A n c S → BytesAt W B m k bs → Calls Tryz.prog 17 #[.slice A n c, .int .i64 root, .slice B m k, .int .i64 d, .string p] W fun e W' => e = .returned (.tuple #[.int .i64 (N : Nat), .int .u8 0]) ∧ Ext W W')
    (hI : ∀ W, SchemaAt W A n c S → BytesAt W B m k bs → Calls Tryz.prog 18 #[.slice A n c, .int .i64 root, .slice B m k, .int .i64 d, .string p, .int .i64 i] W fun e W' => ∃ A' c', e = .returned (.tuple #[.slice A' yl c', .int .u8 0]) ∧ BytesAt W' A' yl c' Y ∧ Ext W W')
    (hR : ∀ W, SchemaAt W A n c S → BytesAt W B m k bs → Calls Tryz.prog 10 #[.slice A n c, .int .i64 root, .slice B m k, .int .i64 d, .string p] W fun e W' => ∃ A' c', e = .returned (.tuple #[.slice A' wl c', .int .i64 0]) ∧ Reads W' A' wl c' 1 (way.map wyV) ∧ Ext W W')
    (hP : ∀ W A' c', SchemaAt W A n c S → BytesAt W B m k bs → Reads W A' wl c' 1 (way.map wyV) → Calls Tryz.prog 19 #[.slice A n c, .int .i64 root, .slice B m k, .slice A' wl c'] W (PiecesPost F ps W))
    (hL : ∀ W A' n' c' l, BRowsAt W A' n' c' l → bytesR l = ps → Calls Tryz.prog 20 #[.slice A' n' c', fieldV F] W fun e W' => ∃ A2 c2, e = .returned (.tuple #[.slice A2 xl c2, .bool true]) ∧ BytesAt W' A2 xl c2 X ∧ Ext W W')
    (hT : ∀ W A' n' c' l, BRowsAt W A' n' c' l → bytesR l = ps → Calls Tryz.prog 21 #[.slice A' n' c', fieldV F] W fun e W' => e = .returned (.int .i64 (N : Nat)) ∧ Ext W W') :
    Calls Tryz.prog 4 #[.slice A n c, .int .i64 root, .slice B m k, .int .i64 d, .string p, .int .i64 i] w fun e w' => e = .returned (.bool true) ∧ Ext w w' := by
  have Ha := Lib.hid ha
  have HG := Lib.hid hG
  have HC := Lib.hid hC
  have HI := Lib.hid hI
  have HR := Lib.hid hR
  have HP := Lib.hid hP
  have HL := Lib.hid hL
  have HT := Lib.hid hT
  subst hi
  have hq1 : (q : Int) < N := by omega
  have hq0 : ¬ (q : Int) < 0 := by omega
  have hkn := fun W : World => kNumberR F.kind W
  rw [hn] at hkn
  have Hkn := Lib.hid hkn
  have HY := Lib.hid hY
  clear hkn hn hY
  clear ha hG hC hI hR hP hL hT
  have hc := Reads.cap hb
  obtain ⟨fname, fnum, fkind, frep, fpk, fof⟩ := F
  unfold PiecesPost fieldV at *
  simp only at *
  go_enter Tryz.func4, Tryz.ntmps4
  go_upto_region 3 with (go_at_call 6; refine (Ha.out _).mono ?_; rintro x w1 ⟨rfl, E1⟩)
  go_cut [43] (fun t wz => ∃ b, t = .bool b ∧ Ext w1 wz)
  case first =>
    have hs1 := hs.up E1
    go_wp2_with (go_at_call 7; refine (few07 hs1).mono ?_; rintro y w2 ⟨x, rfl, E2⟩; clear hs1)
    all_goals
      go_meet
      exact ⟨_, rfl, E2⟩
  case rest =>
    obtain ⟨b, rfl, Xc⟩ := hcut
    have X1 := E1.trans Xc
    rcases b with _ | _
    case true =>
      go_wp2
      go_ret
      exact ⟨rfl, X1⟩
    case false =>
      have hsc := hs.up X1
      have hbc := hb.up X1
      go_upto_region 12 with (first
        | (go_at_call 16; refine (HG.out _ hsc hbc).mono ?_; rintro y w3 ⟨A3, c3, rfl, hx3, E3⟩; replace hsc := hsc.up E3; replace hbc := hbc.up E3; have X3 := X1.trans E3)
        | (go_at_call 17; refine (HC.out _ hsc hbc).mono ?_; rintro y w4 ⟨rfl, E4⟩; replace hsc := hsc.up E4; replace hbc := hbc.up E4; replace hx3 := hx3.up E4; have X4 := X3.trans E4)
        | (go_at_call 18; refine (HI.out _ hsc hbc).mono ?_; rintro y w5 ⟨A5, c5, rfl, hy5, E5⟩; replace hsc := hsc.up E5; replace hbc := hbc.up E5; replace hx3 := hx3.up E5; have X5 := X4.trans E5)
        | (go_at_call 10; refine (HR.out _ hsc hbc).mono ?_; rintro y w6 ⟨A6, c6, rfl, hw6, E6⟩; replace hsc := hsc.up E6; replace hbc := hbc.up E6; replace hx3 := hx3.up E6; replace hy5 := hy5.up E6; have X6 := X5.trans E6)
        | (go_at_call 19; refine (HP.out _ _ _ hsc hbc hw6).mono ?_; rintro y w7 ⟨l7, A7, n7, c7, rfl, hB7, hps7, E7, _⟩; replace hsc := hsc.up E7; replace hbc := hbc.up E7; replace hx3 := hx3.up E7; replace hy5 := hy5.up E7; have X7 := X6.trans E7))
      subst hr
      have BF := BlkT.new w7 43 #[.string fname, .int .i64 fnum, .int .i64 fkind, .bool true, .bool fpk, .int .i64 fof] rfl
      have X8 : Ext w7 (w7.alloc (.cells #[.string fname, .int .i64 fnum, .int .i64 fkind, .bool true, .bool fpk, .int .i64 fof] 43)) := (Ext.refl w7).alloc _
      clear X1 X3 X4 X5 X6 Xc E1 E3 E4 E5 E6 hw6 hsc hbc HG HC HI HR HP Ha
      generalize w7.alloc (.cells #[.string fname, .int .i64 fnum, .int .i64 fkind, .bool true, .bool fpk, .int .i64 fof] 43) = wx at *
      have hB8 := hB7.up X8
      have hx8 := hx3.up X8
      have hy8 := hy5.up X8
      replace X8 := X7.trans X8
      clear hB7 hx3 hy5 X7
      have c0z : wx.cell? ⟨w7.heap.size, 0, none⟩ = some (.string fname) := BF.cell 0
      have c1z : wx.cell? ⟨w7.heap.size, 1, none⟩ = some (.int .i64 fnum) := BF.cell 1
      have c2z : wx.cell? ⟨w7.heap.size, 2, none⟩ = some (.int .i64 fkind) := BF.cell 2
      have c3z : wx.cell? ⟨w7.heap.size, 3, none⟩ = some (.bool true) := BF.cell 3
      have c4z : wx.cell? ⟨w7.heap.size, 4, none⟩ = some (.bool fpk) := BF.cell 4
      have c5z : wx.cell? ⟨w7.heap.size, 5, none⟩ = some (.int .i64 fof) := BF.cell 5
      have cl := BF.lt
      clear BF
      have hln : l7.length = n7 := hB8.length
      have hqn : q < n7 := by
        rcases Nat.lt_or_ge q n7 with h | h
        · exact h
        · have h2 := HY.out
          rw [← hps7] at h2
          unfold bytesR at h2
          rw [List.getElem?_map, List.getElem?_eq_none (by omega)] at h2
          cases h2
      have hqn2 : (q : Int) < n7 := by omega
      go_upto_region 23 with (first
        | (go_at_call 20; refine (HL.out _ _ _ _ _ hB8 hps7).mono ?_; rintro y w9 ⟨A9, c9, rfl, hl9, E9⟩; replace c0z := E9.of_cell c0z; replace c1z := E9.of_cell c1z; replace c2z := E9.of_cell c2z; replace c3z := E9.of_cell c3z; replace c4z := E9.of_cell c4z; replace c5z := E9.of_cell c5z; replace cl := Nat.lt_of_lt_of_le cl E9.size; replace hB8 := hB8.up E9; replace hx8 := hx8.up E9; replace hy8 := hy8.up E9; have X9 := X8.trans E9)
        | (go_at_call 21; refine (HT.out _ _ _ _ _ hB8 hps7).mono ?_; rintro y w10 ⟨rfl, E10⟩; replace c0z := E10.of_cell c0z; replace c1z := E10.of_cell c1z; replace c2z := E10.of_cell c2z; replace c3z := E10.of_cell c3z; replace c4z := E10.of_cell c4z; replace c5z := E10.of_cell c5z; replace cl := Nat.lt_of_lt_of_le cl E10.size; replace hB8 := hB8.up E10; replace hx8 := hx8.up E10; replace hy8 := hy8.up E10; replace hl9 := hl9.up E10; have X10 := X9.trans E10)
        | (go_at_call 22; refine (same hx8 hl9).mono ?_; rintro y w11 ⟨rfl, rfl⟩)
        | (go_at_call 14; refine (Hkn.out _).mono ?_; rintro y w12 ⟨rfl, rfl⟩))
      obtain ⟨b, off, r, rfl, hlr, hrb, hrby, hcell⟩ := hB8.row hqn
      have hrY : r.bs = Y := by
        have h2 := HY.out
        rw [← hps7] at h2
        unfold bytesR at h2
        rw [List.getElem?_map, hlr] at h2
        simpa using h2
      obtain ⟨rA, rn, rc, rbs⟩ := r
      simp only at hrby hcell hrY
      subst hrY
      go_wp2_with (first
        | (go_at_call 22; refine (same hy8 hrby).mono ?_; rintro y w13 ⟨rfl, rfl⟩))
      go_ret
      exact ⟨by simp, X10⟩

set_option maxRecDepth 100000 in
set_option maxHeartbeats 2000000 in
theorem gets_num (ha : ∀ w : World, Calls Tryz.prog 6 #[] w fun e w' => e = .returned (.bool true) ∧ Ext w w') (hs : SchemaAt w A n c S) (hb : BytesAt w B m k bs) (hm : m ≤ 1500) (hp : p.size ≤ 5000) {X Y : List UInt8} {xl yl : Nat} {N wl : Nat} {way : List Int} {F : FieldD} {ps : List (List UInt8)} {q : Nat} (hi : i = (q : Nat)) (hq : q < N) (hN : N ≤ 1000000000) {v : Nat} (hn : numberB F.kind = true) (hxl : xl ≤ 1000000000) (hw : (wordsV F.kind X).1[q]? = some v) (hv : v < 18446744073709551616) (hY : Y = putS F.kind v)
    (hG : ∀ W, SchemaAt W A n c S → BytesAt W B m k bs → Calls Tryz.prog 16 #[.slice A n c, .int .i64 root, .slice B m k, .int .i64 d, .string p] W fun e W' => ∃ A' c', e = .returned (.tuple #[.slice A' xl c', .int .u8 0]) ∧ BytesAt W' A' xl c' X ∧ Ext W W')
    (hC : ∀ W, SchemaAt W A n c S → BytesAt W B m k bs → Calls Tryz.prog 17 #[.slice A n c, .int .i64 root, .slice B m k, .int .i64 d, .string p] W fun e W' => e = .returned (.tuple #[.int .i64 (N : Nat), .int .u8 0]) ∧ Ext W W')
    (hI : ∀ W, SchemaAt W A n c S → BytesAt W B m k bs → Calls Tryz.prog 18 #[.slice A n c, .int .i64 root, .slice B m k, .int .i64 d, .string p, .int .i64 i] W fun e W' => ∃ A' c', e = .returned (.tuple #[.slice A' yl c', .int .u8 0]) ∧ BytesAt W' A' yl c' Y ∧ Ext W W')
    (hR : ∀ W, SchemaAt W A n c S → BytesAt W B m k bs → Calls Tryz.prog 10 #[.slice A n c, .int .i64 root, .slice B m k, .int .i64 d, .string p] W fun e W' => ∃ A' c', e = .returned (.tuple #[.slice A' wl c', .int .i64 0]) ∧ Reads W' A' wl c' 1 (way.map wyV) ∧ Ext W W')
    (hP : ∀ W A' c', SchemaAt W A n c S → BytesAt W B m k bs → Reads W A' wl c' 1 (way.map wyV) → Calls Tryz.prog 19 #[.slice A n c, .int .i64 root, .slice B m k, .slice A' wl c'] W (PiecesPost F ps W))
    (hL : ∀ W A' n' c' l, BRowsAt W A' n' c' l → bytesR l = ps → Calls Tryz.prog 20 #[.slice A' n' c', fieldV F] W fun e W' => ∃ A2 c2, e = .returned (.tuple #[.slice A2 xl c2, .bool true]) ∧ BytesAt W' A2 xl c2 X ∧ Ext W W')
    (hT : ∀ W A' n' c' l, BRowsAt W A' n' c' l → bytesR l = ps → Calls Tryz.prog 21 #[.slice A' n' c', fieldV F] W fun e W' => e = .returned (.int .i64 (N : Nat)) ∧ Ext W W') :
    Calls Tryz.prog 4 #[.slice A n c, .int .i64 root, .slice B m k, .int .i64 d, .string p, .int .i64 i] w fun e w' => e = .returned (.bool true) ∧ Ext w w' := by
  have Ha := Lib.hid ha
  have HG := Lib.hid hG
  have HC := Lib.hid hC
  have HI := Lib.hid hI
  have HR := Lib.hid hR
  have HP := Lib.hid hP
  have HL := Lib.hid hL
  have HT := Lib.hid hT
  subst hi
  have hq1 : (q : Int) < N := by omega
  have hq0 : ¬ (q : Int) < 0 := by omega
  have hkn := fun W : World => kNumberR F.kind W
  rw [hn] at hkn
  have hwd := fun (W : World) (A' : Option Addr) (c' : Nat) (h : BytesAt W A' xl c' X) => uWordsR (k := F.kind) h hxl
  have hpt := fun W : World => sPutR (k := F.kind) (w := W) hv
  have hwl : q < (wordsV F.kind X).1.length := (List.getElem?_eq_some_iff.1 hw).1
  have Hkn := Lib.hid hkn
  have Hwd := Lib.hid hwd
  have Hw := Lib.hid hw
  rw [← hY] at hpt
  obtain ⟨WL, hWL⟩ : ∃ WL, WL = (wordsV F.kind X).1.length := ⟨_, rfl⟩
  obtain ⟨yL, hyL⟩ : ∃ yL, yL = Y.length := ⟨_, rfl⟩
  rw [← hyL] at hpt
  have Hpt := Lib.hid hpt
  have HyL := Lib.hid hyL
  clear hkn hn hwd hw hpt hY hyL hv
  clear ha hG hC hI hR hP hL hT
  have hc := Reads.cap hb
  obtain ⟨fname, fnum, fkind, frep, fpk, fof⟩ := F
  unfold PiecesPost fieldV at *
  simp only at *
  go_enter Tryz.func4, Tryz.ntmps4
  go_upto_region 3 with (go_at_call 6; refine (Ha.out _).mono ?_; rintro x w1 ⟨rfl, E1⟩)
  go_cut [43] (fun t wz => ∃ b, t = .bool b ∧ Ext w1 wz)
  case first =>
    have hs1 := hs.up E1
    go_wp2_with (go_at_call 7; refine (few07 hs1).mono ?_; rintro y w2 ⟨x, rfl, E2⟩; clear hs1)
    all_goals
      go_meet
      exact ⟨_, rfl, E2⟩
  case rest =>
    obtain ⟨b, rfl, Xc⟩ := hcut
    have X1 := E1.trans Xc
    rcases b with _ | _
    case true =>
      go_wp2
      go_ret
      exact ⟨rfl, X1⟩
    case false =>
      have hsc := hs.up X1
      have hbc := hb.up X1
      go_upto_region 12 with (first
        | (go_at_call 16; refine (HG.out _ hsc hbc).mono ?_; rintro y w3 ⟨A3, c3, rfl, hx3, E3⟩; replace hsc := hsc.up E3; replace hbc := hbc.up E3; have X3 := X1.trans E3)
        | (go_at_call 17; refine (HC.out _ hsc hbc).mono ?_; rintro y w4 ⟨rfl, E4⟩; replace hsc := hsc.up E4; replace hbc := hbc.up E4; replace hx3 := hx3.up E4; have X4 := X3.trans E4)
        | (go_at_call 18; refine (HI.out _ hsc hbc).mono ?_; rintro y w5 ⟨A5, c5, rfl, hy5, E5⟩; replace hsc := hsc.up E5; replace hbc := hbc.up E5; replace hx3 := hx3.up E5; have X5 := X4.trans E5)
        | (go_at_call 10; refine (HR.out _ hsc hbc).mono ?_; rintro y w6 ⟨A6, c6, rfl, hw6, E6⟩; replace hsc := hsc.up E6; replace hbc := hbc.up E6; replace hx3 := hx3.up E6; replace hy5 := hy5.up E6; have X6 := X5.trans E6)
        | (go_at_call 19; refine (HP.out _ _ _ hsc hbc hw6).mono ?_; rintro y w7 ⟨l7, A7, n7, c7, rfl, hB7, hps7, E7, _⟩; replace hsc := hsc.up E7; replace hbc := hbc.up E7; replace hx3 := hx3.up E7; replace hy5 := hy5.up E7; have X7 := X6.trans E7))
      rw [← hWL] at Hwd hwl
      clear hWL
      generalize (wordsV fkind X).2 = WC at *
      generalize (wordsV fkind X).1 = ws at *
      have BF := BlkT.new w7 43 #[.string fname, .int .i64 fnum, .int .i64 fkind, .bool frep, .bool fpk, .int .i64 fof] rfl
      have X8 : Ext w7 (w7.alloc (.cells #[.string fname, .int .i64 fnum, .int .i64 fkind, .bool frep, .bool fpk, .int .i64 fof] 43)) := (Ext.refl w7).alloc _
      clear X1 X3 X4 X5 X6 Xc E1 E3 E4 E5 E6 hw6 hsc hbc HG HC HI HR HP Ha
      generalize w7.alloc (.cells #[.string fname, .int .i64 fnum, .int .i64 fkind, .bool frep, .bool fpk, .int .i64 fof] 43) = wx at *
      have hB8 := hB7.up X8
      have hx8 := hx3.up X8
      have hy8 := hy5.up X8
      replace X8 := X7.trans X8
      clear hB7 hx3 hy5 X7
      have c0z : wx.cell? ⟨w7.heap.size, 0, none⟩ = some (.string fname) := BF.cell 0
      have c1z : wx.cell? ⟨w7.heap.size, 1, none⟩ = some (.int .i64 fnum) := BF.cell 1
      have c2z : wx.cell? ⟨w7.heap.size, 2, none⟩ = some (.int .i64 fkind) := BF.cell 2
      have c3z : wx.cell? ⟨w7.heap.size, 3, none⟩ = some (.bool frep) := BF.cell 3
      have c4z : wx.cell? ⟨w7.heap.size, 4, none⟩ = some (.bool fpk) := BF.cell 4
      have c5z : wx.cell? ⟨w7.heap.size, 5, none⟩ = some (.int .i64 fof) := BF.cell 5
      have cl := BF.lt
      clear BF
      go_upto_region 21 with (first
        | (go_at_call 20; refine (HL.out _ _ _ _ _ hB8 hps7).mono ?_; rintro y w9 ⟨A9, c9, rfl, hl9, E9⟩; replace c0z := E9.of_cell c0z; replace c1z := E9.of_cell c1z; replace c2z := E9.of_cell c2z; replace c3z := E9.of_cell c3z; replace c4z := E9.of_cell c4z; replace c5z := E9.of_cell c5z; replace cl := Nat.lt_of_lt_of_le cl E9.size; replace hB8 := hB8.up E9; replace hx8 := hx8.up E9; replace hy8 := hy8.up E9; have X9 := X8.trans E9)
        | (go_at_call 21; refine (HT.out _ _ _ _ _ hB8 hps7).mono ?_; rintro y w10 ⟨rfl, E10⟩; replace c0z := E10.of_cell c0z; replace c1z := E10.of_cell c1z; replace c2z := E10.of_cell c2z; replace c3z := E10.of_cell c3z; replace c4z := E10.of_cell c4z; replace c5z := E10.of_cell c5z; replace cl := Nat.lt_of_lt_of_le cl E10.size; replace hB8 := hB8.up E10; replace hx8 := hx8.up E10; replace hy8 := hy8.up E10; replace hl9 := hl9.up E10; have X10 := X9.trans E10)
        | (go_at_call 22; refine (same hx8 hl9).mono ?_; rintro y w11 ⟨rfl, rfl⟩)
        | (go_at_call 14; refine (Hkn.out _).mono ?_; rintro y w12 ⟨rfl, rfl⟩)
        | (go_at_call 23; refine (Hwd.out _ _ _ hl9).mono ?_; rintro y w14 ⟨A14, c14, rfl, own14⟩; have E14 := own14.ext; replace c0z := E14.of_cell c0z; replace c1z := E14.of_cell c1z; replace c2z := E14.of_cell c2z; replace c3z := E14.of_cell c3z; replace c4z := E14.of_cell c4z; replace c5z := E14.of_cell c5z; replace cl := Nat.lt_of_lt_of_le cl E14.size; replace hB8 := hB8.up E14; replace hx8 := hx8.up E14; replace hy8 := hy8.up E14; have X14 := X10.trans E14))
      obtain ⟨b4, o4, rfl, hb4, hat4⟩ := own14.reads.at_ (Nat.lt_of_le_of_lt (Nat.zero_le _) hwl)
      have c4 : w14.cell? ⟨b4, o4 + q, none⟩ = some (.int .u64 (v : Int)) := hat4 q (uv v) (by rw [List.getElem?_map, Hw.out]; rfl)
      have hwl2 : (q : Int) < WL := by omega
      clear hat4
      go_region_law (go_simp; go_at_call 24; refine (Hpt.out _).mono ?_; rintro y w15 ⟨A15, c15, rfl, own15⟩; have E15 : Ext w14 w15 := Ext.trans (by repeat with_reducible (first | exact Ext.refl _ | refine Ext.alloc ?_ _ | refine Ext.drew ?_ | refine Ext.drewN ?_ _ | refine Ext.setCell ?_ (by first | exact Nat.le_refl _ | omega | (simp; done) | (simp; omega)) _)) own15.ext; have hp15 := own15.bytes)
      all_goals
        go_simp
        go_wp2_with (go_at_call 22; refine (same (hy8.up E15) hp15).mono ?_; rintro y w16 ⟨rfl, rfl⟩)
        go_ret
        exact ⟨rfl, X14.trans E15⟩

end

end Go.Proofs.YtpicpebolghcfaaGreatDoor
