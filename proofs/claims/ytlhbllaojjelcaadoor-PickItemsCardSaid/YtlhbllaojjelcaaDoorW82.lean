/- Layer 22: the walk of PickItems out of its callees' contracts. -/
import Derived.Test.YtlhbllaojjelcaaDoorW17
import Derived.Test.YtlhbllaojjelcaaDoorW72
import Derived.Test.YtlhbllaojjelcaaDoorKSchemaChecks
import Derived.Test.YtlhbllaojjelcaaDoorW8
import Derived.BigQuiet
namespace Go.Proofs.YtlhbllaojjelcaaDoor
open Go.RowKit Go.Shelf
set_option linter.unusedVariables false
set_option linter.unusedSimpArgs false

section
variable {A B : Option Addr} {n c m k : Nat} {S : List MsgV} {root d : Int} {p : ByteArray} {bs : List UInt8} {w : World}

set_option maxRecDepth 100000 in
set_option maxHeartbeats 1000000 in
/-- A great document. -/
theorem items_great (ha : ∀ w : World, Calls Tryd.prog 4 #[] w fun e w' => e = .returned (.bool true) ∧ Ext w w') (hs : SchemaAt w A n c S) (hb : BytesAt w B m k bs) (hm : 1000 < m) (hp : p.size ≤ maxLen) :
    Calls Tryd.prog 3 #[.slice A n c, .int .i64 root, .slice B m k, .int .i64 d, .string p] w fun e w' => e = .returned (.bool true) ∧ Ext w w' := by
  have Ha := Lib.hid ha
  clear ha
  have hc := Reads.cap hb
  have hm2 : (1000 : Int) < m := by omega
  go_enter Tryd.func3, Tryd.ntmps3
  go_upto_region 3 with (go_at_call 4; refine (Ha.out _).mono ?_; rintro x w1 ⟨rfl, E1⟩)
  have hs1 := hs.up E1
  go_wp2_with (go_at_call 5; refine (few07 hs1).mono ?_; rintro y w2 ⟨x, rfl, E2⟩; clear hs1; rcases x with _ | _)
  all_goals
    go_ret
    exact ⟨rfl, E1.trans E2⟩

set_option maxRecDepth 100000 in
set_option maxHeartbeats 1000000 in
/-- A path that is no way. -/
theorem items_bad (ha : ∀ w : World, Calls Tryd.prog 4 #[] w fun e w' => e = .returned (.bool true) ∧ Ext w w') (hs : SchemaAt w A n c S) (hb : BytesAt w B m k bs) (hm : m ≤ 1000) (hp : p.size ≤ maxLen) {K : Nat} (h0 : K ≠ 0) (hK : K < 256)
    (hC : ∀ W, SchemaAt W A n c S → BytesAt W B m k bs → Calls Tryd.prog 6 #[.slice A n c, .int .i64 root, .slice B m k, .int .i64 d, .string p] W fun e W' => e = .returned (.tuple #[.int .i64 0, .int .u8 (K : Int)]) ∧ Ext W W') :
    Calls Tryd.prog 3 #[.slice A n c, .int .i64 root, .slice B m k, .int .i64 d, .string p] w fun e w' => e = .returned (.bool true) ∧ Ext w w' := by
  have Ha := Lib.hid ha
  have HC := Lib.hid hC
  have q : ((K : Int) != 0) = true := by rw [bne_iff_ne]; omega
  have q2 : ((K : Int) == 0) = false := by rw [beq_eq_false_iff_ne]; omega
  clear ha hC h0
  have hc := Reads.cap hb
  go_enter Tryd.func3, Tryd.ntmps3
  go_upto_region 3 with (go_at_call 4; refine (Ha.out _).mono ?_; rintro x w1 ⟨rfl, E1⟩)
  go_cut [40] (fun t wz => ∃ b, t = .bool b ∧ Ext w1 wz)
  case first =>
    have hs1 := hs.up E1
    go_wp2_with (go_at_call 5; refine (few07 hs1).mono ?_; rintro y w2 ⟨x, rfl, E2⟩; clear hs1)
    all_goals
      go_meet
      exact ⟨_, rfl, E2⟩
  case rest =>
    obtain ⟨b, rfl, Xc⟩ := hcut
    have X1 := E1.trans Xc
    rcases b with _ | _
    · have hsc := hs.up X1
      have hbc := hb.up X1
      go_wp2_with (go_at_call 6; refine (HC.out _ hsc hbc).mono ?_; rintro y w3 ⟨rfl, E3⟩; clear hsc)
      go_ret
      exact ⟨rfl, X1.trans E3⟩
    · go_wp2
      go_ret
      exact ⟨rfl, X1⟩

set_option maxRecDepth 100000 in
set_option maxHeartbeats 2000000 in
/-- A number's field, whose words are told. -/
theorem items_words (ha : ∀ w : World, Calls Tryd.prog 4 #[] w fun e w' => e = .returned (.bool true) ∧ Ext w w') (hs : SchemaAt w A n c S) (hb : BytesAt w B m k bs) (hm : m ≤ 1000) (hp : p.size ≤ maxLen) {ng TC : Nat} {ws : List Nat} {it : Nat → List UInt8} {K : Nat}
    (h0 : TC ≠ 0) (hT : TC < 256) (hn : ng ≤ 1000000000) (hl : ws.length = ng) (hK : 1 ≤ K ∧ K ≤ 14) (hi : ∀ i, i < ng → ∃ x, ws[i]? = some x ∧ readS K (it i) = (x, 0))
    (hC : ∀ W, SchemaAt W A n c S → BytesAt W B m k bs → Calls Tryd.prog 6 #[.slice A n c, .int .i64 root, .slice B m k, .int .i64 d, .string p] W fun e W' => e = .returned (.tuple #[.int .i64 (ng : Nat), .int .u8 0]) ∧ Ext W W')
    (hW : ∀ W, SchemaAt W A n c S → BytesAt W B m k bs → Calls Tryd.prog 7 #[.slice A n c, .int .i64 root, .slice B m k, .int .i64 d, .string p] W fun e W' => ∃ A' c', e = .returned (.tuple #[.slice A' ng c', .int .u8 0]) ∧ Own W W' 38 1 A' ng c' (ws.map uv))
    (hX : ∀ W, SchemaAt W A n c S → BytesAt W B m k bs → Calls Tryd.prog 8 #[.slice A n c, .int .i64 root, .slice B m k, .int .i64 d, .string p] W fun e W' => e = .returned (.tuple #[.slice none 0 0, .int .u8 (TC : Int)]) ∧ Ext W W')
    (hI : ∀ W (i : Nat), i < ng → SchemaAt W A n c S → BytesAt W B m k bs → Calls Tryd.prog 9 #[.slice A n c, .int .i64 root, .slice B m k, .int .i64 d, .string p, .int .i64 (i : Int)] W fun e W' => ∃ A' c', e = .returned (.tuple #[.slice A' (it i).length c', .int .u8 0]) ∧ Own W W' 5 1 A' (it i).length c' ((it i).map bv))
    (hE : ∀ W, SchemaAt W A n c S → BytesAt W B m k bs → Calls Tryd.prog 9 #[.slice A n c, .int .i64 root, .slice B m k, .int .i64 d, .string p, .int .i64 (ng : Int)] W fun e W' => ∃ A' n' c', e = .returned (.tuple #[.slice A' n' c', .int .u8 11]) ∧ Ext W W') :
    Calls Tryd.prog 3 #[.slice A n c, .int .i64 root, .slice B m k, .int .i64 d, .string p] w fun e w' => e = .returned (.bool true) ∧ Ext w w' := by
  have Ha := Lib.hid ha
  have HC := Lib.hid hC
  have HW := Lib.hid hW
  have HX := Lib.hid hX
  have HI := Lib.hid hI
  have HE := Lib.hid hE
  have Hi := Lib.hid hi
  have Hl := Lib.hid hl
  have HK := Lib.hid hK
  have q : ((TC : Int) != 0) = true := by rw [bne_iff_ne]; omega
  have q2 : ((TC : Int) == 0) = false := by rw [beq_eq_false_iff_ne]; omega
  clear ha hC hW hX hI hE h0 hi hl hK
  have hc := Reads.cap hb
  go_enter Tryd.func3, Tryd.ntmps3
  go_upto_region 3 with (go_at_call 4; refine (Ha.out _).mono ?_; rintro x w1 ⟨rfl, E1⟩)
  go_cut [40] (fun t wz => ∃ b, t = .bool b ∧ Ext w1 wz)
  case first =>
    have hs1 := hs.up E1
    go_wp2_with (go_at_call 5; refine (few07 hs1).mono ?_; rintro y w2 ⟨x, rfl, E2⟩; clear hs1)
    all_goals
      go_meet
      exact ⟨_, rfl, E2⟩
  case rest =>
    obtain ⟨b, rfl, Xc⟩ := hcut
    have X1 := E1.trans Xc
    rcases b with _ | _
    · have hsc := hs.up X1
      have hbc := hb.up X1
      go_wp2_with (first
        | (go_at_call 6; refine (HC.out _ hsc hbc).mono ?_; rintro y w3 ⟨rfl, E3⟩; replace hsc := hsc.up E3; replace hbc := hbc.up E3)
        | (go_at_call 7; refine (HW.out _ hsc hbc).mono ?_; rintro y w4 ⟨A4, c4, rfl, own4⟩; replace hsc := hsc.up own4.ext; replace hbc := hbc.up own4.ext)
        | (go_at_call 8; refine (HX.out _ hsc hbc).mono ?_; rintro y w5 ⟨rfl, E5⟩; replace hsc := hsc.up E5; replace hbc := hbc.up E5))
      have own5 := own4.up E5
      have X5 := ((X1.trans E3).trans own4.ext).trans E5
      clear X1 Xc E1
      go_loopw [17] (fun u wr => ∃ (i : Nat), i ≤ ng ∧ u = .int .i64 (i : Int) ∧ Ext w5 wr) (fun u _ => ng - (intOf u).toNat)
      case atStart => exact ⟨0, Nat.zero_le _, rfl, Ext.refl _⟩
      case round =>
        obtain ⟨i, hile, rfl, E6⟩ := hrel
        by_cases hlt : i < ng
        · have hlt2 : (i : Int) < ng := by omega
          obtain ⟨x, hx, hrx⟩ := Hi.out i hlt
          have hcell := (own5.up E6).reads.at_ (by omega)
          obtain ⟨b4, o4, rfl, hb4, hat4⟩ := hcell
          have hc4 : wr.cell? ⟨b4, o4 + i, none⟩ = some (.int .u64 (x : Int)) := hat4 i (uv x) (by rw [List.getElem?_map, hx]; rfl)
          have hit := fun W a b => HI.out W i hlt a b
          have Hit := Lib.hid hit
          have Hrx := Lib.hid hrx
          clear hit hrx hx hat4
          have hs6 := hsc.up E6
          have hb6 := hbc.up E6
          generalize it i = I at *
          obtain ⟨IL, hIL⟩ : ∃ IL, IL = I.length := ⟨_, rfl⟩
          rw [← hIL] at Hit
          clear hIL
          go_wp2_with (go_at_call 9; refine (Hit.out _ hs6 hb6).mono ?_; rintro y w7 ⟨A7, c7, rfl, own7⟩; clear hs6 hb6)
          have hc7 := own7.ext.of_cell hc4
          have hl7 := Nat.lt_of_lt_of_le hb4 own7.ext.size
          go_quiet (fail)
          go_wp2_with fail
          go_loopw [20, 21] (fun u v wr => ∃ (j : Nat) (b : Bool), 1 ≤ j ∧ j ≤ 15 ∧ u = .bool b ∧ v = .int .i64 (j : Int) ∧ Hid (K < j → b = true) ∧ Ext w7 wr) (fun _ v _ => 15 - (intOf v).toNat)
          case atStart => exact ⟨1, false, by omega, by omega, rfl, rfl, Lib.hid (fun h => by have := HK.out; omega), (by repeat with_reducible (first | exact Ext.refl _ | refine Ext.alloc ?_ _ | refine Ext.drew ?_ | refine Ext.drewN ?_ _ | refine Ext.setCell ?_ (by first | exact Nat.le_refl _ | omega | (simp; done) | (simp; omega)) _))⟩
          case round =>
            obtain ⟨j, b, hj1, hj, rfl, rfl, hKb, E8⟩ := hrel
            by_cases hj14 : j ≤ 14
            · have hj2 : (j : Int) ≤ 14 := by omega
              have hrd := sRead (k := (j : Int)) ((own7.bytes).up E8) (W := (readS j I).1) (C := (readS j I).2) rfl
              have hj3 : j = K → (readS j I).1 = x ∧ (readS j I).2 = 0 := fun h => by rw [h, Hrx.out]; exact ⟨rfl, rfl⟩
              have Hj3 := Lib.hid hj3
              have hlv : (readS j I).1 < 18446744073709551616 ∧ (readS j I).2 < 256 := ⟨(readS_bd _ _).1, by have := (readS_bd j I).2; omega⟩
              generalize (readS j I).1 = V at *
              generalize (readS j I).2 = C at *
              have Hrd := Lib.hid hrd
              have hc8 := E8.of_cell hc7
              have hl8 := Nat.lt_of_lt_of_le hl7 E8.size
              clear hrd hj3
              rcases b with _ | _
              · by_cases hC0 : C = 0
                · subst hC0
                  by_cases hV : V = x
                  · subst hV
                    go_upto_region 24 with (go_at_call 10; refine Hrd.out.mono ?_; rintro y w9 ⟨rfl, E9⟩; have hc9 := E9.of_cell hc8; have hl9 := Nat.lt_of_lt_of_le hl8 E9.size)
                    go_wp2_with fail
                    go_roundw
                    case rel => exact ⟨j + 1, true, by omega, by omega, rfl, by go_num, Lib.hid (fun _ => rfl), E8.trans E9⟩
                    case measure => simp [intOf]; omega
                  · have hV2 : ((V : Int) == (x : Int)) = false := by rw [beq_eq_false_iff_ne]; omega
                    have hjK : j ≠ K := fun h => hV (Hj3.out h).1
                    go_upto_region 24 with (go_at_call 10; refine Hrd.out.mono ?_; rintro y w9 ⟨rfl, E9⟩; have hc9 := E9.of_cell hc8; have hl9 := Nat.lt_of_lt_of_le hl8 E9.size)
                    go_wp2_with fail
                    go_roundw
                    case rel => exact ⟨j + 1, false, by omega, by omega, rfl, by go_num, Lib.hid (fun h => by cases hKb.out (by omega)), E8.trans E9⟩
                    case measure => simp [intOf]; omega
                · have hC2 : ((C : Int) == 0) = false := by rw [beq_eq_false_iff_ne]; omega
                  have hjK : j ≠ K := fun h => hC0 (Hj3.out h).2
                  go_upto_region 24 with (go_at_call 10; refine Hrd.out.mono ?_; rintro y w9 ⟨rfl, E9⟩; have hc9 := E9.of_cell hc8; have hl9 := Nat.lt_of_lt_of_le hl8 E9.size)
                  go_wp2_with fail
                  go_roundw
                  case rel => exact ⟨j + 1, false, by omega, by omega, rfl, by go_num, Lib.hid (fun h => by cases hKb.out (by omega)), E8.trans E9⟩
                  case measure => simp [intOf]; omega
              · go_upto_region 24 with (go_at_call 10; refine Hrd.out.mono ?_; rintro y w9 ⟨rfl, E9⟩; have hc9 := E9.of_cell hc8; have hl9 := Nat.lt_of_lt_of_le hl8 E9.size)
                go_wp2_with fail
                go_roundw
                case rel => exact ⟨j + 1, true, by omega, by omega, rfl, by go_num, Lib.hid (fun _ => rfl), E8.trans E9⟩
                case measure => simp [intOf]; omega
            · obtain rfl : j = 15 := by omega
              have hbt := hKb.out (by have := HK.out; omega)
              subst hbt
              go_wp2
              go_roundw
              case rel => exact ⟨i + 1, by omega, by go_num, (E6.trans own7.ext).trans E8⟩
              case measure => simp [intOf]; omega
        · obtain rfl : i = ng := by omega
          have hs6 := hsc.up E6
          have hb6 := hbc.up E6
          go_wp2_with (go_at_call 9; refine (HE.out _ hs6 hb6).mono ?_; rintro y w7 ⟨A7, n7, c7, rfl, E7⟩; clear hs6 hb6)
          go_ret
          exact ⟨rfl, (X5.trans E6).trans E7⟩
    · go_wp2
      go_ret
      exact ⟨rfl, X1⟩

set_option maxRecDepth 100000 in
set_option maxHeartbeats 2000000 in
/-- A field that has neither words nor texts to tell. -/
theorem items_none (ha : ∀ w : World, Calls Tryd.prog 4 #[] w fun e w' => e = .returned (.bool true) ∧ Ext w w') (hs : SchemaAt w A n c S) (hb : BytesAt w B m k bs) (hm : m ≤ 1000) (hp : p.size ≤ maxLen) {ng TC WC : Nat} {it : Nat → List UInt8}
    (h0 : TC ≠ 0) (hT : TC < 256) (h1 : WC ≠ 0) (hV : WC < 256) (hn : ng ≤ 1000000000)
    (hC : ∀ W, SchemaAt W A n c S → BytesAt W B m k bs → Calls Tryd.prog 6 #[.slice A n c, .int .i64 root, .slice B m k, .int .i64 d, .string p] W fun e W' => e = .returned (.tuple #[.int .i64 (ng : Nat), .int .u8 0]) ∧ Ext W W')
    (hW : ∀ W, SchemaAt W A n c S → BytesAt W B m k bs → Calls Tryd.prog 7 #[.slice A n c, .int .i64 root, .slice B m k, .int .i64 d, .string p] W fun e W' => ∃ A' n' c', e = .returned (.tuple #[.slice A' n' c', .int .u8 (WC : Int)]) ∧ Ext W W')
    (hX : ∀ W, SchemaAt W A n c S → BytesAt W B m k bs → Calls Tryd.prog 8 #[.slice A n c, .int .i64 root, .slice B m k, .int .i64 d, .string p] W fun e W' => e = .returned (.tuple #[.slice none 0 0, .int .u8 (TC : Int)]) ∧ Ext W W')
    (hI : ∀ W (i : Nat), i < ng → SchemaAt W A n c S → BytesAt W B m k bs → Calls Tryd.prog 9 #[.slice A n c, .int .i64 root, .slice B m k, .int .i64 d, .string p, .int .i64 (i : Int)] W fun e W' => ∃ A' c', e = .returned (.tuple #[.slice A' (it i).length c', .int .u8 0]) ∧ Own W W' 5 1 A' (it i).length c' ((it i).map bv))
    (hE : ∀ W, SchemaAt W A n c S → BytesAt W B m k bs → Calls Tryd.prog 9 #[.slice A n c, .int .i64 root, .slice B m k, .int .i64 d, .string p, .int .i64 (ng : Int)] W fun e W' => ∃ A' n' c', e = .returned (.tuple #[.slice A' n' c', .int .u8 11]) ∧ Ext W W') :
    Calls Tryd.prog 3 #[.slice A n c, .int .i64 root, .slice B m k, .int .i64 d, .string p] w fun e w' => e = .returned (.bool true) ∧ Ext w w' := by
  have Ha := Lib.hid ha
  have HC := Lib.hid hC
  have HW := Lib.hid hW
  have HX := Lib.hid hX
  have HI := Lib.hid hI
  have HE := Lib.hid hE
  have q : ((TC : Int) != 0) = true := by rw [bne_iff_ne]; omega
  have r : ((WC : Int) != 0) = true := by rw [bne_iff_ne]; omega
  have r2 : ((WC : Int) == 0) = false := by rw [beq_eq_false_iff_ne]; omega
  have q2 : ((TC : Int) == 0) = false := by rw [beq_eq_false_iff_ne]; omega
  clear ha hC hW hX hI hE h0 h1
  have hc := Reads.cap hb
  go_enter Tryd.func3, Tryd.ntmps3
  go_upto_region 3 with (go_at_call 4; refine (Ha.out _).mono ?_; rintro x w1 ⟨rfl, E1⟩)
  go_cut [40] (fun t wz => ∃ b, t = .bool b ∧ Ext w1 wz)
  case first =>
    have hs1 := hs.up E1
    go_wp2_with (go_at_call 5; refine (few07 hs1).mono ?_; rintro y w2 ⟨x, rfl, E2⟩; clear hs1)
    all_goals
      go_meet
      exact ⟨_, rfl, E2⟩
  case rest =>
    obtain ⟨b, rfl, Xc⟩ := hcut
    have X1 := E1.trans Xc
    rcases b with _ | _
    · have hsc := hs.up X1
      have hbc := hb.up X1
      go_wp2_with (first
        | (go_at_call 6; refine (HC.out _ hsc hbc).mono ?_; rintro y w3 ⟨rfl, E3⟩; replace hsc := hsc.up E3; replace hbc := hbc.up E3)
        | (go_at_call 7; refine (HW.out _ hsc hbc).mono ?_; rintro y w4 ⟨A4, n4, c4, rfl, E4⟩; replace hsc := hsc.up E4; replace hbc := hbc.up E4)
        | (go_at_call 8; refine (HX.out _ hsc hbc).mono ?_; rintro y w5 ⟨rfl, E5⟩; replace hsc := hsc.up E5; replace hbc := hbc.up E5))
      have X5 := ((X1.trans E3).trans E4).trans E5
      clear X1 Xc E1
      go_loopw [17] (fun u wr => ∃ (i : Nat), i ≤ ng ∧ u = .int .i64 (i : Int) ∧ Ext w5 wr) (fun u _ => ng - (intOf u).toNat)
      case atStart => exact ⟨0, Nat.zero_le _, rfl, Ext.refl _⟩
      case round =>
        obtain ⟨i, hile, rfl, E6⟩ := hrel
        by_cases hlt : i < ng
        · have hlt2 : (i : Int) < ng := by omega
          have hit := fun W a b => HI.out W i hlt a b
          have Hit := Lib.hid hit
          clear hit
          have hs6 := hsc.up E6
          have hb6 := hbc.up E6
          generalize it i = I at *
          obtain ⟨IL, hIL⟩ : ∃ IL, IL = I.length := ⟨_, rfl⟩
          rw [← hIL] at Hit
          clear hIL
          go_wp2_with (go_at_call 9; refine (Hit.out _ hs6 hb6).mono ?_; rintro y w7 ⟨A7, c7, rfl, own7⟩; clear hs6 hb6)
          go_quiet (fail)
          go_wp2_with fail
          go_roundw
          case rel => exact ⟨i + 1, by omega, by go_num, E6.trans (by first | exact own7.ext | exact own7.ext.drewN _)⟩
          case measure => simp [intOf]; omega
        · obtain rfl : i = ng := by omega
          have hs6 := hsc.up E6
          have hb6 := hbc.up E6
          go_wp2_with (go_at_call 9; refine (HE.out _ hs6 hb6).mono ?_; rintro y w7 ⟨A7, n7, c7, rfl, E7⟩; clear hs6 hb6)
          go_ret
          exact ⟨rfl, (X5.trans E6).trans E7⟩
    · go_wp2
      go_ret
      exact ⟨rfl, X1⟩

set_option maxRecDepth 100000 in
set_option maxHeartbeats 2000000 in
/-- A field of texts. -/
theorem items_texts (ha : ∀ w : World, Calls Tryd.prog 4 #[] w fun e w' => e = .returned (.bool true) ∧ Ext w w') (hs : SchemaAt w A n c S) (hb : BytesAt w B m k bs) (hm : m ≤ 1000) (hp : p.size ≤ maxLen) {ng WC : Nat} {ts : List (List UInt8)} {it : Nat → List UInt8}
    (h1 : WC ≠ 0) (hV : WC < 256) (hn : ng ≤ 1000000000) (hi : ∀ i, i < ng → ts[i]? = some (it i))
    (hC : ∀ W, SchemaAt W A n c S → BytesAt W B m k bs → Calls Tryd.prog 6 #[.slice A n c, .int .i64 root, .slice B m k, .int .i64 d, .string p] W fun e W' => e = .returned (.tuple #[.int .i64 (ng : Nat), .int .u8 0]) ∧ Ext W W')
    (hW : ∀ W, SchemaAt W A n c S → BytesAt W B m k bs → Calls Tryd.prog 7 #[.slice A n c, .int .i64 root, .slice B m k, .int .i64 d, .string p] W fun e W' => ∃ A' n' c', e = .returned (.tuple #[.slice A' n' c', .int .u8 (WC : Int)]) ∧ Ext W W')
    (hX : ∀ W, SchemaAt W A n c S → BytesAt W B m k bs → Calls Tryd.prog 8 #[.slice A n c, .int .i64 root, .slice B m k, .int .i64 d, .string p] W fun e W' => ∃ l A' c', e = .returned (.tuple #[.slice A' ng c', .int .u8 0]) ∧ BRowsAt W' A' ng c' l ∧ bytesR l = ts ∧ Ext W W')
    (hI : ∀ W (i : Nat), i < ng → SchemaAt W A n c S → BytesAt W B m k bs → Calls Tryd.prog 9 #[.slice A n c, .int .i64 root, .slice B m k, .int .i64 d, .string p, .int .i64 (i : Int)] W fun e W' => ∃ A' c', e = .returned (.tuple #[.slice A' (it i).length c', .int .u8 0]) ∧ Own W W' 5 1 A' (it i).length c' ((it i).map bv))
    (hE : ∀ W, SchemaAt W A n c S → BytesAt W B m k bs → Calls Tryd.prog 9 #[.slice A n c, .int .i64 root, .slice B m k, .int .i64 d, .string p, .int .i64 (ng : Int)] W fun e W' => ∃ A' n' c', e = .returned (.tuple #[.slice A' n' c', .int .u8 11]) ∧ Ext W W') :
    Calls Tryd.prog 3 #[.slice A n c, .int .i64 root, .slice B m k, .int .i64 d, .string p] w fun e w' => e = .returned (.bool true) ∧ Ext w w' := by
  have Ha := Lib.hid ha
  have HC := Lib.hid hC
  have HW := Lib.hid hW
  have HX := Lib.hid hX
  have HI := Lib.hid hI
  have HE := Lib.hid hE
  have Hi := Lib.hid hi
  have r : ((WC : Int) != 0) = true := by rw [bne_iff_ne]; omega
  have r2 : ((WC : Int) == 0) = false := by rw [beq_eq_false_iff_ne]; omega
  clear ha hC hW hX hI hE hi h1
  have hc := Reads.cap hb
  go_enter Tryd.func3, Tryd.ntmps3
  go_upto_region 3 with (go_at_call 4; refine (Ha.out _).mono ?_; rintro x w1 ⟨rfl, E1⟩)
  go_cut [40] (fun t wz => ∃ b, t = .bool b ∧ Ext w1 wz)
  case first =>
    have hs1 := hs.up E1
    go_wp2_with (go_at_call 5; refine (few07 hs1).mono ?_; rintro y w2 ⟨x, rfl, E2⟩; clear hs1)
    all_goals
      go_meet
      exact ⟨_, rfl, E2⟩
  case rest =>
    obtain ⟨b, rfl, Xc⟩ := hcut
    have X1 := E1.trans Xc
    rcases b with _ | _
    · have hsc := hs.up X1
      have hbc := hb.up X1
      go_wp2_with (first
        | (go_at_call 6; refine (HC.out _ hsc hbc).mono ?_; rintro y w3 ⟨rfl, E3⟩; replace hsc := hsc.up E3; replace hbc := hbc.up E3)
        | (go_at_call 7; refine (HW.out _ hsc hbc).mono ?_; rintro y w4 ⟨A4, n4, c4, rfl, E4⟩; replace hsc := hsc.up E4; replace hbc := hbc.up E4)
        | (go_at_call 8; refine (HX.out _ hsc hbc).mono ?_; rintro y w5 ⟨l, A5, c5, rfl, hB5, hts, E5⟩; replace hsc := hsc.up E5; replace hbc := hbc.up E5))
      have X5 := ((X1.trans E3).trans E4).trans E5
      clear X1 Xc E1
      go_loopw [17] (fun u wr => ∃ (i : Nat), i ≤ ng ∧ u = .int .i64 (i : Int) ∧ Ext w5 wr) (fun u _ => ng - (intOf u).toNat)
      case atStart => exact ⟨0, Nat.zero_le _, rfl, Ext.refl _⟩
      case round =>
        obtain ⟨i, hile, rfl, E6⟩ := hrel
        by_cases hlt : i < ng
        · have hlt2 : (i : Int) < ng := by omega
          obtain ⟨b5, o5, r5, rfl, hr5, hb5, hby, hc5⟩ := (hB5.up E6).row hlt
          have hbs : r5.bs = it i := by
            have h := Hi.out i hlt
            rw [← hts] at h
            unfold bytesR at h
            rw [List.getElem?_map, hr5] at h
            simpa using h
          rw [hbs] at hby
          have Hby := Lib.hid hby
          obtain ⟨RA, rn, rc, rb⟩ := r5
          simp only at Hby hc5
          clear hby hbs hr5
          have hit := fun W a b => HI.out W i hlt a b
          have Hit := Lib.hid hit
          clear hit
          have hs6 := hsc.up E6
          have hb6 := hbc.up E6
          generalize it i = I at *
          obtain ⟨IL, hIL⟩ : ∃ IL, IL = I.length := ⟨_, rfl⟩
          rw [← hIL] at Hit
          clear hIL
          go_wp2_with (go_at_call 9; refine (Hit.out _ hs6 hb6).mono ?_; rintro y w7 ⟨A7, c7, rfl, own7⟩; clear hs6 hb6)
          have cv : ∀ n, (convert 24 9 (.slice A7 IL c7)).run Tryd.prog (w7.drewN n) = .ok (.string ⟨I.toArray⟩) (w7.drewN n) := fun n => ((own7.bytes).up ((Ext.refl w7).drewN n)).convert (P := Tryd.prog) 24 5 9 Tryd.underlying24 Tryd.underlying5 Tryd.underlying9
          have cv2 : ∀ n, (convert 24 9 (.slice RA rn rc)).run Tryd.prog (w7.drewN n) = .ok (.string ⟨I.toArray⟩) (w7.drewN n) := fun n => ((Hby.out.up own7.ext).up ((Ext.refl w7).drewN n)).convert (P := Tryd.prog) 24 5 9 Tryd.underlying24 Tryd.underlying5 Tryd.underlying9
          have hc7 := own7.ext.of_cell hc5
          have hl7 := Nat.lt_of_lt_of_le hb5 own7.ext.size
          go_quiet (fail)
          go_wp2_with fail
          go_roundw
          case rel => exact ⟨i + 1, by omega, by go_num, E6.trans (by first | exact own7.ext | exact own7.ext.drewN _)⟩
          case measure => simp [intOf]; omega
        · obtain rfl : i = ng := by omega
          have hs6 := hsc.up E6
          have hb6 := hbc.up E6
          go_wp2_with (go_at_call 9; refine (HE.out _ hs6 hb6).mono ?_; rintro y w7 ⟨A7, n7, c7, rfl, E7⟩; clear hs6 hb6)
          go_ret
          exact ⟨rfl, (X5.trans E6).trans E7⟩
    · go_wp2
      go_ret
      exact ⟨rfl, X1⟩

end

end Go.Proofs.YtlhbllaojjelcaaDoor
