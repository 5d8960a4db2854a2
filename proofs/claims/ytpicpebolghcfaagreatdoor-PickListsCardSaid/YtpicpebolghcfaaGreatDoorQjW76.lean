/- Contracts of layer 22: a found field's load, its things. -/
import Derived.Test.YtpicpebolghcfaaGreatDoorQjW75
import Derived.Test.YtpicpebolghcfaaGreatDoorQjW9r

namespace Go.Proofs.YtpicpebolghcfaaGreatDoor
open Go.RowKit Go.Shelf
set_option linter.unusedVariables false
set_option linter.unusedSimpArgs false

theorem load_run {f : FieldD} {ps : List (List UInt8)} (h : runP f = true) : loadP f ps = ps.flatten := by unfold loadP; rw [if_pos (.inl h)]

theorem load_sub {f : FieldD} {ps : List (List UInt8)} (h : f.kind = 17) (h2 : f.rep = false) : loadP f ps = ps.flatten := by unfold loadP; rw [if_pos (.inr ⟨h, h2⟩)]

theorem load_last {f : FieldD} {ps : List (List UInt8)} (h : ¬ f.kind = 17) (h2 : f.rep = false) : loadP f ps = lastP ps := by
  unfold loadP
  rw [if_neg (by unfold runP; rw [h2]; simp [h]), if_pos h2]

theorem load_told {f : FieldD} {ps : List (List UInt8)} (h : runP f = false) (h2 : f.rep = true) : loadP f ps = toldP ps := by
  unfold loadP
  rw [if_neg (by rw [h, h2]; simp), if_neg (by rw [h2]; simp)]

set_option maxRecDepth 100000 in
set_option maxHeartbeats 1000000 in
theorem pLoad {f : FieldD} {A : Option Addr} {n c : Nat} {l : List BRow} {w : World} (hb : BRowsAt w A n c l) (hl : (flatR l).length ≤ 1000000000) (hn : n ≤ 1000000000) (hne : f.rep = false → 0 < n ∨ f.kind = 17) :
    Calls Tryz.prog 46 #[foundV f A n c] w fun e w' => ∃ A' c', e = .returned (.slice A' (loadP f (bytesR l)).length c') ∧ Own w w' 5 1 A' (loadP f (bytesR l)).length c' ((loadP f (bytesR l)).map bv) := by
  have hbl := hb.length
  have hnu := fun W => pNumbers (f := f) (A := A) (n := n) (c := c) (w := W)
  have hcat := fun W (h : BRowsAt W A n c l) => sConcat h (by omega)
  rw [flat_rows] at hcat
  have hfl : (bytesR l).flatten.length ≤ 1000000000 := by rw [← flat_rows]; exact hl
  have hpl : (bytesR l).length = n := by unfold bytesR; rw [List.length_map]; exact hbl
  have hB := BlkT.new w 79 (foundC f A n c) rfl
  have X0 : Ext w (w.alloc (.cells (foundC f A n c) 79)) := (by repeat with_reducible (first | exact Ext.refl _ | refine Ext.alloc ?_ _ | refine Ext.drew ?_ | refine Ext.drewN ?_ _ | refine Ext.setCell ?_ (by first | exact Nat.le_refl _ | omega | (simp; done) | (simp; omega)) _))
  have hlo : (runP f = true → loadP f (bytesR l) = (bytesR l).flatten) ∧ (f.kind = 17 → f.rep = false → loadP f (bytesR l) = (bytesR l).flatten) ∧ (¬ f.kind = 17 → f.rep = false → loadP f (bytesR l) = lastP (bytesR l)) ∧ (runP f = false → f.rep = true → loadP f (bytesR l) = toldP (bytesR l)) :=
    ⟨load_run, load_sub, load_last, load_told⟩
  have hru : f.rep = false → runP f = false := fun h => by unfold runP; rw [h]; rfl
  obtain ⟨FL, hFL⟩ : ∃ FL, FL = (bytesR l).flatten := ⟨_, rfl⟩
  rw [← hFL] at hcat hlo
  obtain ⟨fl, hfl2⟩ : ∃ fl, fl = FL.length := ⟨_, rfl⟩
  rw [← hfl2] at hcat
  have HFL := Lib.hid hFL
  have Hfl2 := Lib.hid hfl2
  have Hfl := Lib.hid hfl
  have Hpl := Lib.hid hpl
  have Hlo := Lib.hid hlo
  have Hcat := Lib.hid hcat
  have Hb := Lib.hid hb
  clear hcat hlo hFL hfl2 hfl hpl hbl hb
  unfold foundC at hB X0
  rcases hr : runP f with _ | _
  · rw [hr] at hnu
    have Hnu := Lib.hid hnu
    clear hnu hru
    obtain ⟨fname, fnum, fkind, frep, fpk, fof⟩ := f
    simp only [foundV] at Hnu hB X0 hne ⊢
    have Hlo := Hlo.out
    simp only at Hlo
    cases frep with
    | false =>
      by_cases h17 : fkind = 17
      · subst h17
        rw [Hlo.2.1 rfl rfl]
        clear Hlo hr hne
        go_enter Tryz.func46, Tryz.ntmps46
        go_wp2_with fail
        generalize w.alloc (.cells #[.string fname, .int .i64 fnum, .int .i64 17, .bool false, .bool fpk, .int .i64 fof, .slice A n c] 79) = wx at *
        have c0 : wx.cell? ⟨w.heap.size, 0, none⟩ = some (.string fname) := hB.cell 0
        have c1 : wx.cell? ⟨w.heap.size, 1, none⟩ = some (.int .i64 fnum) := hB.cell 1
        have c2 : wx.cell? ⟨w.heap.size, 2, none⟩ = some (.int .i64 17) := hB.cell 2
        have c3 : wx.cell? ⟨w.heap.size, 3, none⟩ = some (.bool false) := hB.cell 3
        have c4 : wx.cell? ⟨w.heap.size, 4, none⟩ = some (.bool fpk) := hB.cell 4
        have c5 : wx.cell? ⟨w.heap.size, 5, none⟩ = some (.int .i64 fof) := hB.cell 5
        have c6 : wx.cell? ⟨w.heap.size, 6, none⟩ = some (.slice A n c) := hB.cell 6
        have cl := hB.lt
        go_wp2_with (first
          | (go_at_call 77; refine (Hcat.out _ (Hb.out.up X0)).mono ?_; rintro e w1 ⟨A1, k1, rfl, own1⟩; have X1 := own1.ext; replace c0 := X1.of_cell c0; replace c1 := X1.of_cell c1; replace c2 := X1.of_cell c2; replace c3 := X1.of_cell c3; replace c4 := X1.of_cell c4; replace c5 := X1.of_cell c5; replace c6 := X1.of_cell c6; replace cl := Nat.lt_of_lt_of_le cl X1.size)
          | (go_at_call 76; refine (Hnu.out _).mono ?_; rintro e w2 ⟨rfl, E2⟩; replace c0 := E2.of_cell c0; replace c1 := E2.of_cell c1; replace c2 := E2.of_cell c2; replace c3 := E2.of_cell c3; replace c4 := E2.of_cell c4; replace c5 := E2.of_cell c5; replace c6 := E2.of_cell c6; replace cl := Nat.lt_of_lt_of_le cl E2.size; have X2 := (X0.trans X1).trans E2))
        go_ret
        exact ⟨A1, k1, ret_slice Hfl2.out, by rw [← Hfl2.out]; exact (own1.up E2).since X0⟩
      · rw [Hlo.2.2.1 h17 rfl]
        have hpos : 0 < n := (hne rfl).resolve_right h17
        obtain ⟨j, rfl⟩ : ∃ j, n = j + 1 := ⟨n - 1, by omega⟩
        obtain ⟨b, off, r, rfl, hlr, hb1, hbr, hcell⟩ := Hb.out.row (k := j) (by omega)
        have hlast : lastP (bytesR l) = r.bs := by
          unfold lastP
          have h1 := Hpl.out
          rw [List.getLast?_eq_getElem?, h1]
          unfold bytesR
          rw [List.getElem?_map, show j + 1 - 1 = j by omega, hlr]
          rfl
        have hr1 : r.n ≤ 1000000000 := by
          have h1 := hbr.length
          have h2 : (bytesR l)[j]? = some r.bs := by unfold bytesR; rw [List.getElem?_map, hlr]; rfl
          have := piece_le (List.mem_of_getElem? h2)
          have := Hfl.out
          omega
        have hk17 : (fkind == 17) = false := by rw [beq_eq_false_iff_ne]; exact h17
        rw [hlast]
        replace hlast := Lib.hid hlast
        clear Hlo hr hne hlr h17 hpos hlast
        go_enter Tryz.func46, Tryz.ntmps46
        go_wp2_with fail
        generalize w.alloc (.cells #[.string fname, .int .i64 fnum, .int .i64 fkind, .bool false, .bool fpk, .int .i64 fof, .slice (some ⟨b, off, none⟩) (j + 1) c] 79) = wx at *
        have c0 : wx.cell? ⟨w.heap.size, 0, none⟩ = some (.string fname) := hB.cell 0
        have c1 : wx.cell? ⟨w.heap.size, 1, none⟩ = some (.int .i64 fnum) := hB.cell 1
        have c2 : wx.cell? ⟨w.heap.size, 2, none⟩ = some (.int .i64 fkind) := hB.cell 2
        have c3 : wx.cell? ⟨w.heap.size, 3, none⟩ = some (.bool false) := hB.cell 3
        have c4 : wx.cell? ⟨w.heap.size, 4, none⟩ = some (.bool fpk) := hB.cell 4
        have c5 : wx.cell? ⟨w.heap.size, 5, none⟩ = some (.int .i64 fof) := hB.cell 5
        have c6 : wx.cell? ⟨w.heap.size, 6, none⟩ = some (.slice (some ⟨b, off, none⟩) (j + 1) c) := hB.cell 6
        have cl := hB.lt
        have c6z : wx.cell? ⟨b, off + j, none⟩ = some (.slice r.A r.n r.c) := X0.of_cell hcell
        have hbz : b < wx.heap.size := Nat.lt_of_lt_of_le hb1 X0.size
        go_wp2_with (first
          | (go_at_call 77; refine (Hcat.out _ (Hb.out.up X0)).mono ?_; rintro e w1 ⟨A1, k1, rfl, own1⟩; have X1 := own1.ext; replace c0 := X1.of_cell c0; replace c1 := X1.of_cell c1; replace c2 := X1.of_cell c2; replace c3 := X1.of_cell c3; replace c4 := X1.of_cell c4; replace c5 := X1.of_cell c5; replace c6 := X1.of_cell c6; replace c6z := X1.of_cell c6z; replace hbz := Nat.lt_of_lt_of_le hbz X1.size; replace cl := Nat.lt_of_lt_of_le cl X1.size)
          | (go_at_call 76; refine (Hnu.out _).mono ?_; rintro e w2 ⟨rfl, E2⟩; replace c0 := E2.of_cell c0; replace c1 := E2.of_cell c1; replace c2 := E2.of_cell c2; replace c3 := E2.of_cell c3; replace c4 := E2.of_cell c4; replace c5 := E2.of_cell c5; replace c6 := E2.of_cell c6; replace c6z := E2.of_cell c6z; replace hbz := Nat.lt_of_lt_of_le hbz E2.size; replace cl := Nat.lt_of_lt_of_le cl E2.size; have X2 := (X0.trans X1).trans E2)
          | (go_at_call 50; refine (clone (hbr.ext X2) (by omega)).mono ?_; rintro e w3 ⟨A3, k3, rfl, own3⟩))
        go_ret
        exact ⟨A3, k3, ret_slice (by rw [hbr.length]), by rw [hbr.length]; exact own3.since X2⟩
    | true =>
      rw [Hlo.2.2.2 hr rfl]
      have hT : ∀ q, (toldP ((bytesR l).take q)).length ≤ 11000000000 := fun q => by
        have h1 := told_len ((bytesR l).take q) (fun b hb => by have := piece_le (List.mem_of_mem_take hb); have := Hfl.out; omega)
        have h2 : ((bytesR l).take q).length ≤ n := by rw [List.length_take, Hpl.out]; omega
        have h3 : ((bytesR l).take q).flatten.length ≤ (bytesR l).flatten.length := by
          conv => rhs; rw [← List.take_append_drop q (bytesR l), List.flatten_append, List.length_append]
          omega
        have := Hfl.out
        omega
      have HT := Lib.hid hT
      clear Hlo hr hne hT
      go_enter Tryz.func46, Tryz.ntmps46
      go_wp2_with fail
      generalize w.alloc (.cells #[.string fname, .int .i64 fnum, .int .i64 fkind, .bool true, .bool fpk, .int .i64 fof, .slice A n c] 79) = wx at *
      have c0 : wx.cell? ⟨w.heap.size, 0, none⟩ = some (.string fname) := hB.cell 0
      have c1 : wx.cell? ⟨w.heap.size, 1, none⟩ = some (.int .i64 fnum) := hB.cell 1
      have c2 : wx.cell? ⟨w.heap.size, 2, none⟩ = some (.int .i64 fkind) := hB.cell 2
      have c3 : wx.cell? ⟨w.heap.size, 3, none⟩ = some (.bool true) := hB.cell 3
      have c4 : wx.cell? ⟨w.heap.size, 4, none⟩ = some (.bool fpk) := hB.cell 4
      have c5 : wx.cell? ⟨w.heap.size, 5, none⟩ = some (.int .i64 fof) := hB.cell 5
      have c6 : wx.cell? ⟨w.heap.size, 6, none⟩ = some (.slice A n c) := hB.cell 6
      have cl := hB.lt
      go_wp2_with (first
        | (go_at_call 77; refine (Hcat.out _ (Hb.out.up X0)).mono ?_; rintro e w1 ⟨A1, k1, rfl, own1⟩; have X1 := own1.ext; replace c0 := X1.of_cell c0; replace c1 := X1.of_cell c1; replace c2 := X1.of_cell c2; replace c3 := X1.of_cell c3; replace c4 := X1.of_cell c4; replace c5 := X1.of_cell c5; replace c6 := X1.of_cell c6; replace cl := Nat.lt_of_lt_of_le cl X1.size)
        | (go_at_call 76; refine (Hnu.out _).mono ?_; rintro e w2 ⟨rfl, E2⟩; replace c0 := E2.of_cell c0; replace c1 := E2.of_cell c1; replace c2 := E2.of_cell c2; replace c3 := E2.of_cell c3; replace c4 := E2.of_cell c4; replace c5 := E2.of_cell c5; replace c6 := E2.of_cell c6; replace cl := Nat.lt_of_lt_of_le cl E2.size; have X2 := (X0.trans X1).trans E2))
      all_goals
        go_loopw [4, 41] (fun t4 t41 wr => ∃ (q : Nat) (A2 : Option Addr) (k2 m2 : Nat), q ≤ n ∧ t41 = .int .i64 q ∧ Hid (m2 = (toldP ((bytesR l).take q)).length) ∧ t4 = .slice A2 m2 k2 ∧ Own w wr 5 1 A2 m2 k2 ((toldP ((bytesR l).take q)).map bv) ∧ Ext w2 wr)
          (fun _ i _ => n - (intOf i).toNat)
        case atStart => exact ⟨0, none, 0, 0, Nat.zero_le _, rfl, rfl, rfl, Own.nil X2 5 1, Ext.refl _⟩
        case round =>
          obtain ⟨q, A2, k2, m2, hq, rfl, hm2, rfl, own, X3⟩ := hrel
          by_cases hlt : q < n
          · have hlt2 : (q : Int) < n := by omega
            obtain ⟨b, off, r, rfl, hlr, hb1, hbr, hcell⟩ := (Hb.out.up (X2.trans X3)).row hlt
            have hps : (bytesR l)[q]? = some r.bs := by unfold bytesR; rw [List.getElem?_map, hlr]; rfl
            have hsn := toldP_snoc hps
            have hle := HT.out q
            rw [← hm2.out] at hle
            have hrl := hbr.length
            rw [hrl] at hsn
            have hr1 : r.n ≤ 1000000000 := by have := piece_le (List.mem_of_getElem? hps); have := Hfl.out; omega
            have hput := vPut (w := wr) (x := (r.n : Int)) own.reads (by omega) (by omega) (by omega)
            rw [Int.toNat_natCast] at hput
            have hu10 := uvarint_ten r.n (by omega)
            obtain ⟨ul, hul⟩ : ∃ ul, ul = (Lib.uvarint r.n).length := ⟨_, rfl⟩
            rw [← hul] at hput hu10
            have Hput := Lib.hid hput
            have Hsn := Lib.hid hsn
            have Hul := Lib.hid hul
            have Hrl := Lib.hid hrl
            clear hput hsn hps hlr hul hrl
            go_wp2_with (first
              | (go_at_call 78; refine Hput.out.mono ?_; rintro e w5 ⟨A5, k5, rfl, own5⟩; have X5 := own5.ext)
              | (at_builtin; refine wpList_more elemB rfl (.tmp 49) (.tmp 50) rfl rfl own5 rfl (hbr.ext X5) (bv_one _) (by omega) (by unfold maxLen; omega) ?_; intro A6 k6 w6 own6 _))
            go_roundw
            case rel =>
              refine ⟨q + 1, A6, k6, m2 + ul + r.n, by omega, by go_num, ?_, rfl, ?_, X3.trans own6.ext⟩
              · show m2 + ul + r.n = _
                rw [Hsn.out, List.length_append, List.length_append, ← hm2.out, ← Hul.out, Hrl.out]
                omega
              · have := own6.since (X2.trans X3)
                rw [Hsn.out]
                simpa using this
            case measure => simp [intOf]; omega
          · have hqe : q = n := by omega
            subst hqe
            rw [List.take_of_length_le (by rw [Hpl.out]; exact Nat.le_refl _)] at own hm2
            go_wp2
            go_ret
            exact ⟨A2, k2, ret_slice hm2.out, by rw [← hm2.out]; exact own⟩
  · rw [hr] at hnu
    have Hnu := Lib.hid hnu
    rw [Hlo.out.1 hr]
    clear hnu hr hru hne
    unfold foundV at Hnu ⊢
    obtain ⟨fname, fnum, fkind, frep, fpk, fof⟩ := f
    simp only at Hnu hB X0 ⊢
    go_enter Tryz.func46, Tryz.ntmps46
    go_wp2_with fail
    generalize w.alloc (.cells #[.string fname, .int .i64 fnum, .int .i64 fkind, .bool frep, .bool fpk, .int .i64 fof, .slice A n c] 79) = wx at *
    have c0 : wx.cell? ⟨w.heap.size, 0, none⟩ = some (.string fname) := hB.cell 0
    have c1 : wx.cell? ⟨w.heap.size, 1, none⟩ = some (.int .i64 fnum) := hB.cell 1
    have c2 : wx.cell? ⟨w.heap.size, 2, none⟩ = some (.int .i64 fkind) := hB.cell 2
    have c3 : wx.cell? ⟨w.heap.size, 3, none⟩ = some (.bool frep) := hB.cell 3
    have c4 : wx.cell? ⟨w.heap.size, 4, none⟩ = some (.bool fpk) := hB.cell 4
    have c5 : wx.cell? ⟨w.heap.size, 5, none⟩ = some (.int .i64 fof) := hB.cell 5
    have c6 : wx.cell? ⟨w.heap.size, 6, none⟩ = some (.slice A n c) := hB.cell 6
    have cl := hB.lt
    go_wp2_with (first
      | (go_at_call 77; refine (Hcat.out _ (Hb.out.up X0)).mono ?_; rintro e w1 ⟨A1, k1, rfl, own1⟩; have X1 := own1.ext; replace c0 := X1.of_cell c0; replace c1 := X1.of_cell c1; replace c2 := X1.of_cell c2; replace c3 := X1.of_cell c3; replace c4 := X1.of_cell c4; replace c5 := X1.of_cell c5; replace c6 := X1.of_cell c6; replace cl := Nat.lt_of_lt_of_le cl X1.size)
      | (go_at_call 76; refine (Hnu.out _).mono ?_; rintro e w2 ⟨rfl, E2⟩))
    go_ret
    exact ⟨A1, k1, ret_slice Hfl2.out, by rw [← Hfl2.out]; exact (own1.up E2).since X0⟩

end Go.Proofs.YtpicpebolghcfaaGreatDoor
