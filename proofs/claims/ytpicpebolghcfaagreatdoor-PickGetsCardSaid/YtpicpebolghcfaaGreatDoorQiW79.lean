/- Contracts of layer 22: Item. -/
import Derived.Test.YtpicpebolghcfaaGreatDoorQiW78

namespace Go.Proofs.YtpicpebolghcfaaGreatDoor
open Go.RowKit Go.Shelf
set_option linter.unusedVariables false
set_option linter.unusedSimpArgs false

def itemV (f : FieldD) (ps : List (List UInt8)) (i : Int) : List UInt8 × Nat :=
  if i < 0 ∨ (thingsP f ps : Int) ≤ i then ([], 11) else if numberB f.kind = true then (putS f.kind (((wordsV f.kind (loadP f ps)).1[i.toNat]?).getD 0), 0)
  else if f.rep = true then ((ps[i.toNat]?).getD [], 0) else (loadP f ps, 0)

theorem word_lt (k : Int) (bs : List UInt8) (p : Nat) : ((wordsV k bs).1[p]?).getD 0 < 18446744073709551616 := by
  rcases h : (wordsV k bs).1[p]? with _ | x
  · simp
  · simp only [Option.getD_some]
    unfold wordsV at h
    simp only at h
    split at h
    · rw [List.getElem?_map] at h
      rcases hv : (valsV k bs)[p]? with _ | v
      · rw [hv] at h; cases h
      · rw [hv] at h
        injection h with h
        rw [← h]
        exact (readS_bd k v.1).1
    · cases h

theorem uAtG {A : Option Addr} {m c : Nat} {bs : List UInt8} {k : Int} {p : Nat} (hm : m ≤ 1000000000) : ∃ C : Int, ∀ w : World, BytesAt w A m c bs →
    Calls Tryz.prog 48 #[.int .i64 k, .slice A m c, .int .i64 (p : Int)] w fun e w' => e = .returned (.tuple #[.int .u64 (((wordsV k bs).1[p]?).getD 0 : Nat), .int .u8 C]) ∧ Ext w w' := by
  by_cases h0 : (wordsV k bs).2 = 0
  · rcases h : (wordsV k bs).1[p]? with _ | x
    · refine ⟨11, fun w hb => ?_⟩
      exact uAt_out hb hm h0 (.inr (by have := List.getElem?_eq_none_iff.1 h; omega))
    · exact ⟨0, fun w hb => uAt_in hb hm h0 h⟩
  · have hn : (wordsV k bs).1[p]? = none := by
      unfold wordsV at h0 ⊢
      simp only at h0 ⊢
      rw [if_neg h0]
      rfl
    rw [hn]
    exact ⟨((wordsV k bs).2 : Nat), fun w hb => uAt_bad hb hm rfl h0⟩

theorem load_small {f : FieldD} {ps : List (List UInt8)} (hk : numberB f.kind = true) (h : ps.flatten.length ≤ 1000000000) : (loadP f ps).length ≤ 1000000000 := by
  unfold loadP
  split
  · exact h
  · rename_i h1
    split
    · unfold lastP
      rcases hl : ps.getLast? with _ | b
      · simp
      · have := piece_le (List.mem_of_getLast? hl)
        simp only [Option.getD_some]
        omega
    · rename_i h2
      exact absurd (.inl (by unfold runP; rw [hk]; simpa using h2)) h1

theorem things_there {f : FieldD} {ps : List (List UInt8)} {q : Nat} (h : q < thingsP f ps) : thereP f ps = true := by
  rcases ht : thereP f ps with _ | _
  · unfold thingsP at h
    rw [if_pos ht] at h
    omega
  · rfl

section
variable {A B : Option Addr} {n c m k : Nat} {S : List MsgV} {root d : Int} {p : ByteArray} {bs : List UInt8} {w : World}

set_option maxRecDepth 100000 in
set_option maxHeartbeats 1000000 in
theorem pItem_ok {i : Int} (hs : SchemaAt w A n c S) (hb : BytesAt w B m k bs) (hm : m ≤ 1000000000) (hp : p.size ≤ maxLen) (hK : (wayAtV (S.map MsgV.d) root d p bs).2 = 0) {f : FieldD} (hf : OnWay (S.map MsgV.d) root.toNat (wayAtV (S.map MsgV.d) root d p bs).1 f) :
    Calls Tryz.prog 18 #[.slice A n c, .int .i64 root, .slice B m k, .int .i64 d, .string p, .int .i64 i] w fun e w' => ∃ A' c', e = .returned (.tuple #[.slice A' (itemV f (atP (S.map MsgV.d) root d p bs) i).1.length c', .int .u8 ((itemV f (atP (S.map MsgV.d) root d p bs) i).2 : Nat)]) ∧
      Own w w' 5 1 A' (itemV f (atP (S.map MsgV.d) root d p bs) i).1.length c' ((itemV f (atP (S.map MsgV.d) root d p bs) i).1.map bv) := by
  have hfi := fun W (a : SchemaAt W A n c S) (b : BytesAt W B m k bs) => pFind_ok (root := root) (d := d) a b hm hp hK hf
  have Hfi := Lib.hid hfi
  have ha : ∀ (l : List BRow) (n : Nat), bytesR l = atP (S.map MsgV.d) root d p bs → l.length = n → (flatR l).length ≤ 1000000000 ∧ n ≤ 1000000000 := fun l n h1 h2 => atP_le h1 (by have := hb.length; omega) h2
  clear hfi hK hf
  unfold itemV
  generalize atP (S.map MsgV.d) root d p bs = ps at Hfi ha ⊢
  have HA := Lib.hid ha
  clear ha
  have hrun : f.rep = true → numberB f.kind = false → runP f = false := fun _ h => by unfold runP; rw [h, Bool.and_false]
  have htv : f.rep = true → numberB f.kind = false → thereP f ps = true → thingsP f ps = ps.length := fun h1 h2 h3 => by unfold thingsP; rw [if_neg (by rw [h3]; simp), if_neg (by rw [hrun h1 h2]; simp), if_pos h1]
  have hsm := fun h => load_small (f := f) (ps := ps) h
  have hth := fun q => things_there (f := f) (ps := ps) (q := q)
  have htp := fun h => there_pos (f := f) (ps := ps) h
  obtain ⟨fname, fnum, fkind, frep, fpk, fof⟩ := f
  simp only at hrun htv hsm htp ⊢
  by_cases hneg : i < 0
  · rw [if_pos (.inl hneg)]
    clear hrun htv hsm hth htp
    go_enter Tryz.func18, Tryz.ntmps18
    go_wp2_with (go_at_call 44; refine (Hfi.out _ hs hb).mono ?_; rintro e w1 ⟨l, A1, n1, c1', rfl, hB1, hps, E1, _⟩; unfold foundV; obtain ⟨hle, hn1⟩ := HA.out _ _ hps hB1.length; have hB := BlkT.new w1 79 (foundC ⟨fname, fnum, fkind, frep, fpk, fof⟩ A1 n1 c1') rfl; unfold foundC at hB; have X1 : Ext w1 (w1.alloc (.cells #[.string fname, .int .i64 fnum, .int .i64 fkind, .bool frep, .bool fpk, .int .i64 fof, .slice A1 n1 c1'] 79)) := (by repeat with_reducible (first | exact Ext.refl _ | refine Ext.alloc ?_ _ | refine Ext.drew ?_ | refine Ext.drewN ?_ _ | refine Ext.setCell ?_ (by first | exact Nat.le_refl _ | omega | (simp; done) | (simp; omega)) _)); have hth := fun W (h : Ext w1 W) => pThere (f := ⟨fname, fnum, fkind, frep, fpk, fof⟩) (hB1.up h) hle; have htg := fun W (h : Ext w1 W) => pThings (f := ⟨fname, fnum, fkind, frep, fpk, fof⟩) (hB1.up h) hle hn1; rw [hps] at hth htg; unfold foundV at hth htg; have Hth := Lib.hid hth; have Htg := Lib.hid htg; have Hps := Lib.hid hps; clear hth htg hps)
    go_wp2
    go_ret2
    exact ⟨none, 0, rfl, Own.nil (E1.trans (by repeat with_reducible (first | exact Ext.refl _ | refine Ext.alloc ?_ _ | refine Ext.drew ?_ | refine Ext.drewN ?_ _ | refine Ext.setCell ?_ (by first | exact Nat.le_refl _ | omega | (simp; done) | (simp; omega)) _))) _ 1⟩
  · obtain ⟨q, rfl⟩ : ∃ q : Nat, i = q := ⟨i.toNat, by omega⟩
    rw [Int.toNat_natCast]
    have hng : ¬ (q : Int) < 0 := by omega
    obtain ⟨tn, htn⟩ : ∃ tn, tn = thingsP ⟨fname, fnum, fkind, frep, fpk, fof⟩ ps := ⟨_, rfl⟩
    rw [← htn] at htv ⊢
    have hthe : q < tn → thereP ⟨fname, fnum, fkind, frep, fpk, fof⟩ ps = true := fun h => hth q (by rw [← htn]; exact h)
    have Htn := Lib.hid htn
    clear hth hneg htn
    by_cases hout : tn ≤ q
    · rw [if_pos (.inr (by omega))]
      have hge : (tn : Int) ≤ q := by omega
      clear hrun htv hsm hthe htp hout
      go_enter Tryz.func18, Tryz.ntmps18
      go_wp2_with (go_at_call 44; refine (Hfi.out _ hs hb).mono ?_; rintro e w1 ⟨l, A1, n1, c1', rfl, hB1, hps, E1, _⟩; unfold foundV; obtain ⟨hle, hn1⟩ := HA.out _ _ hps hB1.length; have hB := BlkT.new w1 79 (foundC ⟨fname, fnum, fkind, frep, fpk, fof⟩ A1 n1 c1') rfl; unfold foundC at hB; have X1 : Ext w1 (w1.alloc (.cells #[.string fname, .int .i64 fnum, .int .i64 fkind, .bool frep, .bool fpk, .int .i64 fof, .slice A1 n1 c1'] 79)) := (by repeat with_reducible (first | exact Ext.refl _ | refine Ext.alloc ?_ _ | refine Ext.drew ?_ | refine Ext.drewN ?_ _ | refine Ext.setCell ?_ (by first | exact Nat.le_refl _ | omega | (simp; done) | (simp; omega)) _)); have hth := fun W (h : Ext w1 W) => pThere (f := ⟨fname, fnum, fkind, frep, fpk, fof⟩) (hB1.up h) hle; have htg := fun W (h : Ext w1 W) => pThings (f := ⟨fname, fnum, fkind, frep, fpk, fof⟩) (hB1.up h) hle hn1; rw [hps] at hth htg; unfold foundV at hth htg; have Hth := Lib.hid hth; have Htg := Lib.hid htg; have Hps := Lib.hid hps; clear hth htg hps)
      generalize w1.alloc (.cells #[.string fname, .int .i64 fnum, .int .i64 fkind, .bool frep, .bool fpk, .int .i64 fof, .slice A1 n1 c1'] 79) = wx at *
      have c0 : wx.cell? ⟨w1.heap.size, 0, none⟩ = some (.string fname) := hB.cell 0
      have c1 : wx.cell? ⟨w1.heap.size, 1, none⟩ = some (.int .i64 fnum) := hB.cell 1
      have c2 : wx.cell? ⟨w1.heap.size, 2, none⟩ = some (.int .i64 fkind) := hB.cell 2
      have c3 : wx.cell? ⟨w1.heap.size, 3, none⟩ = some (.bool frep) := hB.cell 3
      have c4 : wx.cell? ⟨w1.heap.size, 4, none⟩ = some (.bool fpk) := hB.cell 4
      have c5 : wx.cell? ⟨w1.heap.size, 5, none⟩ = some (.int .i64 fof) := hB.cell 5
      have c6 : wx.cell? ⟨w1.heap.size, 6, none⟩ = some (.slice A1 n1 c1') := hB.cell 6
      have cl := hB.lt
      replace Htg := Htg.out
      rw [← Htn.out] at Htg
      have Htg2 := Lib.hid Htg
      clear Htg
      go_wp2_with (go_at_call 47; refine (Htg2.out _ X1).mono ?_; rintro e w2 ⟨rfl, E2⟩)
      go_ret2
      exact ⟨none, 0, rfl, Own.nil ((E1.trans X1).trans E2) _ 1⟩
    · have hlt : q < tn := by omega
      have hge : ¬ (tn : Int) ≤ q := by omega
      rw [if_neg (by omega)]
      have hthere := hthe hlt
      rcases hk : numberB fkind with _ | _
      · rw [if_neg (by simp)]
        cases frep with
        | true =>
          rw [if_pos rfl]
          have hpl : tn = ps.length := htv rfl hk hthere
          have hqp : q < ps.length := by omega
          have Hqp := Lib.hid hqp
          have Hk := Lib.hid hk
          clear hrun htv hsm hthe htp hout hthere hpl hqp hlt hk
          go_enter Tryz.func18, Tryz.ntmps18
          go_wp2_with (go_at_call 44; refine (Hfi.out _ hs hb).mono ?_; rintro e w1 ⟨l, A1, n1, c1', rfl, hB1, hps, E1, _⟩; unfold foundV; obtain ⟨hle, hn1⟩ := HA.out _ _ hps hB1.length; have hB := BlkT.new w1 79 (foundC ⟨fname, fnum, fkind, true, fpk, fof⟩ A1 n1 c1') rfl; unfold foundC at hB; have X1 : Ext w1 (w1.alloc (.cells #[.string fname, .int .i64 fnum, .int .i64 fkind, .bool true, .bool fpk, .int .i64 fof, .slice A1 n1 c1'] 79)) := (by repeat with_reducible (first | exact Ext.refl _ | refine Ext.alloc ?_ _ | refine Ext.drew ?_ | refine Ext.drewN ?_ _ | refine Ext.setCell ?_ (by first | exact Nat.le_refl _ | omega | (simp; done) | (simp; omega)) _)); have hth := fun W (h : Ext w1 W) => pThere (f := ⟨fname, fnum, fkind, true, fpk, fof⟩) (hB1.up h) hle; have htg := fun W (h : Ext w1 W) => pThings (f := ⟨fname, fnum, fkind, true, fpk, fof⟩) (hB1.up h) hle hn1; rw [hps] at hth htg; unfold foundV at hth htg; have Hth := Lib.hid hth; have Htg := Lib.hid htg; have Hps := Lib.hid hps; clear hth htg hps)
          obtain ⟨b, off, r, rfl, hlr, hbb, hbr, hcell⟩ := hB1.row (k := q) (by have := Hqp.out; rw [← Hps.out] at this; unfold bytesR at this; rw [List.length_map, hB1.length] at this; exact this)
          have hqi : (q : Int) < n1 := by have := Hqp.out; rw [← Hps.out] at this; unfold bytesR at this; rw [List.length_map, hB1.length] at this; omega
          have hpr : ps[q]? = some r.bs := by rw [← Hps.out]; unfold bytesR; rw [List.getElem?_map, hlr]; rfl
          have hrn : r.n ≤ 1000000000 := by have := hbr.length; have h2 := piece_le (List.mem_of_getElem? hpr); rw [← Hps.out, ← flat_rows] at h2; omega
          have hz := X1.of_cell hcell
          have hzb := Nat.lt_of_lt_of_le hbb X1.size
          generalize w1.alloc (.cells #[.string fname, .int .i64 fnum, .int .i64 fkind, .bool true, .bool fpk, .int .i64 fof, .slice (some ⟨b, off, none⟩) n1 c1'] 79) = wx at *
          have c0 : wx.cell? ⟨w1.heap.size, 0, none⟩ = some (.string fname) := hB.cell 0
          have c1 : wx.cell? ⟨w1.heap.size, 1, none⟩ = some (.int .i64 fnum) := hB.cell 1
          have c2 : wx.cell? ⟨w1.heap.size, 2, none⟩ = some (.int .i64 fkind) := hB.cell 2
          have c3 : wx.cell? ⟨w1.heap.size, 3, none⟩ = some (.bool true) := hB.cell 3
          have c4 : wx.cell? ⟨w1.heap.size, 4, none⟩ = some (.bool fpk) := hB.cell 4
          have c5 : wx.cell? ⟨w1.heap.size, 5, none⟩ = some (.int .i64 fof) := hB.cell 5
          have c6 : wx.cell? ⟨w1.heap.size, 6, none⟩ = some (.slice (some ⟨b, off, none⟩) n1 c1') := hB.cell 6
          have cl := hB.lt
          replace Htg := Htg.out
          rw [← Htn.out] at Htg
          have Htg2 := Lib.hid Htg
          have hnu := fun W => kNumber fkind W
          rw [Hk.out] at hnu
          have Hnu := Lib.hid hnu
          have Hpr := Lib.hid hpr
          clear Htg hnu hcell hbb hlr hpr
          go_wp2_with (first
            | (go_at_call 47; refine (Htg2.out _ X1).mono ?_; rintro e w2 ⟨rfl, E2⟩; replace c0 := E2.of_cell c0; replace c1 := E2.of_cell c1; replace c2 := E2.of_cell c2; replace c3 := E2.of_cell c3; replace c4 := E2.of_cell c4; replace c5 := E2.of_cell c5; replace c6 := E2.of_cell c6; replace cl := Nat.lt_of_lt_of_le cl E2.size; replace hz := E2.of_cell hz; replace hzb := Nat.lt_of_lt_of_le hzb E2.size)
            | (go_at_call 31; refine (Hnu.out _).mono ?_; rintro e w3 ⟨rfl, E3⟩; replace c0 := E3.of_cell c0; replace c1 := E3.of_cell c1; replace c2 := E3.of_cell c2; replace c3 := E3.of_cell c3; replace c4 := E3.of_cell c4; replace c5 := E3.of_cell c5; replace c6 := E3.of_cell c6; replace cl := Nat.lt_of_lt_of_le cl E3.size; replace hz := E3.of_cell hz; replace hzb := Nat.lt_of_lt_of_le hzb E3.size; have X3 := (X1.trans E2).trans E3)
            | (go_at_call 50; refine (clone (hbr.ext X3) (by omega)).mono ?_; rintro e w4 ⟨A4, k4, rfl, own4⟩))
          go_ret2
          rw [Hpr.out]
          simp only [Option.getD_some]
          exact ⟨A4, k4, ret_slv hbr.length.symm, by rw [hbr.length]; exact own4.since (E1.trans X3)⟩
        | false =>
          rw [if_neg (by simp)]
          have Hth3 := Lib.hid hthere
          have Hk := Lib.hid hk
          have Htp := Lib.hid (htp hthere rfl)
          clear hrun htv hsm hthe htp hout hthere hlt hk
          go_enter Tryz.func18, Tryz.ntmps18
          go_wp2_with (go_at_call 44; refine (Hfi.out _ hs hb).mono ?_; rintro e w1 ⟨l, A1, n1, c1', rfl, hB1, hps, E1, _⟩; unfold foundV; obtain ⟨hle, hn1⟩ := HA.out _ _ hps hB1.length; have hB := BlkT.new w1 79 (foundC ⟨fname, fnum, fkind, false, fpk, fof⟩ A1 n1 c1') rfl; unfold foundC at hB; have X1 : Ext w1 (w1.alloc (.cells #[.string fname, .int .i64 fnum, .int .i64 fkind, .bool false, .bool fpk, .int .i64 fof, .slice A1 n1 c1'] 79)) := (by repeat with_reducible (first | exact Ext.refl _ | refine Ext.alloc ?_ _ | refine Ext.drew ?_ | refine Ext.drewN ?_ _ | refine Ext.setCell ?_ (by first | exact Nat.le_refl _ | omega | (simp; done) | (simp; omega)) _)); have hth := fun W (h : Ext w1 W) => pThere (f := ⟨fname, fnum, fkind, false, fpk, fof⟩) (hB1.up h) hle; have htg := fun W (h : Ext w1 W) => pThings (f := ⟨fname, fnum, fkind, false, fpk, fof⟩) (hB1.up h) hle hn1; rw [hps] at hth htg; unfold foundV at hth htg; have Hth := Lib.hid hth; have Htg := Lib.hid htg; have Hps := Lib.hid hps; clear hth htg hps)
          have hlo := fun W (h : Ext w1 W) => pLoad (f := ⟨fname, fnum, fkind, false, fpk, fof⟩) (hB1.up h) hle hn1 (fun hr => .inl (by have := Htp.out; rw [← Hps.out] at this; unfold bytesR at this; rw [List.length_map, hB1.length] at this; exact this))
          rw [Hps.out] at hlo
          unfold foundV at hlo
          have Hlo := Lib.hid hlo
          clear hlo
          generalize w1.alloc (.cells #[.string fname, .int .i64 fnum, .int .i64 fkind, .bool false, .bool fpk, .int .i64 fof, .slice A1 n1 c1'] 79) = wx at *
          have c0 : wx.cell? ⟨w1.heap.size, 0, none⟩ = some (.string fname) := hB.cell 0
          have c1 : wx.cell? ⟨w1.heap.size, 1, none⟩ = some (.int .i64 fnum) := hB.cell 1
          have c2 : wx.cell? ⟨w1.heap.size, 2, none⟩ = some (.int .i64 fkind) := hB.cell 2
          have c3 : wx.cell? ⟨w1.heap.size, 3, none⟩ = some (.bool false) := hB.cell 3
          have c4 : wx.cell? ⟨w1.heap.size, 4, none⟩ = some (.bool fpk) := hB.cell 4
          have c5 : wx.cell? ⟨w1.heap.size, 5, none⟩ = some (.int .i64 fof) := hB.cell 5
          have c6 : wx.cell? ⟨w1.heap.size, 6, none⟩ = some (.slice A1 n1 c1') := hB.cell 6
          have cl := hB.lt
          replace Htg := Htg.out
          rw [← Htn.out] at Htg
          have Htg2 := Lib.hid Htg
          have hnu := fun W => kNumber fkind W
          rw [Hk.out] at hnu
          have Hnu := Lib.hid hnu
          obtain ⟨LD, hLD⟩ : ∃ LD, LD = loadP ⟨fname, fnum, fkind, false, fpk, fof⟩ ps := ⟨_, rfl⟩
          rw [← hLD] at Hlo
          have HLD := Lib.hid hLD
          clear Htg hnu hLD
          go_wp2_with (first
            | (go_at_call 47; refine (Htg2.out _ X1).mono ?_; rintro e w2 ⟨rfl, E2⟩; replace c0 := E2.of_cell c0; replace c1 := E2.of_cell c1; replace c2 := E2.of_cell c2; replace c3 := E2.of_cell c3; replace c4 := E2.of_cell c4; replace c5 := E2.of_cell c5; replace c6 := E2.of_cell c6; replace cl := Nat.lt_of_lt_of_le cl E2.size)
            | (go_at_call 31; refine (Hnu.out _).mono ?_; rintro e w3 ⟨rfl, E3⟩; replace c0 := E3.of_cell c0; replace c1 := E3.of_cell c1; replace c2 := E3.of_cell c2; replace c3 := E3.of_cell c3; replace c4 := E3.of_cell c4; replace c5 := E3.of_cell c5; replace c6 := E3.of_cell c6; replace cl := Nat.lt_of_lt_of_le cl E3.size; have X3 := (X1.trans E2).trans E3)
            | (go_at_call 46; refine (Hlo.out _ X3).mono ?_; rintro e w4 ⟨A4, k4, rfl, own4⟩))
          go_ret2
          rw [← HLD.out]
          exact ⟨A4, k4, rfl, own4.since (E1.trans X3)⟩
      · rw [if_pos rfl]
        have Hsm := Lib.hid (hsm hk)
        have Hk := Lib.hid hk
        have Htp := Lib.hid (fun hr => htp hthere hr)
        clear hrun htv hsm hthe htp hout hthere hlt hk
        go_enter Tryz.func18, Tryz.ntmps18
        go_wp2_with (go_at_call 44; refine (Hfi.out _ hs hb).mono ?_; rintro e w1 ⟨l, A1, n1, c1', rfl, hB1, hps, E1, _⟩; unfold foundV; obtain ⟨hle, hn1⟩ := HA.out _ _ hps hB1.length; have hB := BlkT.new w1 79 (foundC ⟨fname, fnum, fkind, frep, fpk, fof⟩ A1 n1 c1') rfl; unfold foundC at hB; have X1 : Ext w1 (w1.alloc (.cells #[.string fname, .int .i64 fnum, .int .i64 fkind, .bool frep, .bool fpk, .int .i64 fof, .slice A1 n1 c1'] 79)) := (by repeat with_reducible (first | exact Ext.refl _ | refine Ext.alloc ?_ _ | refine Ext.drew ?_ | refine Ext.drewN ?_ _ | refine Ext.setCell ?_ (by first | exact Nat.le_refl _ | omega | (simp; done) | (simp; omega)) _)); have hth := fun W (h : Ext w1 W) => pThere (f := ⟨fname, fnum, fkind, frep, fpk, fof⟩) (hB1.up h) hle; have htg := fun W (h : Ext w1 W) => pThings (f := ⟨fname, fnum, fkind, frep, fpk, fof⟩) (hB1.up h) hle hn1; rw [hps] at hth htg; unfold foundV at hth htg; have Hth := Lib.hid hth; have Htg := Lib.hid htg; have Hps := Lib.hid hps; clear hth htg hps)
        have hlo := fun W (h : Ext w1 W) => pLoad (f := ⟨fname, fnum, fkind, frep, fpk, fof⟩) (hB1.up h) hle hn1 (fun hr => .inl (by have := Htp.out hr; rw [← Hps.out] at this; unfold bytesR at this; rw [List.length_map, hB1.length] at this; exact this))
        rw [Hps.out] at hlo
        unfold foundV at hlo
        have hld : (loadP ⟨fname, fnum, fkind, frep, fpk, fof⟩ ps).length ≤ 1000000000 := Hsm.out (by rw [← Hps.out, ← flat_rows]; exact hle)
        have Hlo := Lib.hid hlo
        clear hlo
        generalize w1.alloc (.cells #[.string fname, .int .i64 fnum, .int .i64 fkind, .bool frep, .bool fpk, .int .i64 fof, .slice A1 n1 c1'] 79) = wx at *
        have c0 : wx.cell? ⟨w1.heap.size, 0, none⟩ = some (.string fname) := hB.cell 0
        have c1 : wx.cell? ⟨w1.heap.size, 1, none⟩ = some (.int .i64 fnum) := hB.cell 1
        have c2 : wx.cell? ⟨w1.heap.size, 2, none⟩ = some (.int .i64 fkind) := hB.cell 2
        have c3 : wx.cell? ⟨w1.heap.size, 3, none⟩ = some (.bool frep) := hB.cell 3
        have c4 : wx.cell? ⟨w1.heap.size, 4, none⟩ = some (.bool fpk) := hB.cell 4
        have c5 : wx.cell? ⟨w1.heap.size, 5, none⟩ = some (.int .i64 fof) := hB.cell 5
        have c6 : wx.cell? ⟨w1.heap.size, 6, none⟩ = some (.slice A1 n1 c1') := hB.cell 6
        have cl := hB.lt
        replace Htg := Htg.out
        rw [← Htn.out] at Htg
        have Htg2 := Lib.hid Htg
        have hnu := fun W => kNumber fkind W
        rw [Hk.out] at hnu
        have Hnu := Lib.hid hnu
        obtain ⟨LD, hLD⟩ : ∃ LD, LD = loadP ⟨fname, fnum, fkind, frep, fpk, fof⟩ ps := ⟨_, rfl⟩
        rw [← hLD] at Hlo hld
        have HLD := Lib.hid hLD
        obtain ⟨ll, hll⟩ : ∃ ll, ll = LD.length := ⟨_, rfl⟩
        rw [← hll] at hld
        have hlo2 := Hlo.out
        rw [← hll] at hlo2
        have Hlo2 := Lib.hid hlo2
        have hat := fun A' c' => uAtG (A := A') (c := c') (bs := LD) (k := fkind) (p := q) hld
        have hx := word_lt fkind LD q
        obtain ⟨x, hxe⟩ : ∃ x, x = ((wordsV fkind LD).1[q]?).getD 0 := ⟨_, rfl⟩
        rw [← hxe] at hat hx
        have Hxe := Lib.hid hxe
        have Hat := Lib.hid hat
        have Hx := Lib.hid hx
        clear Htg hnu hLD hll hlo2 Hlo hat hxe hx
        go_wp2_with (first
          | (go_at_call 47; refine (Htg2.out _ X1).mono ?_; rintro e w2 ⟨rfl, E2⟩; replace c0 := E2.of_cell c0; replace c1 := E2.of_cell c1; replace c2 := E2.of_cell c2; replace c3 := E2.of_cell c3; replace c4 := E2.of_cell c4; replace c5 := E2.of_cell c5; replace c6 := E2.of_cell c6; replace cl := Nat.lt_of_lt_of_le cl E2.size; replace hB := hB.up E2)
          | (go_at_call 31; refine (Hnu.out _).mono ?_; rintro e w3 ⟨rfl, E3⟩; replace c0 := E3.of_cell c0; replace c1 := E3.of_cell c1; replace c2 := E3.of_cell c2; replace c3 := E3.of_cell c3; replace c4 := E3.of_cell c4; replace c5 := E3.of_cell c5; replace c6 := E3.of_cell c6; replace cl := Nat.lt_of_lt_of_le cl E3.size; replace hB := hB.up E3; have X3 := (X1.trans E2).trans E3))
        go_region_held3 (fun W => Ext w3 W ∧ ∀ b o, b < w3.heap.size → W.cell? ⟨b, o, none⟩ = w3.cell? ⟨b, o, none⟩) ((refine Ext.keep ?_; repeat with_reducible (first | assumption | exact Ext.refl _ | refine Ext.alloc ?_ _ | refine Ext.drew ?_ | refine Ext.drewN ?_ _ | refine Ext.setCell ?_ (by first | exact Nat.le_refl _ | omega | (simp; done) | (simp; omega)) _))) (first
          | (go_split_ands; go_at_call 46; refine (Hlo2.out _ (X3.trans (by with_reducible assumption))).mono ?_; rintro e w4 ⟨A4, k4, rfl, own4⟩; have q4 : Ext w3 w4 := Ext.trans (by with_reducible assumption) own4.ext; have rd4 := own4.reads; obtain ⟨CC, hCC⟩ := Hat.out A4 k4)
          | (go_split_ands; go_at_call 48; refine (hCC _ (rd4.ext (by repeat with_reducible (first | exact Ext.refl _ | refine Ext.alloc ?_ _ | refine Ext.drew ?_ | refine Ext.drewN ?_ _ | refine Ext.setCell ?_ (by first | exact Nat.le_refl _ | omega | (simp; done) | (simp; omega)) _)))).mono ?_; rintro e w5 ⟨rfl, E5⟩; have q5 : Ext w3 w5 := Ext.trans (by with_reducible assumption) E5))
        all_goals
          rename Ext w3 w5 ∧ _ => hS
          clear hS
          have B5 := hB.up q5
          have d2 : w5.cell? ⟨w1.heap.size, 2, none⟩ = some (.int .i64 fkind) := B5.cell 2
          have dl := B5.lt
          go_wp2_with (go_at_call 49; refine (sPut Hx.out Hk.out rfl).mono ?_; rintro e w6 ⟨A6, k6, rfl, own6⟩)
          go_ret2
          rw [← HLD.out, ← Hxe.out]
          exact ⟨A6, k6, rfl, own6.since ((E1.trans X3).trans q5)⟩
end

end Go.Proofs.YtpicpebolghcfaaGreatDoor
