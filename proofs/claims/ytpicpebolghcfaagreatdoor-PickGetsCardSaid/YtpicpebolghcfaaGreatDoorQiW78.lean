/- Contracts of layer 22: Get, Count, Item. -/
import Derived.Test.YtpicpebolghcfaaGreatDoorQiW77

namespace Go.Proofs.YtpicpebolghcfaaGreatDoor
open Go.RowKit Go.Shelf
set_option linter.unusedVariables false
set_option linter.unusedSimpArgs false

section
variable {A B : Option Addr} {n c m k : Nat} {S : List MsgV} {root d : Int} {p : ByteArray} {bs : List UInt8} {w : World}

set_option maxRecDepth 100000 in
theorem pGet_bad (hs : SchemaAt w A n c S) (hb : BytesAt w B m k bs) (hm : m ≤ 1000000000) (hp : p.size ≤ maxLen) {K : Nat} (hK : (wayAtV (S.map MsgV.d) root d p bs).2 = K) (h0 : K ≠ 0) :
    Calls Tryz.prog 16 #[.slice A n c, .int .i64 root, .slice B m k, .int .i64 d, .string p] w fun e w' => e = .returned (.tuple #[.slice none 0 0, .int .u8 (K : Int)]) ∧ Ext w w' := by
  have hfi := fun W (a : SchemaAt W A n c S) (b : BytesAt W B m k bs) => pFind_bad (root := root) (d := d) a b hm hp hK h0
  have Hfi := Lib.hid hfi
  have q : ((K : Int) != 0) = true := by rw [bne_iff_ne]; omega
  clear hfi hK h0
  unfold foundV noField at Hfi
  simp only at Hfi
  go_enter Tryz.func16, Tryz.ntmps16
  go_wp2_with (go_at_call 44; refine (Hfi.out _ hs hb).mono ?_; rintro e w1 ⟨rfl, E1⟩)
  go_ret2
  exact ⟨rfl, Ext.trans E1 (by repeat with_reducible (first | exact Ext.refl _ | refine Ext.alloc ?_ _ | refine Ext.drew ?_ | refine Ext.drewN ?_ _ | refine Ext.setCell ?_ (by first | exact Nat.le_refl _ | omega | (simp; done) | (simp; omega)) _))⟩

set_option maxRecDepth 100000 in
theorem pCount_bad (hs : SchemaAt w A n c S) (hb : BytesAt w B m k bs) (hm : m ≤ 1000000000) (hp : p.size ≤ maxLen) {K : Nat} (hK : (wayAtV (S.map MsgV.d) root d p bs).2 = K) (h0 : K ≠ 0) :
    Calls Tryz.prog 17 #[.slice A n c, .int .i64 root, .slice B m k, .int .i64 d, .string p] w fun e w' => e = .returned (.tuple #[.int .i64 0, .int .u8 (K : Int)]) ∧ Ext w w' := by
  have hfi := fun W (a : SchemaAt W A n c S) (b : BytesAt W B m k bs) => pFind_bad (root := root) (d := d) a b hm hp hK h0
  have Hfi := Lib.hid hfi
  have q : ((K : Int) != 0) = true := by rw [bne_iff_ne]; omega
  clear hfi hK h0
  unfold foundV noField at Hfi
  simp only at Hfi
  go_enter Tryz.func17, Tryz.ntmps17
  go_wp2_with (go_at_call 44; refine (Hfi.out _ hs hb).mono ?_; rintro e w1 ⟨rfl, E1⟩)
  go_ret2
  exact ⟨rfl, Ext.trans E1 (by repeat with_reducible (first | exact Ext.refl _ | refine Ext.alloc ?_ _ | refine Ext.drew ?_ | refine Ext.drewN ?_ _ | refine Ext.setCell ?_ (by first | exact Nat.le_refl _ | omega | (simp; done) | (simp; omega)) _))⟩

set_option maxRecDepth 100000 in
theorem pItem_bad {i : Int} (hs : SchemaAt w A n c S) (hb : BytesAt w B m k bs) (hm : m ≤ 1000000000) (hp : p.size ≤ maxLen) {K : Nat} (hK : (wayAtV (S.map MsgV.d) root d p bs).2 = K) (h0 : K ≠ 0) :
    Calls Tryz.prog 18 #[.slice A n c, .int .i64 root, .slice B m k, .int .i64 d, .string p, .int .i64 i] w fun e w' => e = .returned (.tuple #[.slice none 0 0, .int .u8 (K : Int)]) ∧ Ext w w' := by
  have hfi := fun W (a : SchemaAt W A n c S) (b : BytesAt W B m k bs) => pFind_bad (root := root) (d := d) a b hm hp hK h0
  have Hfi := Lib.hid hfi
  have q : ((K : Int) != 0) = true := by rw [bne_iff_ne]; omega
  clear hfi hK h0
  unfold foundV noField at Hfi
  simp only at Hfi
  go_enter Tryz.func18, Tryz.ntmps18
  go_wp2_with (go_at_call 44; refine (Hfi.out _ hs hb).mono ?_; rintro e w1 ⟨rfl, E1⟩)
  go_ret2
  exact ⟨rfl, Ext.trans E1 (by repeat with_reducible (first | exact Ext.refl _ | refine Ext.alloc ?_ _ | refine Ext.drew ?_ | refine Ext.drewN ?_ _ | refine Ext.setCell ?_ (by first | exact Nat.le_refl _ | omega | (simp; done) | (simp; omega)) _))⟩

set_option maxRecDepth 100000 in
set_option maxHeartbeats 1000000 in
theorem pCount_ok (hs : SchemaAt w A n c S) (hb : BytesAt w B m k bs) (hm : m ≤ 1000000000) (hp : p.size ≤ maxLen) (hK : (wayAtV (S.map MsgV.d) root d p bs).2 = 0) {f : FieldD} (hf : OnWay (S.map MsgV.d) root.toNat (wayAtV (S.map MsgV.d) root d p bs).1 f) :
    Calls Tryz.prog 17 #[.slice A n c, .int .i64 root, .slice B m k, .int .i64 d, .string p] w fun e w' => e = .returned (.tuple #[.int .i64 (thingsP f (atP (S.map MsgV.d) root d p bs) : Nat), .int .u8 0]) ∧ Ext w w' := by
  have hfi := fun W (a : SchemaAt W A n c S) (b : BytesAt W B m k bs) => pFind_ok (root := root) (d := d) a b hm hp hK hf
  have Hfi := Lib.hid hfi
  have ha : ∀ (l : List BRow) (n : Nat), bytesR l = atP (S.map MsgV.d) root d p bs → l.length = n → (flatR l).length ≤ 1000000000 ∧ n ≤ 1000000000 := fun l n h1 h2 => atP_le h1 (by have := hb.length; omega) h2
  clear hfi hK hf
  generalize atP (S.map MsgV.d) root d p bs = ps at Hfi ha ⊢
  have HA := Lib.hid ha
  clear ha
  obtain ⟨fname, fnum, fkind, frep, fpk, fof⟩ := f
  go_enter Tryz.func17, Tryz.ntmps17
  go_wp2_with (go_at_call 44; refine (Hfi.out _ hs hb).mono ?_; rintro e w1 ⟨l, A1, n1, c1', rfl, hB1, hps, E1, _⟩; unfold foundV; obtain ⟨hle, hn1⟩ := HA.out _ _ hps hB1.length; have hB := BlkT.new w1 79 (foundC ⟨fname, fnum, fkind, frep, fpk, fof⟩ A1 n1 c1') rfl; unfold foundC at hB; have X1 : Ext w1 (w1.alloc (.cells #[.string fname, .int .i64 fnum, .int .i64 fkind, .bool frep, .bool fpk, .int .i64 fof, .slice A1 n1 c1'] 79)) := (by repeat with_reducible (first | exact Ext.refl _ | refine Ext.alloc ?_ _ | refine Ext.drew ?_ | refine Ext.drewN ?_ _ | refine Ext.setCell ?_ (by first | exact Nat.le_refl _ | omega | (simp; done) | (simp; omega)) _)); have hth := fun W (h : Ext w1 W) => pThere (f := ⟨fname, fnum, fkind, frep, fpk, fof⟩) (hB1.up h) hle; have htg := fun W (h : Ext w1 W) => pThings (f := ⟨fname, fnum, fkind, frep, fpk, fof⟩) (hB1.up h) hle hn1; rw [hps] at hth htg; unfold foundV at hth htg; have Hth := Lib.hid hth; have Htg := Lib.hid htg; have Hps := Lib.hid hps; clear hth htg hps)
  generalize w1.alloc (.cells #[.string fname, .int .i64 fnum, .int .i64 fkind, .bool frep, .bool fpk, .int .i64 fof, .slice A1 n1 c1'] 79) = wx at *
  have c0 : wx.cell? ⟨w1.heap.size, 0, none⟩ = some (.string fname) := hB.cell 0
  have c1 : wx.cell? ⟨w1.heap.size, 1, none⟩ = some (.int .i64 fnum) := hB.cell 1
  have c2 : wx.cell? ⟨w1.heap.size, 2, none⟩ = some (.int .i64 fkind) := hB.cell 2
  have c3 : wx.cell? ⟨w1.heap.size, 3, none⟩ = some (.bool frep) := hB.cell 3
  have c4 : wx.cell? ⟨w1.heap.size, 4, none⟩ = some (.bool fpk) := hB.cell 4
  have c5 : wx.cell? ⟨w1.heap.size, 5, none⟩ = some (.int .i64 fof) := hB.cell 5
  have c6 : wx.cell? ⟨w1.heap.size, 6, none⟩ = some (.slice A1 n1 c1') := hB.cell 6
  have cl := hB.lt
  go_wp2_with (go_at_call 47; refine (Htg.out _ X1).mono ?_; rintro e w2 ⟨rfl, E2⟩)
  go_ret2
  exact ⟨rfl, (E1.trans X1).trans E2⟩

set_option maxRecDepth 100000 in
set_option maxHeartbeats 1000000 in
theorem pGet_ok (hs : SchemaAt w A n c S) (hb : BytesAt w B m k bs) (hm : m ≤ 1000000000) (hp : p.size ≤ maxLen) (hK : (wayAtV (S.map MsgV.d) root d p bs).2 = 0) {f : FieldD} (hf : OnWay (S.map MsgV.d) root.toNat (wayAtV (S.map MsgV.d) root d p bs).1 f) :
    Calls Tryz.prog 16 #[.slice A n c, .int .i64 root, .slice B m k, .int .i64 d, .string p] w fun e w' => ∃ A' c', e = .returned (.tuple #[.slice A' (gotV f (atP (S.map MsgV.d) root d p bs)).1.length c', .int .u8 ((gotV f (atP (S.map MsgV.d) root d p bs)).2 : Nat)]) ∧
      Own w w' 5 1 A' (gotV f (atP (S.map MsgV.d) root d p bs)).1.length c' ((gotV f (atP (S.map MsgV.d) root d p bs)).1.map bv) := by
  have hfi := fun W (a : SchemaAt W A n c S) (b : BytesAt W B m k bs) => pFind_ok (root := root) (d := d) a b hm hp hK hf
  have Hfi := Lib.hid hfi
  have ha : ∀ (l : List BRow) (n : Nat), bytesR l = atP (S.map MsgV.d) root d p bs → l.length = n → (flatR l).length ≤ 1000000000 ∧ n ≤ 1000000000 := fun l n h1 h2 => atP_le h1 (by have := hb.length; omega) h2
  clear hfi hK hf
  unfold gotV
  generalize atP (S.map MsgV.d) root d p bs = ps at Hfi ha ⊢
  have HA := Lib.hid ha
  clear ha
  obtain ⟨fname, fnum, fkind, frep, fpk, fof⟩ := f
  rcases ht : thereP ⟨fname, fnum, fkind, frep, fpk, fof⟩ ps with _ | _
  · have Ht := Lib.hid ht
    rw [if_neg (by simp)]
    clear ht
    go_enter Tryz.func16, Tryz.ntmps16
    go_wp2_with (go_at_call 44; refine (Hfi.out _ hs hb).mono ?_; rintro e w1 ⟨l, A1, n1, c1', rfl, hB1, hps, E1, _⟩; unfold foundV; obtain ⟨hle, hn1⟩ := HA.out _ _ hps hB1.length; have hB := BlkT.new w1 79 (foundC ⟨fname, fnum, fkind, frep, fpk, fof⟩ A1 n1 c1') rfl; unfold foundC at hB; have X1 : Ext w1 (w1.alloc (.cells #[.string fname, .int .i64 fnum, .int .i64 fkind, .bool frep, .bool fpk, .int .i64 fof, .slice A1 n1 c1'] 79)) := (by repeat with_reducible (first | exact Ext.refl _ | refine Ext.alloc ?_ _ | refine Ext.drew ?_ | refine Ext.drewN ?_ _ | refine Ext.setCell ?_ (by first | exact Nat.le_refl _ | omega | (simp; done) | (simp; omega)) _)); have hth := fun W (h : Ext w1 W) => pThere (f := ⟨fname, fnum, fkind, frep, fpk, fof⟩) (hB1.up h) hle; have htg := fun W (h : Ext w1 W) => pThings (f := ⟨fname, fnum, fkind, frep, fpk, fof⟩) (hB1.up h) hle hn1; rw [hps] at hth htg; unfold foundV at hth htg; have Hth := Lib.hid hth; have Htg := Lib.hid htg; have Hps := Lib.hid hps; clear hth htg hps)
    generalize w1.alloc (.cells #[.string fname, .int .i64 fnum, .int .i64 fkind, .bool frep, .bool fpk, .int .i64 fof, .slice A1 n1 c1'] 79) = wx at *
    have c0 : wx.cell? ⟨w1.heap.size, 0, none⟩ = some (.string fname) := hB.cell 0
    have c1 : wx.cell? ⟨w1.heap.size, 1, none⟩ = some (.int .i64 fnum) := hB.cell 1
    have c2 : wx.cell? ⟨w1.heap.size, 2, none⟩ = some (.int .i64 fkind) := hB.cell 2
    have c3 : wx.cell? ⟨w1.heap.size, 3, none⟩ = some (.bool frep) := hB.cell 3
    have c4 : wx.cell? ⟨w1.heap.size, 4, none⟩ = some (.bool fpk) := hB.cell 4
    have c5 : wx.cell? ⟨w1.heap.size, 5, none⟩ = some (.int .i64 fof) := hB.cell 5
    have c6 : wx.cell? ⟨w1.heap.size, 6, none⟩ = some (.slice A1 n1 c1') := hB.cell 6
    have cl := hB.lt
    replace Hth := Hth.out
    rw [Ht.out] at Hth
    have Hth2 := Lib.hid Hth
    clear Hth
    go_wp2_with (go_at_call 45; refine (Hth2.out _ X1).mono ?_; rintro e w2 ⟨rfl, E2⟩)
    go_ret2
    exact ⟨none, 0, rfl, Own.nil ((E1.trans X1).trans E2) _ 1⟩
  · have Ht := Lib.hid ht
    rw [if_pos rfl]
    clear ht
    go_enter Tryz.func16, Tryz.ntmps16
    go_wp2_with (go_at_call 44; refine (Hfi.out _ hs hb).mono ?_; rintro e w1 ⟨l, A1, n1, c1', rfl, hB1, hps, E1, _⟩; unfold foundV; obtain ⟨hle, hn1⟩ := HA.out _ _ hps hB1.length; have hB := BlkT.new w1 79 (foundC ⟨fname, fnum, fkind, frep, fpk, fof⟩ A1 n1 c1') rfl; unfold foundC at hB; have X1 : Ext w1 (w1.alloc (.cells #[.string fname, .int .i64 fnum, .int .i64 fkind, .bool frep, .bool fpk, .int .i64 fof, .slice A1 n1 c1'] 79)) := (by repeat with_reducible (first | exact Ext.refl _ | refine Ext.alloc ?_ _ | refine Ext.drew ?_ | refine Ext.drewN ?_ _ | refine Ext.setCell ?_ (by first | exact Nat.le_refl _ | omega | (simp; done) | (simp; omega)) _)); have hth := fun W (h : Ext w1 W) => pThere (f := ⟨fname, fnum, fkind, frep, fpk, fof⟩) (hB1.up h) hle; have htg := fun W (h : Ext w1 W) => pThings (f := ⟨fname, fnum, fkind, frep, fpk, fof⟩) (hB1.up h) hle hn1; rw [hps] at hth htg; unfold foundV at hth htg; have Hth := Lib.hid hth; have Htg := Lib.hid htg; have Hps := Lib.hid hps; clear hth htg hps)
    have hlo := fun W (h : Ext w1 W) => pLoad (f := ⟨fname, fnum, fkind, frep, fpk, fof⟩) (hB1.up h) hle hn1 (fun hr => .inl (by have := there_pos Ht.out hr; rw [← Hps.out] at this; unfold bytesR at this; rw [List.length_map, hB1.length] at this; exact this))
    rw [Hps.out] at hlo
    unfold foundV at hlo
    have Hlo := Lib.hid hlo
    clear hlo
    generalize w1.alloc (.cells #[.string fname, .int .i64 fnum, .int .i64 fkind, .bool frep, .bool fpk, .int .i64 fof, .slice A1 n1 c1'] 79) = wx at *
    have c0 : wx.cell? ⟨w1.heap.size, 0, none⟩ = some (.string fname) := hB.cell 0
    have c1 : wx.cell? ⟨w1.heap.size, 1, none⟩ = some (.int .i64 fnum) := hB.cell 1
    have c2 : wx.cell? ⟨w1.heap.size, 2, none⟩ = some (.int .i64 fkind) := hB.cell 2
    have c3 : wx.cell? ⟨w1.heap.size, 3, none⟩ = some (.bool frep) := hB.cell 3
    have c4 : wx.cell? ⟨w1.heap.size, 4, none⟩ = some (.bool fpk) := hB.cell 4
    have c5 : wx.cell? ⟨w1.heap.size, 5, none⟩ = some (.int .i64 fof) := hB.cell 5
    have c6 : wx.cell? ⟨w1.heap.size, 6, none⟩ = some (.slice A1 n1 c1') := hB.cell 6
    have cl := hB.lt
    replace Hth := Hth.out
    rw [Ht.out] at Hth
    have Hth2 := Lib.hid Hth
    clear Hth
    obtain ⟨LD, hLD⟩ : ∃ LD, LD = loadP ⟨fname, fnum, fkind, frep, fpk, fof⟩ ps := ⟨_, rfl⟩
    rw [← hLD] at Hlo
    have HLD := Lib.hid hLD
    clear hLD
    go_wp2_with (first
      | (go_at_call 45; refine (Hth2.out _ X1).mono ?_; rintro e w2 ⟨rfl, E2⟩; replace c0 := E2.of_cell c0; replace c1 := E2.of_cell c1; replace c2 := E2.of_cell c2; replace c3 := E2.of_cell c3; replace c4 := E2.of_cell c4; replace c5 := E2.of_cell c5; replace c6 := E2.of_cell c6; replace cl := Nat.lt_of_lt_of_le cl E2.size)
      | (go_at_call 46; refine (Hlo.out _ (X1.trans E2)).mono ?_; rintro e w3 ⟨A3, k3, rfl, own3⟩))
    go_ret2
    rw [← HLD.out]
    exact ⟨A3, k3, rfl, own3.since ((E1.trans X1).trans E2)⟩

end

end Go.Proofs.YtpicpebolghcfaaGreatDoor
