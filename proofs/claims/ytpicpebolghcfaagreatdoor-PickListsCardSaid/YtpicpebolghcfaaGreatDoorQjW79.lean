/- Contracts of layer 22: Get, Count, Item. -/
import Derived.Test.YtpicpebolghcfaaGreatDoorQjW76

namespace Go.Proofs.YtpicpebolghcfaaGreatDoor
open Go.RowKit Go.Shelf
set_option linter.unusedVariables false
set_option linter.unusedSimpArgs false

theorem OnWay.same {S : List MsgD} : ∀ {l : List Int} {m : Nat} {f g : FieldD}, OnWay S m l f → OnWay S m l g → f = g
  | _, _, _, _, .last h, .last k => Option.some.inj (h.symm.trans k)
  | _, _, _, _, .last h, .step k _ _ t => absurd rfl t.ne
  | _, _, _, _, .step h _ _ t, .last k => absurd rfl t.ne
  | _, _, _, _, .step (f := f) h _ _ t, .step (f := f') k _ _ u => by
    obtain rfl := Option.some.inj (h.symm.trans k)
    exact OnWay.same t u

section
variable {A B : Option Addr} {n c m k : Nat} {S : List MsgV} {root d : Int} {p : ByteArray} {bs : List UInt8} {w : World}

theorem pFind_bad (hs : SchemaAt w A n c S) (hb : BytesAt w B m k bs) (hm : m ≤ 1000000000) (hp : p.size ≤ maxLen) {K : Nat} (hK : (wayAtV (S.map MsgV.d) root d p bs).2 = K) (h0 : K ≠ 0) :
    Calls Tryz.prog 44 #[.slice A n c, .int .i64 root, .slice B m k, .int .i64 d, .string p] w fun e w' => e = .returned (.tuple #[foundV noField none 0 0, .int .u8 (K : Int)]) ∧ Ext w w' := by
  refine (pFind (root := root) (d := d) hs hb hm hp).mono ?_
  rintro e w' (⟨_, h1, h2⟩ | ⟨h1, _⟩)
  · rw [hK] at h1
    exact ⟨h1, h2⟩
  · exact absurd (hK.symm.trans h1) h0

def atP (S : List MsgD) (root d : Int) (p : ByteArray) (bs : List UInt8) : List (List UInt8) := piecesW S root.toNat bs (wayAtV S root d p bs).1

theorem pFind_ok (hs : SchemaAt w A n c S) (hb : BytesAt w B m k bs) (hm : m ≤ 1000000000) (hp : p.size ≤ maxLen) (hK : (wayAtV (S.map MsgV.d) root d p bs).2 = 0) {f : FieldD} (hf : OnWay (S.map MsgV.d) root.toNat (wayAtV (S.map MsgV.d) root d p bs).1 f) :
    Calls Tryz.prog 44 #[.slice A n c, .int .i64 root, .slice B m k, .int .i64 d, .string p] w fun e w' => ∃ l A' n' c', e = .returned (.tuple #[foundV f A' n' c', .int .u8 0]) ∧ BRowsAt w' A' n' c' l ∧ bytesR l = atP (S.map MsgV.d) root d p bs ∧ Ext w w' ∧ InS (fun q => w.heap.size ≤ q) A' := by
  refine (pFind (root := root) (d := d) hs hb hm hp).mono ?_
  rintro e w' (⟨h1, _⟩ | ⟨_, g, l, A', n', c', h1, h2, h3, h4, h5⟩)
  · exact absurd hK h1
  · obtain rfl := hf.same h1
    exact ⟨l, A', n', c', h2, h3, h4, h5⟩
end

theorem atP_le {S : List MsgD} {root d : Int} {p : ByteArray} {bs : List UInt8} {l : List BRow} {n : Nat} (h : bytesR l = atP S root d p bs) (hb : bs.length ≤ 1000000000) (hn : l.length = n) : (flatR l).length ≤ 1000000000 ∧ n ≤ 1000000000 := by
  have := piecesW_le S (wayAtV S root d p bs).1 root.toNat bs
  have h2 := congrArg List.length h
  unfold bytesR at h2
  rw [List.length_map] at h2
  rw [flat_rows, h]
  unfold atP at h2 ⊢
  omega

def gotV (f : FieldD) (ps : List (List UInt8)) : List UInt8 × Nat := if thereP f ps = true then (loadP f ps, 0) else ([], 11)

theorem there_pos {f : FieldD} {ps : List (List UInt8)} (h : thereP f ps = true) (hr : f.rep = false) : 0 < ps.length := by
  unfold thereP at h
  rw [if_neg (by unfold runP; rw [hr]; simp)] at h
  simpa using h

set_option maxRecDepth 100000 in
set_option maxHeartbeats 1000000 in
theorem pThings {f : FieldD} {A : Option Addr} {n c : Nat} {l : List BRow} {w : World} (hb : BRowsAt w A n c l) (hl : (flatR l).length ≤ 1000000000) (hn : n ≤ 1000000000) :
    Calls Tryz.prog 47 #[foundV f A n c] w fun e w' => e = .returned (.int .i64 (thingsP f (bytesR l) : Nat)) ∧ Ext w w' := by
  have hth := fun W (h : BRowsAt W A n c l) => pThere (f := f) h hl
  have hnu := fun W => pNumbers (f := f) (A := A) (n := n) (c := c) (w := W)
  have hlo := fun W (h : BRowsAt W A n c l) hne => pLoad (f := f) h hl hn hne
  have hbl := hb.length
  have hpl : (bytesR l).length = n := by unfold bytesR; rw [List.length_map]; exact hbl
  have hB := BlkT.new w 79 (foundC f A n c) rfl
  have X0 : Ext w (w.alloc (.cells (foundC f A n c) 79)) := (by repeat with_reducible (first | exact Ext.refl _ | refine Ext.alloc ?_ _ | refine Ext.drew ?_ | refine Ext.drewN ?_ _ | refine Ext.setCell ?_ (by first | exact Nat.le_refl _ | omega | (simp; done) | (simp; omega)) _))
  have hll : (loadP f (bytesR l)).length ≤ 1000000000 ∨ runP f = false := by
    by_cases hr : runP f = true
    · rw [load_run hr, ← flat_rows]; exact .inl hl
    · exact .inr (by simpa using hr)
  have hv : thingsP f (bytesR l) = if thereP f (bytesR l) = false then 0 else if runP f = true then countV f.kind (loadP f (bytesR l)) else if f.rep = true then n else 1 := by unfold thingsP; rw [hpl]
  rw [hv]
  have hrn : runP f = true → f.rep = true := fun h => by unfold runP at h; simp at h; exact h.1
  have Hb := Lib.hid hb
  clear hv hpl hbl hb hl
  obtain ⟨fname, fnum, fkind, frep, fpk, fof⟩ := f
  simp only [foundC, foundV] at *
  generalize loadP ⟨fname, fnum, fkind, frep, fpk, fof⟩ (bytesR l) = LD at *
  rcases ht : thereP ⟨fname, fnum, fkind, frep, fpk, fof⟩ (bytesR l) with _ | _
  · rw [ht] at hth
    have Hth := Lib.hid hth
    rw [if_pos rfl]
    clear ht hth hnu hlo hll hrn
    go_enter Tryz.func47, Tryz.ntmps47
    go_wp2_with (go_at_call 45; refine (Hth.out _ (Hb.out.up X0)).mono ?_; rintro e w1 ⟨rfl, E1⟩)
    go_ret
    exact ⟨rfl, X0.trans E1⟩
  · rw [ht] at hth
    have Hth := Lib.hid hth
    rw [if_neg (by simp)]
    rcases hr : runP ⟨fname, fnum, fkind, frep, fpk, fof⟩ with _ | _
    · rw [hr] at hnu
      have Hnu := Lib.hid hnu
      rw [if_neg (by simp)]
      clear ht hth hnu hlo hll hrn hr
      cases frep with
      | false =>
        rw [if_neg (by simp)]
        go_enter Tryz.func47, Tryz.ntmps47
        go_wp2_with (first
          | (go_at_call 45; refine (Hth.out _ (Hb.out.up X0)).mono ?_; rintro e w1 ⟨rfl, E1⟩; replace hB := hB.up E1; have X1 := X0.trans E1; have c0 : w1.cell? ⟨w.heap.size, 0, none⟩ = some (.string fname) := hB.cell 0; have c1 : w1.cell? ⟨w.heap.size, 1, none⟩ = some (.int .i64 fnum) := hB.cell 1; have c2 : w1.cell? ⟨w.heap.size, 2, none⟩ = some (.int .i64 fkind) := hB.cell 2; have c3 : w1.cell? ⟨w.heap.size, 3, none⟩ = some (.bool false) := hB.cell 3; have c4 : w1.cell? ⟨w.heap.size, 4, none⟩ = some (.bool fpk) := hB.cell 4; have c5 : w1.cell? ⟨w.heap.size, 5, none⟩ = some (.int .i64 fof) := hB.cell 5; have c6 : w1.cell? ⟨w.heap.size, 6, none⟩ = some (.slice A n c) := hB.cell 6; have cl := hB.lt)
          | (go_at_call 76; refine (Hnu.out _).mono ?_; rintro e w2 ⟨rfl, E2⟩; have X2 := X1.trans E2; replace c3 := E2.of_cell c3; replace cl := Nat.lt_of_lt_of_le cl E2.size))
        go_ret
        exact ⟨rfl, X2⟩
      | true =>
        rw [if_pos rfl]
        go_enter Tryz.func47, Tryz.ntmps47
        go_wp2_with (first
          | (go_at_call 45; refine (Hth.out _ (Hb.out.up X0)).mono ?_; rintro e w1 ⟨rfl, E1⟩; replace hB := hB.up E1; have X1 := X0.trans E1; have c0 : w1.cell? ⟨w.heap.size, 0, none⟩ = some (.string fname) := hB.cell 0; have c1 : w1.cell? ⟨w.heap.size, 1, none⟩ = some (.int .i64 fnum) := hB.cell 1; have c2 : w1.cell? ⟨w.heap.size, 2, none⟩ = some (.int .i64 fkind) := hB.cell 2; have c3 : w1.cell? ⟨w.heap.size, 3, none⟩ = some (.bool true) := hB.cell 3; have c4 : w1.cell? ⟨w.heap.size, 4, none⟩ = some (.bool fpk) := hB.cell 4; have c5 : w1.cell? ⟨w.heap.size, 5, none⟩ = some (.int .i64 fof) := hB.cell 5; have c6 : w1.cell? ⟨w.heap.size, 6, none⟩ = some (.slice A n c) := hB.cell 6; have cl := hB.lt)
          | (go_at_call 76; refine (Hnu.out _).mono ?_; rintro e w2 ⟨rfl, E2⟩; have X2 := X1.trans E2; replace c3 := E2.of_cell c3; replace c6 := E2.of_cell c6; replace cl := Nat.lt_of_lt_of_le cl E2.size))
        go_ret
        exact ⟨rfl, X2⟩
    · rw [hr] at hnu
      have Hnu := Lib.hid hnu
      rw [if_pos rfl]
      obtain rfl := hrn hr
      have hlo2 := fun W (h : BRowsAt W A n c l) => hlo W h (fun h => by cases h)
      have hln : LD.length ≤ 1000000000 := hll.resolve_right (by rw [hr]; simp)
      obtain ⟨ll, hll2⟩ : ∃ ll, ll = LD.length := ⟨_, rfl⟩
      rw [← hll2] at hlo2 hln
      have hct := fun W A' c' (q : BytesAt W A' ll c' LD) => uCount (k := fkind) q hln
      have Hlo := Lib.hid hlo2
      have Hct := Lib.hid hct
      clear ht hth hnu hlo hll hrn hr hlo2 hct hll2
      go_enter Tryz.func47, Tryz.ntmps47
      go_wp2_with (first
        | (go_at_call 45; refine (Hth.out _ (Hb.out.up X0)).mono ?_; rintro e w1 ⟨rfl, E1⟩; replace hB := hB.up E1; have X1 := X0.trans E1; have c0 : w1.cell? ⟨w.heap.size, 0, none⟩ = some (.string fname) := hB.cell 0; have c1 : w1.cell? ⟨w.heap.size, 1, none⟩ = some (.int .i64 fnum) := hB.cell 1; have c2 : w1.cell? ⟨w.heap.size, 2, none⟩ = some (.int .i64 fkind) := hB.cell 2; have c3 : w1.cell? ⟨w.heap.size, 3, none⟩ = some (.bool true) := hB.cell 3; have c4 : w1.cell? ⟨w.heap.size, 4, none⟩ = some (.bool fpk) := hB.cell 4; have c5 : w1.cell? ⟨w.heap.size, 5, none⟩ = some (.int .i64 fof) := hB.cell 5; have c6 : w1.cell? ⟨w.heap.size, 6, none⟩ = some (.slice A n c) := hB.cell 6; have cl := hB.lt)
        | (go_at_call 76; refine (Hnu.out _).mono ?_; rintro e w2 ⟨rfl, E2⟩; have X2 := X1.trans E2; replace hB := hB.up E2; clear c0 c1 c2 c3 c4 c5 c6 cl))
      have c0 : w2.cell? ⟨w.heap.size, 0, none⟩ = some (.string fname) := hB.cell 0
      have c1 : w2.cell? ⟨w.heap.size, 1, none⟩ = some (.int .i64 fnum) := hB.cell 1
      have c2 : w2.cell? ⟨w.heap.size, 2, none⟩ = some (.int .i64 fkind) := hB.cell 2
      have c3 : w2.cell? ⟨w.heap.size, 3, none⟩ = some (.bool true) := hB.cell 3
      have c4 : w2.cell? ⟨w.heap.size, 4, none⟩ = some (.bool fpk) := hB.cell 4
      have c5 : w2.cell? ⟨w.heap.size, 5, none⟩ = some (.int .i64 fof) := hB.cell 5
      have c6 : w2.cell? ⟨w.heap.size, 6, none⟩ = some (.slice A n c) := hB.cell 6
      have cl := hB.lt
      go_region_held3 (fun W => Ext w2 W ∧ ∀ b o, b < w2.heap.size → W.cell? ⟨b, o, none⟩ = w2.cell? ⟨b, o, none⟩) ((refine Ext.keep ?_; repeat with_reducible (first | assumption | exact Ext.refl _ | refine Ext.alloc ?_ _ | refine Ext.drew ?_ | refine Ext.drewN ?_ _ | refine Ext.setCell ?_ (by first | exact Nat.le_refl _ | omega | (simp; done) | (simp; omega)) _))) (first
        | (go_split_ands; go_at_call 46; refine (Hlo.out _ (Hb.out.up (X2.trans (by with_reducible assumption)))).mono ?_; rintro e w3 ⟨A3, k3, rfl, own3⟩; have q3 : Ext w2 w3 := Ext.trans (by with_reducible assumption) own3.ext; have rd3 := own3.reads)
        | (go_split_ands; go_at_call 79; refine (Hct.out _ _ _ (rd3.ext (by repeat with_reducible (first | exact Ext.refl _ | refine Ext.alloc ?_ _ | refine Ext.drew ?_ | refine Ext.drewN ?_ _ | refine Ext.setCell ?_ (by first | exact Nat.le_refl _ | omega | (simp; done) | (simp; omega)) _)))).mono ?_; rintro e w4 ⟨rfl, E4⟩; have q4 : Ext w2 w4 := Ext.trans (by with_reducible assumption) E4))
      all_goals
        go_wp2
        go_ret
        exact ⟨rfl, X2.trans q4⟩

end Go.Proofs.YtpicpebolghcfaaGreatDoor

/- Contracts of layer 22: Get, Count, Item. -/


namespace Go.Proofs.YtpicpebolghcfaaGreatDoor
open Go.RowKit Go.Shelf
set_option linter.unusedVariables false
set_option linter.unusedSimpArgs false

section
variable {A B : Option Addr} {n c m k : Nat} {S : List MsgV} {root d : Int} {p : ByteArray} {bs : List UInt8} {w : World}

set_option maxRecDepth 100000 in
set_option maxHeartbeats 1000000 in
theorem pGet_ok (hs : SchemaAt w A n c S) (hb : BytesAt w B m k bs) (hm : m ≤ 1000000000) (hp : p.size ≤ maxLen) (hK : (wayAtV (S.map MsgV.d) root d p bs).2 = 0) {f : FieldD} (hf : OnWay (S.map MsgV.d) root.toNat (wayAtV (S.map MsgV.d) root d p bs).1 f) :
    Calls Tryz.prog 16 #[.slice A n c, .int .i64 root, .slice B m k, .int .i64 d, .string p] w fun e w' => ∃ A' c', e = .returned (.tuple #[.slice A' (gotV f (atP (S.map MsgV.d) root d p bs)).1.length c', .int .u8 ((gotV f (atP (S.map MsgV.d) root d p bs)).2 : Nat)]) ∧
      Own w w' 5 1 A' (gotV f (atP (S.map MsgV.d) root d p bs)).1.length c' ((gotV f (atP (S.map MsgV.d) root d p bs)).1.map bv) := by
  have hfi := fun W (a : SchemaAt W A n c S) (b : BytesAt W B m k bs) => pFind_ok (root := root) (d := d) a b hm hp hK hf
  have Hfi := Lib.hid hfi
  have ha : ∀ (l : List BRow) (n : Nat), bytesR l = atP (S.map MsgV.d) root d p bs → l.length = n → (flatR l).length ≤ 1000000000 ∧ n ≤ 1000000000 := fun l n h1 h2 => atP_le h1 (by have := hb.length; omega) h2
  clear hfi hK hf
  unfold gotV
  generalize atP (S.map MsgV.d) root d p bs = ps at Hfi ha ⊢
  have HA := Lib.hid ha
  clear ha
  obtain ⟨fname, fnum, fkind, frep, fpk, fof⟩ := f
  rcases ht : thereP ⟨fname, fnum, fkind, frep, fpk, fof⟩ ps with _ | _
  · have Ht := Lib.hid ht
    rw [if_neg (by simp)]
    clear ht
    go_enter Tryz.func16, Tryz.ntmps16
    go_wp2_with (go_at_call 44; refine (Hfi.out _ hs hb).mono ?_; rintro e w1 ⟨l, A1, n1, c1', rfl, hB1, hps, E1, _⟩; unfold foundV; obtain ⟨hle, hn1⟩ := HA.out _ _ hps hB1.length; have hB := BlkT.new w1 79 (foundC ⟨fname, fnum, fkind, frep, fpk, fof⟩ A1 n1 c1') rfl; unfold foundC at hB; have X1 : Ext w1 (w1.alloc (.cells #[.string fname, .int .i64 fnum, .int .i64 fkind, .bool frep, .bool fpk, .int .i64 fof, .slice A1 n1 c1'] 79)) := (by repeat with_reducible (first | exact Ext.refl _ | refine Ext.alloc ?_ _ | refine Ext.drew ?_ | refine Ext.drewN ?_ _ | refine Ext.setCell ?_ (by first | exact Nat.le_refl _ | omega | (simp; done) | (simp; omega)) _)); have hth := fun W (h : Ext w1 W) => pThere (f := ⟨fname, fnum, fkind, frep, fpk, fof⟩) (hB1.up h) hle; have htg := fun W (h : Ext w1 W) => pThings (f := ⟨fname, fnum, fkind, frep, fpk, fof⟩) (hB1.up h) hle hn1; rw [hps] at hth htg; unfold foundV at hth htg; have Hth := Lib.hid hth; have Htg := Lib.hid htg; have Hps := Lib.hid hps; clear hth htg hps)
    generalize w1.alloc (.cells #[.string fname, .int .i64 fnum, .int .i64 fkind, .bool frep, .bool fpk, .int .i64 fof, .slice A1 n1 c1'] 79) = wx at *
    have c0 : wx.cell? ⟨w1.heap.size, 0, none⟩ = some (.string fname) := hB.cell 0
    have c1 : wx.cell? ⟨w1.heap.size, 1, none⟩ = some (.int .i64 fnum) := hB.cell 1
    have c2 : wx.cell? ⟨w1.heap.size, 2, none⟩ = some (.int .i64 fkind) := hB.cell 2
    have c3 : wx.cell? ⟨w1.heap.size, 3, none⟩ = some (.bool frep) := hB.cell 3
    have c4 : wx.cell? ⟨w1.heap.size, 4, none⟩ = some (.bool fpk) := hB.cell 4
    have c5 : wx.cell? ⟨w1.heap.size, 5, none⟩ = some (.int .i64 fof) := hB.cell 5
    have c6 : wx.cell? ⟨w1.heap.size, 6, none⟩ = some (.slice A1 n1 c1') := hB.cell 6
    have cl := hB.lt
    replace Hth := Hth.out
    rw [Ht.out] at Hth
    have Hth2 := Lib.hid Hth
    clear Hth
    go_wp2_with (go_at_call 45; refine (Hth2.out _ X1).mono ?_; rintro e w2 ⟨rfl, E2⟩)
    go_ret2
    exact ⟨none, 0, rfl, Own.nil ((E1.trans X1).trans E2) _ 1⟩
  · have Ht := Lib.hid ht
    rw [if_pos rfl]
    clear ht
    go_enter Tryz.func16, Tryz.ntmps16
    go_wp2_with (go_at_call 44; refine (Hfi.out _ hs hb).mono ?_; rintro e w1 ⟨l, A1, n1, c1', rfl, hB1, hps, E1, _⟩; unfold foundV; obtain ⟨hle, hn1⟩ := HA.out _ _ hps hB1.length; have hB := BlkT.new w1 79 (foundC ⟨fname, fnum, fkind, frep, fpk, fof⟩ A1 n1 c1') rfl; unfold foundC at hB; have X1 : Ext w1 (w1.alloc (.cells #[.string fname, .int .i64 fnum, .int .i64 fkind, .bool frep, .bool fpk, .int .i64 fof, .slice A1 n1 c1'] 79)) := (by repeat with_reducible (first | exact Ext.refl _ | refine Ext.alloc ?_ _ | refine Ext.drew ?_ | refine Ext.drewN ?_ _ | refine Ext.setCell ?_ (by first | exact Nat.le_refl _ | omega | (simp; done) | (simp; omega)) _)); have hth := fun W (h : Ext w1 W) => pThere (f := ⟨fname, fnum, fkind, frep, fpk, fof⟩) (hB1.up h) hle; have htg := fun W (h : Ext w1 W) => pThings (f := ⟨fname, fnum, fkind, frep, fpk, fof⟩) (hB1.up h) hle hn1; rw [hps] at hth htg; unfold foundV at hth htg; have Hth := Lib.hid hth; have Htg := Lib.hid htg; have Hps := Lib.hid hps; clear hth htg hps)
    have hlo := fun W (h : Ext w1 W) => pLoad (f := ⟨fname, fnum, fkind, frep, fpk, fof⟩) (hB1.up h) hle hn1 (fun hr => .inl (by have := there_pos Ht.out hr; rw [← Hps.out] at this; unfold bytesR at this; rw [List.length_map, hB1.length] at this; exact this))
    rw [Hps.out] at hlo
    unfold foundV at hlo
    have Hlo := Lib.hid hlo
    clear hlo
    generalize w1.alloc (.cells #[.string fname, .int .i64 fnum, .int .i64 fkind, .bool frep, .bool fpk, .int .i64 fof, .slice A1 n1 c1'] 79) = wx at *
    have c0 : wx.cell? ⟨w1.heap.size, 0, none⟩ = some (.string fname) := hB.cell 0
    have c1 : wx.cell? ⟨w1.heap.size, 1, none⟩ = some (.int .i64 fnum) := hB.cell 1
    have c2 : wx.cell? ⟨w1.heap.size, 2, none⟩ = some (.int .i64 fkind) := hB.cell 2
    have c3 : wx.cell? ⟨w1.heap.size, 3, none⟩ = some (.bool frep) := hB.cell 3
    have c4 : wx.cell? ⟨w1.heap.size, 4, none⟩ = some (.bool fpk) := hB.cell 4
    have c5 : wx.cell? ⟨w1.heap.size, 5, none⟩ = some (.int .i64 fof) := hB.cell 5
    have c6 : wx.cell? ⟨w1.heap.size, 6, none⟩ = some (.slice A1 n1 c1') := hB.cell 6
    have cl := hB.lt
    replace Hth := Hth.out
    rw [Ht.out] at Hth
    have Hth2 := Lib.hid Hth
    clear Hth
    obtain ⟨LD, hLD⟩ : ∃ LD, LD = loadP ⟨fname, fnum, fkind, frep, fpk, fof⟩ ps := ⟨_, rfl⟩
    rw [← hLD] at Hlo
    have HLD := Lib.hid hLD
    clear hLD
    go_wp2_with (first
      | (go_at_call 45; refine (Hth2.out _ X1).mono ?_; rintro e w2 ⟨rfl, E2⟩; replace c0 := E2.of_cell c0; replace c1 := E2.of_cell c1; replace c2 := E2.of_cell c2; replace c3 := E2.of_cell c3; replace c4 := E2.of_cell c4; replace c5 := E2.of_cell c5; replace c6 := E2.of_cell c6; replace cl := Nat.lt_of_lt_of_le cl E2.size)
      | (go_at_call 46; refine (Hlo.out _ (X1.trans E2)).mono ?_; rintro e w3 ⟨A3, k3, rfl, own3⟩))
    go_ret2
    rw [← HLD.out]
    exact ⟨A3, k3, rfl, own3.since ((E1.trans X1).trans E2)⟩

end

end Go.Proofs.YtpicpebolghcfaaGreatDoor

/- Contracts of layer 22: Item. -/


namespace Go.Proofs.YtpicpebolghcfaaGreatDoor
open Go.RowKit Go.Shelf
set_option linter.unusedVariables false
set_option linter.unusedSimpArgs false

theorem load_small {f : FieldD} {ps : List (List UInt8)} (hk : numberB f.kind = true) (h : ps.flatten.length ≤ 1000000000) : (loadP f ps).length ≤ 1000000000 := by
  unfold loadP
  split
  · exact h
  · rename_i h1
    split
    · unfold lastP
      rcases hl : ps.getLast? with _ | b
      · simp
      · have := piece_le (List.mem_of_getLast? hl)
        simp only [Option.getD_some]
        omega
    · rename_i h2
      exact absurd (.inl (by unfold runP; rw [hk]; simpa using h2)) h1

section
variable {A B : Option Addr} {n c m k : Nat} {S : List MsgV} {root d : Int} {p : ByteArray} {bs : List UInt8} {w : World}

end

end Go.Proofs.YtpicpebolghcfaaGreatDoor
