/- The document's answers for 13 and 21: the way of names, of a path. -/
import Derived.Test.YtpicpebolghcfaaGreatDoorQjW73
import Derived.Deep.RegionHeld3

namespace Go.Proofs.YtpicpebolghcfaaGreatDoor
open Go.RowKit Go.Shelf
set_option linter.unusedVariables false

theorem wayV_len {S : List MsgD} : ∀ {l : List ByteArray} {m : Nat} {way : List Int}, wayV S m l = some way → way.length = l.length
  | [], m, way, h => by
    unfold wayV at h
    injection h with h
    rw [← h]
    rfl
  | s :: l, m, way, h => by
    unfold wayV at h
    split at h
    · cases h
    · split at h
      · cases h
      · split at h
        · rename_i hl
          injection h with h
          rw [← h, hl]
          rfl
        · split at h
          · cases h
          · rename_i f _ _ _
            rcases hw : wayV S f.of_.toNat l with _ | way'
            · rw [hw] at h; cases h
            · rw [hw] at h
              injection h with h
              rw [← h]
              simp [wayV_len hw]

set_option maxRecDepth 100000 in
set_option maxHeartbeats 4000000 in
theorem rWay {S : List MsgV} (hR : rightS (S.map MsgV.d) = true) : ∀ (l : List ByteArray) (m : Nat) {A C : Option Addr} {n c k kc : Nat} {w : World}, SchemaAt w A n c S → m < n → NamesAt w C k kc l → 0 < k → k ≤ 1000 →
    Calls Tryz.prog 64 #[.slice A n c, .int .i64 (m : Int), .slice C k kc] w (LeadPost (S.map MsgV.d) m l w)
  | [], m, A, C, n, c, k, kc, w, hs, hm, hn, hk, hk2 => by
    have := hn.len
    simp at this
    omega
  | s :: l, m, A, C, n, c, k, kc, w, hs, hm, hn, hk, hk2 => by
    have ih := fun (m' : Nat) {A C : Option Addr} {n c k kc : Nat} {w : World} (a : SchemaAt w A n c S) b (d : NamesAt w C k kc l) e f => rWay hR l m' a b d e f
    have hSl := hs.length
    have hll : l.length + 1 = k := by have := hn.len; rw [List.length_map, Nat.mul_one] at this; simpa using this
    obtain ⟨cutA, hcut, hrest⟩ := cut_from elemNm hn .i64 (l := 1) (by omega)
    have hcut1 : ∀ W : World, (Instr.slice 38 (.slice C k kc) (some (.int .i64 1)) none none).run Tryz.prog W = .ok (.slice cutA (k - 1) (kc - 1)) W := hcut
    have hrest1 : NamesAt w cutA (k - 1) (kc - 1) l := by simpa using hrest
    obtain ⟨nb, no, s', rfl, hsn, hnb, n0⟩ := NamesAt.name hn (k := 0) (by omega)
    obtain rfl : s = s' := by simpa using hsn
    simp only [Nat.add_zero] at n0
    obtain ⟨sb, so, ⟨⟨Mn, Mf⟩, MA, Mk, Mc⟩, rfl, hM, hF, hMn, hsb, s0, s1⟩ := hs.msg hm
    simp only at hF hMn s0 s1
    have hM' : (S.map MsgV.d)[m]? = some ⟨Mn, Mf⟩ := by rw [List.getElem?_map, hM]; rfl
    have hFl := hF.length
    have hF2 := (right_msg hR hM').2.2.1
    simp only at hF2
    have hMk : Mk ≤ 1000000000000 := by omega
    have hmi : (m : Int) < n := by omega
    have hki : (0 : Int) < k := by omega
    have hnd := fun W (h : Ext w W) => rNamed (s := Mn) (t := s) (hF.up h) hMk
    rcases idxB_cases (fnameP s) Mf with ⟨hI, _⟩ | ⟨j, f, hI, hf, _, _⟩
    · have hno := way_none (l := l) hM' hI
      rw [hI] at hnd
      have HN := Lib.hid hno
      have Hnd := Lib.hid hnd
      clear hno hI hM hM' hsn hF hFl hF2 hnd ih hcut hrest hcut1 hrest1 hs hn hR
      go_enter Tryz.func64, Tryz.ntmps64
      go_wp2_with fail
      go_region_held3 (fun W => Ext w W ∧ ∀ b o, b < w.heap.size → W.cell? ⟨b, o, none⟩ = w.cell? ⟨b, o, none⟩) ((refine Ext.keep ?_; repeat with_reducible (first | assumption | exact Ext.refl _ | refine Ext.alloc ?_ _ | refine Ext.drew ?_ | refine Ext.drewN ?_ _ | refine Ext.setCell ?_ (by first | exact Nat.le_refl _ | omega | (simp; done) | (simp; omega)) _))) (first | (go_split_ands; go_at_call 99; refine (Hnd.out _ (by with_reducible assumption)).mono ?_; rintro e w1 ⟨rfl, E1⟩; have q0 : Ext w w1 := Ext.trans (by with_reducible assumption) E1))
      all_goals
        go_wp2
        go_ret2
        exact .inl ⟨HN.out, rfl, q0⟩
    · rw [hI] at hnd
      have hjl : j < Mk := by have := (List.getElem?_eq_some_iff.1 hf).1; omega
      have hji : (j : Int) < Mk := by omega
      have hws := way_some (l := l) hM' hI hf
      have hof := fun (h : f.kind = 17) => right_of hR hM' hf h
      obtain ⟨fb, fo, f', rfl, hf', hok, hfb, c0, c1, c2, c3, c4, c5⟩ := hF.field hjl
      obtain rfl : f' = f := Option.some.inj (hf'.symm.trans hf)
      obtain ⟨fname, fnum, fkind, frep, fpk, fof⟩ := f'
      simp only at c0 c1 c2 c3 c4 c5 hws hof
      have Hnd := Lib.hid hnd
      have Hs := Lib.hid hs
      have Hr := Lib.hid hrest1
      clear hI hM hM' hsn hF hFl hF2 hnd hcut hrest hs hn hR hf hf' hok hrest1
      go_enter Tryz.func64, Tryz.ntmps64
      go_wp2_with fail
      go_region_held3 (fun W => Ext w W ∧ ∀ b o, b < w.heap.size → W.cell? ⟨b, o, none⟩ = w.cell? ⟨b, o, none⟩) ((refine Ext.keep ?_; repeat with_reducible (first | assumption | exact Ext.refl _ | refine Ext.alloc ?_ _ | refine Ext.drew ?_ | refine Ext.drewN ?_ _ | refine Ext.setCell ?_ (by first | exact Nat.le_refl _ | omega | (simp; done) | (simp; omega)) _))) (first | (go_split_ands; go_at_call 99; refine (Hnd.out _ (by with_reducible assumption)).mono ?_; rintro e w1 ⟨rfl, E1⟩; have q0 : Ext w w1 := Ext.trans (by with_reducible assumption) E1))
      rename Ext w w1 ∧ _ => hS
      clear hS
      replace c0 := q0.of_cell c0
      replace c1 := q0.of_cell c1
      replace c2 := q0.of_cell c2
      replace c3 := q0.of_cell c3
      replace c4 := q0.of_cell c4
      replace c5 := q0.of_cell c5
      replace s0 := q0.of_cell s0
      replace s1 := q0.of_cell s1
      replace hfb := Nat.lt_of_lt_of_le hfb q0.size
      replace hsb := Nat.lt_of_lt_of_le hsb q0.size
      clear n0 hnb
      have hjn : ¬ (j : Int) < 0 := by omega
      by_cases hl : l = []
      · subst hl
        rw [if_pos rfl] at hws
        have q : ((k : Int) == 1) = true := by rw [beq_iff_eq]; simp at hll; omega
        have HW := Lib.hid hws
        clear hws ih hll hof
        go_wp2
        go_ret2
        have own := Own.made (q0.alloc (.cells #[.string fname, .int .i64 fnum, .int .i64 fkind, .bool frep, .bool fpk, .int .i64 fof] 43)) 3 1 (cs := [.int .i64 fnum]) (n := 1) (by simp [maxLen]) rfl
        exact .inr ⟨[fnum], some ⟨w1.heap.size + 1, 0, none⟩, 1, HW.out, rfl, by simpa [wyV] using own⟩
      · have hlp : 0 < l.length := List.length_pos_iff.2 hl
        have q : ((k : Int) == 1) = false := by rw [beq_eq_false_iff_ne]; omega
        rw [if_neg hl] at hws
        have Hl := Lib.hid hll
        have Hlp := Lib.hid hlp
        clear hl hll hlp
        by_cases hr : frep = true
        · rw [if_pos (.inl hr)] at hws
          have HW := Lib.hid hws
          clear hws ih hof
          subst hr
          go_wp2
          go_ret2
          exact .inl ⟨HW.out, rfl, (by repeat with_reducible (first | exact q0 | exact Ext.refl _ | refine Ext.alloc ?_ _ | refine Ext.drew ?_ | refine Ext.drewN ?_ _ | refine Ext.setCell ?_ (by first | exact Nat.le_refl _ | omega | (simp; done) | (simp; omega)) _))⟩
        · rw [Bool.not_eq_true] at hr
          subst hr
          by_cases hk17 : fkind = 17
          · subst hk17
            rw [if_neg (by simp)] at hws
            obtain ⟨o, ho, ho2⟩ := hof rfl
            subst ho
            simp only [Int.toNat_natCast] at hws
            rw [List.length_map, hSl] at ho2
            have hrec := fun W (h : Ext w W) => ih o (w := W) (Hs.out.up h) ho2 (Hr.out.ext h) (by have := Hl.out; have := Hlp.out; omega) (by omega)
            have Hrec := Lib.hid hrec
            clear hof ih hrec
            go_wp2
            have X1 : Ext w1 (w1.alloc (.cells #[.string fname, .int .i64 fnum, .int .i64 17, .bool false, .bool fpk, .int .i64 (o : Int)] 43)) := (by repeat with_reducible (first | exact Ext.refl _ | refine Ext.alloc ?_ _ | refine Ext.drew ?_ | refine Ext.drewN ?_ _ | refine Ext.setCell ?_ (by first | exact Nat.le_refl _ | omega | (simp; done) | (simp; omega)) _))
            have B0 := BlkT.new w1 43 #[.string fname, .int .i64 fnum, .int .i64 17, .bool false, .bool fpk, .int .i64 (o : Int)] rfl
            generalize w1.alloc (.cells #[.string fname, .int .i64 fnum, .int .i64 17, .bool false, .bool fpk, .int .i64 (o : Int)] 43) = wx at *
            have g5 : wx.cell? ⟨w1.heap.size, 5, none⟩ = some (.int .i64 (o : Int)) := B0.cell 5
            have gl := B0.lt
            have X2 := q0.trans X1
            rcases hw : wayV (S.map MsgV.d) o l with _ | way
            · rw [hw] at hws
              have HW := Lib.hid hws
              have Hw := Lib.hid hw
              clear hws hw
              go_region_held3 (fun W => Ext wx W ∧ ∀ b o, b < wx.heap.size → W.cell? ⟨b, o, none⟩ = wx.cell? ⟨b, o, none⟩) ((refine Ext.keep ?_; repeat with_reducible (first | assumption | exact Ext.refl _ | refine Ext.alloc ?_ _ | refine Ext.drew ?_ | refine Ext.drewN ?_ _ | refine Ext.setCell ?_ (by first | exact Nat.le_refl _ | omega | (simp; done) | (simp; omega)) _))) (first | (go_split_ands; go_at_call 64; refine (Hrec.out _ (X2.trans (by with_reducible assumption))).mono ?_; rintro e w3 h3; obtain ⟨rfl, E3⟩ : e = .returned (.tuple #[.slice none 0 0, .bool false]) ∧ Ext _ w3 := (by rcases h3 with ⟨_, a, b⟩ | ⟨l', A3, c3, a, _⟩; exact ⟨a, b⟩; rw [Hw.out] at a; cases a); clear h3; have q3 : Ext wx w3 := Ext.trans (by with_reducible assumption) E3))
              rename Ext wx w3 ∧ _ => hS
              clear hS
              go_wp2
              go_ret2
              exact .inl ⟨HW.out, rfl, X2.trans q3⟩
            · rw [hw] at hws
              simp only [Option.map_some] at hws
              have HW := Lib.hid hws
              have Hw := Lib.hid hw
              have hwl : way.length ≤ 1000 := by have := wayV_len hw; have := Hl.out; omega
              have Hwl := Lib.hid hwl
              clear hws hw hwl
              go_region_held3 (fun W => Ext wx W ∧ ∀ b o, b < wx.heap.size → W.cell? ⟨b, o, none⟩ = wx.cell? ⟨b, o, none⟩) ((refine Ext.keep ?_; repeat with_reducible (first | assumption | exact Ext.refl _ | refine Ext.alloc ?_ _ | refine Ext.drew ?_ | refine Ext.drewN ?_ _ | refine Ext.setCell ?_ (by first | exact Nat.le_refl _ | omega | (simp; done) | (simp; omega)) _))) (first | (go_split_ands; go_at_call 64; refine (Hrec.out _ (X2.trans (by with_reducible assumption))).mono ?_; rintro e w3 h3; obtain ⟨A3, c3, rfl, r3, E3⟩ : ∃ A3 c3, e = .returned (.tuple #[.slice A3 way.length c3, .bool true]) ∧ Reads w3 A3 way.length c3 1 (way.map wyV) ∧ Ext _ w3 := (by rcases h3 with ⟨a, _⟩ | ⟨l', A3, c3, a, b, d⟩; rw [Hw.out] at a; cases a; rw [Hw.out] at a; cases a; exact ⟨A3, c3, b, d.reads, d.ext⟩); clear h3; have q3 : Ext wx w3 := Ext.trans (by with_reducible assumption) E3))
              rename Ext wx w3 ∧ _ => hS
              clear hS
              have B3 := B0.up q3
              have g1 : w3.cell? ⟨w1.heap.size, 1, none⟩ = some (.int .i64 fnum) := B3.cell 1
              have g1l := B3.lt
              clear g5 gl B0
              have own1 : Own w (w3.alloc (.cells #[.int .i64 fnum] 3)) 3 1 (some ⟨w3.heap.size, 0, none⟩) 1 1 [.int .i64 fnum] := Own.made (X2.trans q3) 3 1 (cs := [.int .i64 fnum]) (n := 1) (by simp [maxLen]) rfl
              have Hr3 := Lib.hid r3
              have Ho1 := Lib.hid own1
              clear r3 own1
              go_wp2_with (at_builtin; refine wpList_more elemWy rfl (.tmp 56) (.tmp 57) rfl rfl Ho1.out rfl (Hr3.out.ext (by repeat with_reducible (first | exact Ext.refl _ | refine Ext.alloc ?_ _ | refine Ext.drew ?_ | refine Ext.drewN ?_ _ | refine Ext.setCell ?_ (by first | exact Nat.le_refl _ | omega | (simp; done) | (simp; omega)) _))) (wyV_one _) (by have := Hwl.out; omega) (by unfold maxLen; have := Hwl.out; omega) ?_; intro A4 c4 w4 own4 _)
              go_ret2
              exact .inr ⟨fnum :: way, A4, c4, HW.out, ret_slv (by simp; omega), by simpa [wyV, Nat.add_comm] using own4⟩
          · rw [if_pos (.inr hk17)] at hws
            have q3 : (fkind != 17) = true := by rw [bne_iff_ne]; exact hk17
            have HW := Lib.hid hws
            clear hws ih hof hk17
            go_wp2
            go_ret2
            exact .inl ⟨HW.out, rfl, (by repeat with_reducible (first | exact q0 | exact Ext.refl _ | refine Ext.alloc ?_ _ | refine Ext.drew ?_ | refine Ext.drewN ?_ _ | refine Ext.setCell ?_ (by first | exact Nat.le_refl _ | omega | (simp; done) | (simp; omega)) _))⟩

set_option maxRecDepth 100000 in
theorem rResolve {A : Option Addr} {n c : Nat} {S : List MsgV} {root : Int} {p : ByteArray} {w : World} (hs : SchemaAt w A n c S) (hp : p.size ≤ 1000000000) :
    Calls Tryz.prog 35 #[.slice A n c, .int .i64 root, .string p] w (WayPost (S.map MsgV.d) root p .i64 w) := by
  have hl := hs.length
  have ha := fun W (h : SchemaAt W A n c S) => mArgsR (root := root) h
  unfold WayPost
  by_cases h0 : argsM (S.map MsgV.d) root = 0
  · rw [h0] at ha
    have Ha := Lib.hid ha
    obtain ⟨hR, hr1, hr2⟩ := argsM_0 h0
    rw [List.length_map, hl] at hr2
    obtain ⟨m, rfl⟩ : ∃ m : Nat, root = m := ⟨root.toNat, by omega⟩
    have hm : m < n := by omega
    have hsp := fun W => rSplit (w := W) hp
    have Hsp := Lib.hid hsp
    have Hs := Lib.hid hs
    rcases hnm : namesP p with _ | l
    · rw [resolve_name h0 hnm]
      have Hnm := Lib.hid hnm
      clear ha h0 hsp hnm hs hl hR
      go_enter Tryz.func35, Tryz.ntmps35
      go_wp2_with (first
        | (go_at_call 62; refine (Ha.out _ Hs.out).mono ?_; rintro e w1 ⟨rfl, E1⟩)
        | (go_at_call 63; refine (Hsp.out _).mono ?_; rintro e w2 h2; obtain ⟨rfl, E2⟩ : e = .returned (.tuple #[.slice none 0 0, .bool false]) ∧ Ext w1 w2 := (by rcases h2 with ⟨_, a, b⟩ | ⟨l, A, c, a, _⟩; exact ⟨a, b⟩; rw [Hnm.out] at a; cases a)))
      go_ret2
      exact ⟨none, 0, rfl, Own.nil (E1.trans E2) _ 1⟩
    · have hll := names_len hnm
      have hld := fun W (h : SchemaAt W A n c S) (C : Option Addr) (kc : Nat) (hn : NamesAt W C l.length kc l) => rWay hR l m h hm hn hll.1 (by omega)
      have Hld := Lib.hid hld
      have Hnm := Lib.hid hnm
      rcases hw : wayV (S.map MsgV.d) m l with _ | way
      · rw [resolve_way h0 hnm (by simpa using hw)]
        have Hw := Lib.hid hw
        clear ha h0 hsp hnm hs hl hR hld hw
        go_enter Tryz.func35, Tryz.ntmps35
        go_wp2_with (first
          | (go_at_call 62; refine (Ha.out _ Hs.out).mono ?_; rintro e w1 ⟨rfl, E1⟩)
          | (go_at_call 63; refine (Hsp.out _).mono ?_; rintro e w2 h2; obtain ⟨A2, c2, rfl, own2⟩ : ∃ A2 c2, e = .returned (.tuple #[.slice A2 l.length c2, .bool true]) ∧ Own w1 w2 9 1 A2 l.length c2 (l.map nmV) := (by rcases h2 with ⟨a, _⟩ | ⟨l', A2, c2, a, b, d⟩; rw [Hnm.out] at a; cases a; rw [Hnm.out] at a; cases a; exact ⟨A2, c2, b, d⟩); clear h2; have X2 := E1.trans own2.ext)
          | (go_at_call 64; refine (Hld.out _ (Hs.out.up X2) _ _ own2.reads).mono ?_; rintro e w3 h3; obtain ⟨rfl, E3⟩ : e = .returned (.tuple #[.slice none 0 0, .bool false]) ∧ Ext w2 w3 := (by rcases h3 with ⟨_, a, b⟩ | ⟨l', A3, c3, a, _⟩; exact ⟨a, b⟩; rw [Hw.out] at a; cases a)))
        go_ret2
        exact ⟨none, 0, rfl, Own.nil (X2.trans E3) _ 1⟩
      · rw [resolve_ok h0 hnm (by simpa using hw)]
        have Hw := Lib.hid hw
        clear ha h0 hsp hnm hs hl hR hld hw
        go_enter Tryz.func35, Tryz.ntmps35
        go_wp2_with (first
          | (go_at_call 62; refine (Ha.out _ Hs.out).mono ?_; rintro e w1 ⟨rfl, E1⟩)
          | (go_at_call 63; refine (Hsp.out _).mono ?_; rintro e w2 h2; obtain ⟨A2, c2, rfl, own2⟩ : ∃ A2 c2, e = .returned (.tuple #[.slice A2 l.length c2, .bool true]) ∧ Own w1 w2 9 1 A2 l.length c2 (l.map nmV) := (by rcases h2 with ⟨a, _⟩ | ⟨l', A2, c2, a, b, d⟩; rw [Hnm.out] at a; cases a; rw [Hnm.out] at a; cases a; exact ⟨A2, c2, b, d⟩); clear h2; have X2 := E1.trans own2.ext)
          | (go_at_call 64; refine (Hld.out _ (Hs.out.up X2) _ _ own2.reads).mono ?_; rintro e w3 h3; obtain ⟨A3, c3, rfl, own3⟩ : ∃ A3 c3, e = .returned (.tuple #[.slice A3 way.length c3, .bool true]) ∧ Own w2 w3 3 1 A3 way.length c3 (way.map wyV) := (by rcases h3 with ⟨a, _⟩ | ⟨l', A3, c3, a, b, d⟩; rw [Hw.out] at a; cases a; rw [Hw.out] at a; cases a; exact ⟨A3, c3, b, d⟩); clear h3))
        go_ret2
        exact ⟨A3, c3, rfl, own3.since X2⟩
  · rw [resolve_bad h0]
    have Ha := Lib.hid ha
    have hN : ((argsM (S.map MsgV.d) root : Nat) : Int) ≠ 0 := by omega
    have hN2 : (((argsM (S.map MsgV.d) root : Nat) : Int) != 0) = true := by rw [bne_iff_ne]; exact hN
    clear ha h0 hl hN
    generalize argsM (S.map MsgV.d) root = C at *
    go_enter Tryz.func35, Tryz.ntmps35
    go_wp2_with (go_at_call 62; refine (Ha.out _ hs).mono ?_; rintro e w1 ⟨rfl, E1⟩)
    go_ret2
    exact ⟨none, 0, rfl, Own.nil E1 _ 1⟩


def wayAtV (S : List MsgD) (root d : Int) (p : ByteArray) (bs : List UInt8) : List Int × Nat :=
  if argsV S root d ≠ 0 then ([], argsV S root d) else if (resolveV S root p).2 ≠ 0 then ([], (resolveV S root p).2) else ((resolveV S root p).1, (checkB S root bs d).2)

theorem resolve_nil {S : List MsgD} {root : Int} {p : ByteArray} (h : (resolveV S root p).2 ≠ 0) : (resolveV S root p).1 = [] := by
  unfold resolveV at h ⊢
  split
  · rfl
  · rename_i h0
    rw [if_neg h0] at h
    split
    · rfl
    · rename_i hn
      rw [hn] at h
      simp only at h
      split
      · rfl
      · rename_i hw
        rw [hw] at h
        exact absurd rfl h

set_option maxRecDepth 100000 in
theorem rResolve21 {A B : Option Addr} {n c m k : Nat} {S : List MsgV} {root d : Int} {p : ByteArray} {bs : List UInt8} {w : World} (hs : SchemaAt w A n c S) (hb : BytesAt w B m k bs) (hm : m ≤ 1000000000) (hp : p.size ≤ 1000000000) :
    Calls Tryz.prog 10 #[.slice A n c, .int .i64 root, .slice B m k, .int .i64 d, .string p] w fun e w' => ∃ A' c', e = .returned (.tuple #[.slice A' (wayAtV (S.map MsgV.d) root d p bs).1.length c', .int .i64 ((wayAtV (S.map MsgV.d) root d p bs).2 : Nat)]) ∧
      Own w w' 3 1 A' (wayAtV (S.map MsgV.d) root d p bs).1.length c' ((wayAtV (S.map MsgV.d) root d p bs).1.map wyV) := by
  have ha := fun W (h : SchemaAt W A n c S) => vArgsR (root := root) (d := d) h
  have hr := fun W (h : SchemaAt W A n c S) => rResolve (root := root) h hp
  have hc := fun W (h : SchemaAt W A n c S) (q : BytesAt W B m k bs) => vCheckR (root := root) (d := d) h q hm
  unfold WayPost at hr
  by_cases h0 : argsV (S.map MsgV.d) root d = 0
  · rw [h0] at ha
    by_cases h1 : (resolveV (S.map MsgV.d) root p).2 = 0
    · have e : wayAtV (S.map MsgV.d) root d p bs = ((resolveV (S.map MsgV.d) root p).1, (checkB (S.map MsgV.d) root bs d).2) := by unfold wayAtV; rw [if_neg (by simp [h0]), if_neg (by simp [h1])]
      rw [e]
      rw [h1] at hr
      simp only
      generalize (resolveV (S.map MsgV.d) root p).1 = way at *
      generalize checkB (S.map MsgV.d) root bs d = PK at hc ⊢
      obtain ⟨P, K⟩ := PK
      simp only at hc ⊢
      have Ha := Lib.hid ha
      have Hr := Lib.hid hr
      have Hc := Lib.hid hc
      clear ha hr hc h0 h1 e
      go_enter Tryz.func10, Tryz.ntmps10
      go_wp2_with (first
        | (go_at_call 34; refine (Ha.out _ hs).mono ?_; rintro e w1 ⟨rfl, E1⟩)
        | (go_at_call 35; refine (Hr.out _ (hs.up E1)).mono ?_; rintro e w2 ⟨A2, c2, rfl, own2⟩; have X2 := E1.trans own2.ext)
        | (go_at_call 36; refine (Hc.out _ (hs.up X2) (hb.up X2)).mono ?_; rintro e w3 ⟨rfl, E3⟩))
      go_ret2
      exact ⟨A2, c2, rfl, (own2.up E3).since E1⟩
    · have e : wayAtV (S.map MsgV.d) root d p bs = ([], (resolveV (S.map MsgV.d) root p).2) := by unfold wayAtV; rw [if_neg (by simp [h0]), if_pos h1]
      rw [e]
      rw [resolve_nil h1] at hr
      generalize (resolveV (S.map MsgV.d) root p).2 = K at *
      have q : ((K : Int) == 0) = false := by rw [beq_eq_false_iff_ne]; omega
      have Ha := Lib.hid ha
      have Hr := Lib.hid hr
      clear ha hr hc h0 h1 e
      go_enter Tryz.func10, Tryz.ntmps10
      go_wp2_with (first
        | (go_at_call 34; refine (Ha.out _ hs).mono ?_; rintro e w1 ⟨rfl, E1⟩)
        | (go_at_call 35; refine (Hr.out _ (hs.up E1)).mono ?_; rintro e w2 ⟨A2, c2, rfl, own2⟩; have X2 := E1.trans own2.ext))
      go_ret2
      exact ⟨A2, c2, rfl, own2.since E1⟩
  · have e : wayAtV (S.map MsgV.d) root d p bs = ([], argsV (S.map MsgV.d) root d) := by unfold wayAtV; rw [if_pos h0]
    rw [e]
    generalize argsV (S.map MsgV.d) root d = K at *
    have q : ((K : Int) != 0) = true := by rw [bne_iff_ne]; omega
    have Ha := Lib.hid ha
    clear ha hr hc h0 e
    go_enter Tryz.func10, Tryz.ntmps10
    go_wp2_with (go_at_call 34; refine (Ha.out _ hs).mono ?_; rintro e w1 ⟨rfl, E1⟩)
    go_ret2
    exact ⟨none, 0, rfl, Own.nil E1 _ 1⟩

end Go.Proofs.YtpicpebolghcfaaGreatDoor
