/- Contracts of layer 17: where a message may be cut. -/
import Derived.Test.YtpgbhgimjpbhoaaW17b
import Derived.Test.YtpgbhgimjpbhoaaS17
namespace Go.Proofs.Ytpgbhgimjpbhoaa
open Go.RowKit
set_option linter.unusedVariables false

theorem sameI {A B : Option Addr} {n c m d : Nat} {xs ys : List Nat} {w : World} (ha : IntsAt w A n c xs) (hb : IntsAt w B m d ys) (hn : n ≤ 1000000000000) :
    Calls Try.prog 18 #[.slice A n c, .slice B m d] w fun e w' => e = .returned (.bool (decide (xs = ys))) ∧ Ext w w' := by
  have hx : xs.length = n := by have := Reads.len ha; simpa using this
  have hy : ys.length = m := by have := Reads.len hb; simpa using this
  by_cases hnm : n = m
  · subst hnm
    have q1 : ((n : Int) != (n : Int)) = false := by simp
    go_enter Try.func18, Try.ntmps18
    go_wp2
    go_loopw [5] (fun i wr => ∃ k : Nat, k ≤ n ∧ i = .int .i64 k ∧ Ext w wr ∧ Hid (xs.take k = ys.take k)) (fun i _ => n - (intOf i).toNat)
    case atStart => exact ⟨0, Nat.zero_le _, rfl, Ext.refl _, rfl⟩
    case round =>
      obtain ⟨k, hk, rfl, hE, hT⟩ := hrel
      by_cases hlt : k < n
      · obtain ⟨b, off, x, rfl, hxk, hcx⟩ := IntsAt.num (Reads.ext ha hE) hlt
        obtain ⟨b', off', y, rfl, hyk, hcy⟩ := IntsAt.num (Reads.ext hb hE) hlt
        have Hx := Lib.hid hxk
        have Hy := Lib.hid hyk
        have Hlx := Lib.hid hx
        have Hly := Lib.hid hy
        have hltI : (k : Int) < n := by omega
        have hk0 : (0 : Int) ≤ k := by omega
        clear hxk hyk hx hy
        by_cases hxy : x = y
        · subst hxy
          have q2 : ((x : Int) != (x : Int)) = false := by simp
          go_wp2
          go_quiet (fail)
          go_wp2
          go_roundw
          case rel => exact ⟨k + 1, by omega, by go_num, hE.drewN _, by show _ = _; rw [take_snoc _ _ _ Hx.out, take_snoc _ _ _ Hy.out, hT.out]⟩
          case measure => simp [intOf]; omega
        · have q2 : ((x : Int) != (y : Int)) = true := by simp; omega
          have Hxy := Lib.hid hxy
          clear hxy
          go_wp2
          go_quiet (fail)
          go_wp2
          go_ret
          refine ⟨ret_bool (decide_eq_false ?_).symm, hE.drewN _⟩
          rintro rfl
          have := Hx.out.symm.trans Hy.out
          exact Hxy.out (by simpa using this)
      · have hkn : k = n := by omega
        subst hkn
        have hfin : xs = ys := by
          have := hT.out
          rwa [List.take_of_length_le (by omega), List.take_of_length_le (by omega)] at this
        have Hf := Lib.hid hfin
        clear hfin hx hy
        go_wp2
        go_ret
        exact ⟨ret_bool (decide_eq_true Hf.out).symm, hE⟩
  · have q1 : ((n : Int) != (m : Int)) = true := by simp; omega
    have hne : ¬ xs = ys := by rintro rfl; omega
    have Hne := Lib.hid hne
    clear hne hnm hx hy
    go_enter Try.func18, Try.ntmps18
    go_wp2
    go_ret
    exact ⟨ret_bool (decide_eq_false Hne.out).symm, Ext.refl _⟩

theorem mSplits_bad {A B : Option Addr} {n c n' c' : Nat} {S : List MsgV} {root d : Int} {bs : List UInt8} {w : World} (hs : SchemaAt w A n c S) (hb : BytesAt w B n' c' bs) (hn : n' ≤ 1000000000) {C : Nat} (hC : (checkB (S.map MsgV.d) root bs d).2 = C) (h0 : C ≠ 0) :
    Calls Try.prog 39 #[.slice A n c, .int .i64 root, .slice B n' c', .int .i64 d] w fun e w' => e = .returned (.tuple #[.slice none 0 0, .int .u8 (C : Int)]) ∧ Ext w w' := by
  have hc := vCheck (root := root) (d := d) hs hb hn
  rw [hC] at hc
  have q : ((C : Int) != 0) = true := by rw [bne_iff_ne]; omega
  have Hc := Lib.hid hc
  clear hc hC h0
  go_enter Try.func39, Try.ntmps39
  go_wp2_with (go_at_call 25; refine Hc.out.mono ?_; rintro e w1 ⟨rfl, E1⟩)
  go_ret2
  exact ⟨rfl, E1⟩

set_option maxRecDepth 100000 in
set_option maxHeartbeats 1000000 in
theorem mSplits_ok {A B : Option Addr} {n c n' c' m : Nat} {S : List MsgV} {M : MsgV} {d : Int} {bs : List UInt8} {w : World} (hs : SchemaAt w A n c S) (hb : BytesAt w B n' c' bs) (hn : n' ≤ 1000000000) (hM : S[m]? = some M) (hv : validB (S.map MsgV.d) (m : Int) bs d = true) :
    Calls Try.prog 39 #[.slice A n c, .int .i64 (m : Int), .slice B n' c', .int .i64 d] w fun e w' => ∃ A2 c2, e = .returned (.tuple #[.slice A2 ((endsM M.d.fields bs 0).length + 1) c2, .int .u8 0]) ∧ Own w w' 3 1 A2 ((endsM M.d.fields bs 0).length + 1) c2 ((0 :: endsM M.d.fields bs 0).map iv) := by
  have hmn : m < n := by rw [← hs.length]; exact (List.getElem?_eq_some_iff.1 hM).1
  obtain ⟨b1, off1, M', rfl, hM', hfl, hnm, hb1, m0, m1⟩ := hs.msg hmn
  rw [hM] at hM'
  cases hM'
  have hR : rightS (S.map MsgV.d) = true := (valid_args hv).2.2.2.2.2.2
  have hM200 : M.n ≤ 1000000000000 := by
    have h1 := (right_msg hR (i := m) (m := M.d) (by rw [List.getElem?_map, hM]; rfl)).2.2.1
    rw [hfl.length] at h1
    omega
  have hc := fun (W : World) (hs : SchemaAt W (some ⟨b1, off1, none⟩) n c S) (hb : BytesAt W B n' c' bs) => vCheck (root := (m : Int)) (d := d) hs hb hn
  have hv0 : (checkB (S.map MsgV.d) (m : Int) bs d).2 = 0 := of_decide_eq_true hv
  rw [hv0] at hc
  have hends := endsM_zero M.d.fields bs
  rcases hx : viewsV M.d.fields bs with ⟨L, P, K⟩
  rw [hx] at hends
  simp only at hends
  have hLl : L.length ≤ n' := by have := (viewsV_bd M.d.fields bs).2.1; rw [hx, hb.length] at this; exact this
  have hva := fun (W : World) (h1 : FieldsAt W M.A M.n M.c M.d.fields) (h2 : BytesAt W B n' c' bs) => vAllV (s := M.d.name) h1 hM200 h2 (by omega) hx
  have hel : (endsM M.d.fields bs 0).length = L.length := by rw [hends, List.length_map]
  rw [hel, hends]
  have Hc := Lib.hid hc
  have Hva := Lib.hid hva
  have Hm0 := Lib.hid m0
  have Hm1 := Lib.hid m1
  have Hfl := Lib.hid hfl
  have hmi : (m : Int) < n := by omega
  generalize (checkB (S.map MsgV.d) (m : Int) bs d).1 = P0 at *
  clear hc hva hx m0 m1 hfl hM hv hv0 hends hel
  go_enter Try.func39, Try.ntmps39
  go_wp2_with (first | (go_at_call 25; refine (Hc.out _ hs hb).mono ?_; rintro e w1 ⟨rfl, E1⟩; have k0 := E1.of_cell Hm0.out; have k1 := E1.of_cell Hm1.out; have hb1w := Nat.lt_of_lt_of_le hb1 E1.size) | (go_at_call 66; refine (Hva.out _ (Hfl.out.up (E1.trans (by repeat with_reducible (first | exact Ext.refl _ | refine Ext.alloc ?_ _ | refine Ext.drew ?_ | refine Ext.drewN ?_ _ | refine Ext.setCell ?_ (by first | exact Nat.le_refl _ | omega | (simp; done) | (simp; omega)) _)))) (hb.up (E1.trans (by repeat with_reducible (first | exact Ext.refl _ | refine Ext.alloc ?_ _ | refine Ext.drew ?_ | refine Ext.drewN ?_ _ | refine Ext.setCell ?_ (by first | exact Nat.le_refl _ | omega | (simp; done) | (simp; omega)) _))))).mono ?_; rintro e w2 ⟨A3, c3, rfl, own2⟩; have own0 : Own w1 w2 3 1 (some ⟨w1.heap.size, 0, none⟩) 1 1 [iv 0] := (Own.made (Ext.refl w1) 3 1 (cs := [iv 0]) (n := 1) (by simp [maxLen]) rfl).up own2.ext; have ownv := own2.since (Ext.alloc (Ext.refl w1) (.cells #[.int .i64 0] 3))))
  go_loopw [12, 42] (fun u i wr => ∃ (k : Nat) (A2 : Option Addr) (c2 : Nat), k ≤ L.length ∧ i = .int .i64 (k : Int) ∧ u = .slice A2 (k + 1) c2 ∧ Own w1 wr 3 1 A2 (k + 1) c2 ((0 :: (L.take k).map (fun v => v.r.t)).map iv) ∧ Own w1 wr 95 7 A3 L.length c3 (L.flatMap viewC)) (fun _ i _ => L.length - (intOf i).toNat)
  case atStart => exact ⟨0, _, 1, Nat.zero_le _, rfl, rfl, by simpa using own0, ownv⟩
  case round =>
    obtain ⟨k, A2, c2, hk, rfl, rfl, own, hr⟩ := hrel
    by_cases hlt : k < L.length
    · have hlti : (k : Int) < L.length := by omega
      obtain ⟨b3, off3, v, rfl, hv, hb3, g0, g1, g2, g3, g4, g5, g6⟩ := Reads.view' hr.reads hlt
      have hsn : (L.take (k + 1)).map (fun v => v.r.t) = (L.take k).map (fun v => v.r.t) ++ [v.r.t] := by rw [List.take_add_one, hv]; simp
      obtain ⟨⟨rn, rw_, rf, ra, rt⟩, vf, vr⟩ := v
      simp only at g0 g1 g2 g3 g4 g5 g6 hsn
      have Hsn := Lib.hid hsn
      clear hsn hv
      go_wp2_with (at_builtin; refine wpList_one elemI rfl (.tmp 46) (.tmp 50) rfl rfl (own.alloc _) rfl (by simp) rfl (by omega) (by unfold maxLen; omega) ?_; intro A4 c4 w4 own4 g4; have ov4 := hr.beside own (by decide) (Ext.alloc (Ext.alloc (Ext.refl _) _) _) g4 own4.ext)
      go_roundw
      case rel =>
        refine ⟨k + 1, A4, c4, by omega, by go_num, rfl, ?_, ov4⟩
        rw [Hsn.out, ← List.cons_append, List.map_append]
        exact own4
      case measure => simp [intOf]; omega
    · obtain rfl : k = L.length := by omega
      rw [List.take_length] at own
      go_wp2
      go_ret2
      exact ⟨A2, c2, rfl, own.since E1⟩

theorem mOne {A B : Option Addr} {n c n' c' : Nat} {S : List MsgV} {root d : Int} {bs : List UInt8} {w : World} (hs : SchemaAt w A n c S) (hb : BytesAt w B n' c' bs) (hn : n' ≤ 1000000000) :
    Calls Try.prog 40 #[.slice A n c, .int .i64 root, .slice B n' c', .int .i64 d] w fun e w' => e = .returned (.bool (validB (S.map MsgV.d) root bs d)) ∧ Ext w w' := by
  have h := vIsR (root := root) (d := d) hs hb hn
  have H := Lib.hid h
  clear h
  go_enter Try.func40, Try.ntmps40
  go_wp2_with (go_at_call 64; refine H.out.mono ?_; rintro e w1 ⟨rfl, E1⟩)
  go_ret
  exact ⟨rfl, E1⟩

end Go.Proofs.Ytpgbhgimjpbhoaa
