/- Layer 15: the reference's Path (and Join). -/
import Derived.Test.YtpicpebolghcfaaGreatDoorQjWSortS

namespace Go.Proofs.YtpicpebolghcfaaGreatDoor
open Go.RowKit Go.Shelf
set_option linter.unusedVariables false
set_option linter.unusedSimpArgs false

theorem OnWay.head {S : List MsgD} {m : Nat} {x : Int} {rest : List Int} {f : FieldD} (h : OnWay S m (x :: rest) f) : ∃ g, fieldAt S m x = some g ∧ ((rest = [] ∧ g = f) ∨ (rest ≠ [] ∧ g.kind = 17 ∧ g.rep = false ∧ OnWay S g.of_.toNat rest f)) := by
  cases h with
  | last h => exact ⟨f, h, .inl ⟨rfl, rfl⟩⟩
  | step h hk hr t => exact ⟨_, h, .inr ⟨t.ne, hk, hr, t⟩⟩

set_option maxRecDepth 100000 in
set_option maxHeartbeats 1000000 in
theorem rJoin12 {A : Option Addr} {n c : Nat} {l : List ByteArray} {w : World} (hl : NamesAt w A n c l) (hs : ∀ s ∈ l, s.size ≤ 60) (hn : n ≤ 1000) :
    Calls Tryz.prog 71 #[.slice A n c] w fun e w' => ∃ s : ByteArray, e = .returned (.string s) ∧ Ext w w' := by
  have Hl := Lib.hid hl
  have Hs := Lib.hid hs
  clear hl hs
  go_enter Tryz.func71, Tryz.ntmps71
  go_wp2_with fail
  go_loopw [3, 4] (fun t3 t4 wr => ∃ (q : Nat) (s : ByteArray), q ≤ n ∧ t4 = .int .i64 q ∧ t3 = .string s ∧ s.size ≤ 61 * q ∧ Ext w wr) (fun _ i _ => n - (intOf i).toNat)
  case atStart => exact ⟨0, ⟨#[]⟩, Nat.zero_le _, rfl, rfl, by simp [ByteArray.size], Ext.refl _⟩
  case round =>
    obtain ⟨q, s, hq, rfl, rfl, hsz, X⟩ := hrel
    by_cases hlt : q < n
    · have hlt2 : (q : Int) < n := by omega
      obtain ⟨b, off, t, rfl, ht, hb, hc⟩ := NamesAt.name Hl.out hlt
      have ht60 := Hs.out t (List.mem_of_getElem? ht)
      have hc2 := X.of_cell hc
      have hb2 := Nat.lt_of_lt_of_le hb X.size
      clear hc hb ht
      by_cases h0 : q = 0
      · subst h0
        simp only [Nat.add_zero] at hc2
        go_wp2
        go_roundw
        case rel => exact ⟨1, s ++ t, by omega, by go_num, rfl, by rw [ByteArray.size_append]; omega, X⟩
        case measure => simp [intOf]; omega
      · have h1 : (0 : Int) < q := by omega
        go_wp2
        go_roundw
        case rel => exact ⟨q + 1, (s ++ ⟨#[46]⟩) ++ t, by omega, by go_num, rfl, by rw [ByteArray.size_append, ByteArray.size_append, show (⟨#[46]⟩ : ByteArray).size = 1 from rfl]; omega, X⟩
        case measure => simp [intOf]; omega
    · obtain rfl : q = n := by omega
      go_wp2
      go_ret
      exact ⟨s, rfl, X⟩

set_option maxRecDepth 100000 in
set_option maxHeartbeats 4000000 in
theorem rPath {A C : Option Addr} {n c k kc m : Nat} {S : List MsgV} {way : List Int} {f : FieldD} {w : World} (hR : rightS (S.map MsgV.d) = true) (hs : SchemaAt w A n c S) (hm : m < n) (hf : OnWay (S.map MsgV.d) m way f) (hw : Reads w C k kc 1 (way.map wyV)) (hk : way.length ≤ 65) :
    Calls Tryz.prog 41 #[.slice A n c, .int .i64 (m : Int), .slice C k kc] w fun e w' => ∃ s : ByteArray, e = .returned (.tuple #[.string s, .bool true]) ∧ Ext w w' := by
  have hSl := hs.length
  have hkl : way.length = k := by have := hw.len; rw [List.length_map, Nat.mul_one] at this; exact this
  have hk0 : 0 < k := by
    rcases k with _ | k
    · exact absurd (List.eq_nil_of_length_eq_zero hkl) hf.ne
    · omega
  have Hs := Lib.hid hs
  have Hf := Lib.hid hf
  have Hw := Lib.hid hw
  have HR := Lib.hid hR
  clear hs hf hw hR
  go_enter Tryz.func41, Tryz.ntmps41
  go_wp2_with fail
  go_loopw [1, 8, 9] (fun t1 t8 t9 wr => ∃ (q : Nat) (A8 : Option Addr) (k8 : Nat) (l : List ByteArray), q ≤ k ∧ t9 = .int .i64 q ∧ t8 = .slice A8 q k8 ∧ Own w wr 9 1 A8 q k8 (l.map nmV) ∧ Hid (∀ s ∈ l, s.size ≤ 60) ∧
      Hid ((q < k ∧ ∃ mq : Nat, t1 = .int .i64 mq ∧ mq < n ∧ OnWay (S.map MsgV.d) mq (way.drop q) f) ∨ (q = k ∧ ∃ z : Int, t1 = .int .i64 z))) (fun _ _ i _ => k - (intOf i).toNat)
  case atStart => exact ⟨0, none, 0, [], Nat.zero_le _, rfl, rfl, Own.nil (Ext.refl _) 9 1, Lib.hid (fun s hs => by cases hs), Lib.hid (.inl ⟨hk0, m, rfl, hm, Hf.out⟩)⟩
  case round =>
    obtain ⟨q, A8, k8, l, hq, rfl, rfl, own, hl60, hst⟩ := hrel
    by_cases hlt : q < k
    · have hlt2 : (q : Int) < k := by omega
      rcases hst.out with ⟨_, mq, e1, hmq, hon⟩ | ⟨h, _⟩
      rotate_left
      · omega
      subst e1
      obtain ⟨x, hx⟩ : ∃ x, way[q]? = some x := ⟨_, List.getElem?_eq_getElem (by omega)⟩
      have hdrop : way.drop q = x :: way.drop (q + 1) := by
        have hql : q < way.length := by omega
        rw [List.drop_eq_getElem_cons hql]
        congr 1
        exact (Option.some.inj ((List.getElem?_eq_getElem hql).symm.trans hx))
      rw [hdrop] at hon
      obtain ⟨g, hg, hnext⟩ := hon.head
      obtain ⟨sb, so, ⟨⟨Mn, Mf⟩, MA, Mk, Mc⟩, rfl, hM, hF, hMn, hsb, s0, s1⟩ := Hs.out.msg hmq
      simp only at hF hMn s0 s1
      have hM' : (S.map MsgV.d)[mq]? = some ⟨Mn, Mf⟩ := by rw [List.getElem?_map, hM]; rfl
      have hFl := hF.length
      have hF2 := (right_msg HR.out hM').2.2.1
      simp only at hF2
      have hMk : Mk ≤ 1000000000000 := by omega
      obtain ⟨j, hj, hI⟩ := find_idx hM' hg
      simp only at hj hI
      have hby := fun W (h : Ext wr W) => rFieldE (s := Mn) (x := x) (hF.up (own.ext.trans h)) hMk hI
      have hjl : j < Mk := by have := (List.getElem?_eq_some_iff.1 hj).1; omega
      have hji : (j : Int) < Mk := by omega
      have hmi : (mq : Int) < n := by omega
      have hname := nameB_size (faultV_inv ((right_msg HR.out hM').2.2.2 j g hj)).1
      have hof := fun (h : g.kind = 17) => right_of HR.out hM' hj h
      rw [List.length_map, hSl] at hof
      obtain ⟨fb, fo, f', rfl, hf', hok, hfb, c0, c1, c2, c3, c4, c5⟩ := hF.field hjl
      obtain rfl : f' = g := Option.some.inj (hf'.symm.trans hj)
      obtain ⟨wb, wo, e, hwb, hwc⟩ := Hw.out.at_ (by omega)
      subst e
      have w0 : w.cell? ⟨wb, wo + q, none⟩ = some (.int .i64 x) := hwc q (wyV x) (by rw [List.getElem?_map, hx]; rfl)
      have X := own.ext
      replace c0 := X.of_cell c0
      replace c1 := X.of_cell c1
      replace c2 := X.of_cell c2
      replace c3 := X.of_cell c3
      replace c4 := X.of_cell c4
      replace c5 := X.of_cell c5
      replace s0 := X.of_cell s0
      replace s1 := X.of_cell s1
      replace w0 := X.of_cell w0
      replace hsb := Nat.lt_of_lt_of_le hsb X.size
      replace hfb := Nat.lt_of_lt_of_le hfb X.size
      replace hwb := Nat.lt_of_lt_of_le hwb X.size
      have Hby := Lib.hid hby
      have Hnext := Lib.hid hnext
      have Hof := Lib.hid hof
      have Hok := Lib.hid hok
      obtain ⟨fname, fnum, fkind, frep, fpk, fof⟩ := f'
      simp only at c0 c1 c2 c3 c4 c5 hname
      clear hby hnext hof hok hf' hj hI hF hM hM' hFl hF2 hon hdrop hx hwc hg hst
      go_wp2_with fail
      go_region_law (go_simp; go_at_call 42; refine (Hby.out _ (by repeat with_reducible (first | exact Ext.refl _ | refine Ext.alloc ?_ _ | refine Ext.drew ?_ | refine Ext.drewN ?_ _ | refine Ext.setCell ?_ (by first | exact Nat.le_refl _ | omega | (simp; done) | (simp; omega)) _))).mono ?_; rintro e w1 ⟨rfl, E1⟩; have X1 : Ext wr w1 := Ext.trans (by repeat with_reducible (first | exact Ext.refl _ | refine Ext.alloc ?_ _ | refine Ext.drew ?_ | refine Ext.drewN ?_ _ | refine Ext.setCell ?_ (by first | exact Nat.le_refl _ | omega | (simp; done) | (simp; omega)) _)) E1)
      all_goals
        go_simp
        replace c0 := X1.of_cell c0
        replace c1 := X1.of_cell c1
        replace c2 := X1.of_cell c2
        replace c3 := X1.of_cell c3
        replace c4 := X1.of_cell c4
        replace c5 := X1.of_cell c5
        replace s0 := X1.of_cell s0
        replace s1 := X1.of_cell s1
        replace hsb := Nat.lt_of_lt_of_le hsb X1.size
        replace hfb := Nat.lt_of_lt_of_le hfb X1.size
        have hjn : ¬ (j : Int) < 0 := by omega
        have own1 := own.up X1
        have BF := BlkT.new w1 43 #[.string fname, .int .i64 fnum, .int .i64 fkind, .bool frep, .bool fpk, .int .i64 fof] rfl
        have X2 : Ext w1 (w1.alloc (.cells #[.string fname, .int .i64 fnum, .int .i64 fkind, .bool frep, .bool fpk, .int .i64 fof] 43)) := (Ext.refl w1).alloc _
        go_upto_region 9 with fail
        generalize w1.alloc (.cells #[.string fname, .int .i64 fnum, .int .i64 fkind, .bool frep, .bool fpk, .int .i64 fof] 43) = w2 at *
        have own2 := own1.up X2
        have X3 : Ext wr w2 := X1.trans X2
        have y0 : w2.cell? ⟨w1.heap.size, 0, none⟩ = some (.string fname) := BF.cell 0
        have yl := BF.lt
        go_upto_region 10 with (at_builtin; refine wpList_one elemNm rfl (.tmp 37) (.tmp 40) rfl rfl own2 rfl (by first | rfl | simp) rfl (by omega) (by unfold maxLen; omega) ?_; intro A4 c4 w4 own4 g4; have BF4 := (BF.alloc _).beside (own2.alloc _) (by decide) g4)
        have z2 : w4.cell? ⟨w1.heap.size, 2, none⟩ = some (.int .i64 fkind) := BF4.cell 2
        have z3 : w4.cell? ⟨w1.heap.size, 3, none⟩ = some (.bool frep) := BF4.cell 3
        have z5 : w4.cell? ⟨w1.heap.size, 5, none⟩ = some (.int .i64 fof) := BF4.cell 5
        have zl := BF4.lt
        have hl2 : ∀ s ∈ l ++ [fname], s.size ≤ 60 := fun s hs => by
          rcases List.mem_append.1 hs with hs | hs
          · exact hl60.out s hs
          · rw [List.mem_singleton] at hs
            subst hs
            exact hname.2
        have Hl2 := Lib.hid hl2
        clear hl2
        rcases Hnext.out with ⟨h1, _⟩ | ⟨h1, h2, h3, h4⟩
        · have hlast : ¬ (q : Int) < (k : Int) - 1 := by
            have := List.drop_eq_nil_iff.1 h1
            omega
          have hqk : q + 1 = k := by
            have := List.drop_eq_nil_iff.1 h1
            omega
          clear h1
          go_wp2
          go_roundw
          case rel => exact ⟨q + 1, A4, c4, l ++ [fname], by omega, by go_num, rfl, by simpa [nmV] using own4, Hl2, Lib.hid (.inr ⟨hqk, fof, rfl⟩)⟩
          case measure => simp [intOf]; omega
        · obtain ⟨o, ho1, ho2⟩ := Hof.out h2
          have hq1 : q + 1 < k := by
            rcases Nat.lt_or_ge (q + 1) k with h | h
            · exact h
            · exact absurd (List.drop_eq_nil_iff.2 (by omega)) h1
          have hlast : (q : Int) < (k : Int) - 1 := by omega
          try simp only at h2 h3 h4 ho1
          subst h2
          subst h3
          subst ho1
          have H4 := Lib.hid h4
          clear h1 h4
          go_wp2
          go_roundw
          case rel => exact ⟨q + 1, A4, c4, l ++ [fname], by omega, by go_num, rfl, by simpa [nmV] using own4, Hl2, Lib.hid (.inl ⟨hq1, o, rfl, ho2, H4.out⟩)⟩
          case measure => simp [intOf]; omega
    · obtain rfl : q = k := by omega
      have hjn := fun W (h : Ext wr W) => rJoin12 (own.up h).reads hl60.out (by omega)
      have Hjn := Lib.hid hjn
      have hk1 : (1 : Int) ≤ q := by omega
      have hk65 : (q : Int) ≤ 65 := by omega
      clear hjn
      go_wp2_with (go_at_call 71; refine (Hjn.out _ (by repeat with_reducible (first | exact Ext.refl _ | refine Ext.alloc ?_ _ | refine Ext.drew ?_ | refine Ext.drewN ?_ _ | refine Ext.setCell ?_ (by first | exact Nat.le_refl _ | omega | (simp; done) | (simp; omega)) _))).mono ?_; rintro e w1 ⟨s, rfl, E1⟩)
      go_ret2
      exact ⟨s, rfl, own.ext.trans E1⟩

end Go.Proofs.YtpicpebolghcfaaGreatDoor
