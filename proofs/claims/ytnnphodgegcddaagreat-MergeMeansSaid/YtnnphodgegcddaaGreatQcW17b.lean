/- Contracts of layer 17: how many records play no part. -/
import Derived.Test.YtnnphodgegcddaaGreatQcW17

namespace Go.Proofs.YtnnphodgegcddaaGreat
open Go.RowKit
set_option linter.unusedVariables false

def overP (fs : List FieldD) (K : List ViewD) (v : ViewD) : Bool := match (if v.field < 0 then none else fs[v.field.toNat]?) with
 | none => false
 | some f => !f.rep && f.kind != 17 && decide ((0 : Int) < (K.filter (ofP f.number)).length)

theorem overP_no {fs : List FieldD} {K : List ViewD} {v : ViewD} (h : v.field < 0) : overP fs K v = false := by unfold overP; rw [if_pos h]

theorem overP_at {fs : List FieldD} {K : List ViewD} {v : ViewD} {j : Nat} {f : FieldD} (h : v.field = (j : Nat)) (hf : fs[j]? = some f) : overP fs K v = (!f.rep && f.kind != 17 && decide ((0 : Int) < (K.filter (ofP f.number)).length)) := by
 unfold overP
 rw [if_neg (by omega), h, Int.toNat_natCast, hf]

theorem views_field {fs : List FieldD} {bs : List UInt8} {v : ViewD} (h : v ∈ (viewsV fs bs).1) : v.field = -1 ∨ ∃ k f, v.field = (k : Nat) ∧ fs[k]? = some f ∧ f.number = (v.r.n : Int) := by
 have h2 := (viewsV_each fs bs v h).2
 rcases idxB_cases (numP (v.r.n : Int)) fs with ⟨h1, _⟩ | ⟨k, f, h1, h3, h4, _⟩
 · rw [seenV_none h1] at h2
   simp only [Prod.mk.injEq, and_true] at h2
   exact .inl (by rw [← h2])
 · have hn : f.number = (v.r.n : Int) := by simpa [numP] using h4
   rw [seenV_some h1 h3] at h2
   split at h2
   · simp only [Prod.mk.injEq, and_true] at h2
     exact .inr ⟨k, f, by rw [← h2], h3, hn⟩
   · split at h2
     · simp only [Prod.mk.injEq, and_true] at h2
       exact .inr ⟨k, f, by rw [← h2], h3, hn⟩
     · simp only [Prod.mk.injEq] at h2
       omega

set_option maxRecDepth 100000 in
set_option maxHeartbeats 2000000 in
theorem mOver_ok {A B C : Option Addr} {n c n' c' m' d' m : Nat} {S : List MsgV} {M : MsgV} {d : Int} {xs ys : List UInt8} {w : World} (hs : SchemaAt w A n c S) (ha : BytesAt w B n' c' xs) (hb : BytesAt w C m' d' ys) (hl : n' + m' ≤ 1000000000) (hM : S[m]? = some M) (h : twoC (S.map MsgV.d) (m : Int) d xs ys = 0) :
  Calls Tryz.prog 43 #[.slice A n c, .int .i64 (m : Int), .slice B n' c', .slice C m' d', .int .i64 d] w fun e w' => e = .returned (.tuple #[.int .i64 (((viewsV M.d.fields xs).1.filter (overP M.d.fields (viewsV M.d.fields ys).1)).length : Nat), .int .u8 0]) ∧ Ext w w' := by
 have hmn : m < n := by rw [← hs.length]; exact (List.getElem?_eq_some_iff.1 hM).1
 obtain ⟨b1, off1, M', rfl, hM', hfl, hnm, hb1, m0, m1⟩ := hs.msg hmn
 rw [hM] at hM'
 cases hM'
 have hR : rightS (S.map MsgV.d) = true := (valid_args (twoC_valid.1 h).1).2.2.2.2.2.2
 have hM200 : M.n ≤ 1000000000000 := by
  have h1 := (right_msg hR (i := m) (m := M.d) (by rw [List.getElem?_map, hM]; rfl)).2.2.1
  rw [hfl.length] at h1
  omega
 have htwo := fun (W : World) (hs : SchemaAt W (some ⟨b1, off1, none⟩) n c S) (ha : BytesAt W B n' c' xs) (hb : BytesAt W C m' d' ys) => mTwo_ok hs ha hb hl ((twoC_all (S.map MsgV.d) (m : Int) d).1 h)
 rcases hx : viewsV M.d.fields xs with ⟨L, P, K⟩
 rcases hy : viewsV M.d.fields ys with ⟨L2, P2, K2⟩
 have hLl : L.length ≤ n' := by have := (viewsV_bd M.d.fields xs).2.1; rw [hx, ha.length] at this; exact this
 have hLf : ∀ v ∈ L, v.field = -1 ∨ ∃ k f, v.field = (k : Nat) ∧ M.d.fields[k]? = some f ∧ f.number = (v.r.n : Int) := fun v hv => views_field (bs := xs) (by rw [hx]; exact hv)
 have hva := fun (W : World) (h1 : FieldsAt W M.A M.n M.c M.d.fields) (h2 : BytesAt W B n' c' xs) => vAllV (s := M.d.name) h1 hM200 h2 (by omega) hx
 have hvh := fun (x : Int) (W : World) (h1 : FieldsAt W M.A M.n M.c M.d.fields) (h2 : BytesAt W C m' d' ys) => vHas (s := M.d.name) (x := x) h1 hM200 h2 (by omega) hy
 have Htwo := Lib.hid htwo
 have Hva := Lib.hid hva
 have Hvh := Lib.hid hvh
 have HLf := Lib.hid hLf
 have Hx := Lib.hid hx
 have Hy := Lib.hid hy
 have Hm0 := Lib.hid m0
 have Hm1 := Lib.hid m1
 have Hfl := Lib.hid hfl
 have HM := Lib.hid hM
 have hmi : (m : Int) < n := by omega
 have hxn := ha.length
 clear htwo hva hvh hLf hx hy m0 m1 hfl hM h
 go_enter Tryz.func43, Tryz.ntmps43
 go_wp2_with (first | (go_at_call 11; refine (Htwo.out _ hs ha hb).mono ?_; rintro e w1 ⟨A2, c2, rfl, own1⟩; have k0 := own1.ext.of_cell Hm0.out; have k1 := own1.ext.of_cell Hm1.out) | (go_at_call 96; refine (Hva.out _ (Hfl.out.up own1.ext) (ha.up own1.ext)).mono ?_; rintro e w2 ⟨A3, c3, rfl, own2⟩))
 have E2 : Ext w w2 := own1.ext.trans own2.ext
 go_loopw [14, 45] (fun u i wr => ∃ k : Nat, k ≤ L.length ∧ i = .int .i64 (k : Int) ∧ u = .int .i64 (((L.take k).filter (overP M.d.fields L2)).length : Int) ∧ Ext w2 wr) (fun _ i _ => L.length - (intOf i).toNat)
 case atStart => exact ⟨0, Nat.zero_le _, rfl, by simp, Ext.refl _⟩
 case round =>
  obtain ⟨k, hk, rfl, rfl, hE⟩ := hrel
  have hcnt : ((L.take k).filter (overP M.d.fields L2)).length ≤ L.length := by
   have h1 := List.length_filter_le (overP M.d.fields L2) (L.take k)
   rw [List.length_take] at h1
   omega
  have hcnti : (((L.take k).filter (overP M.d.fields L2)).length : Int) ≤ 1000000000 := by omega
  by_cases hlt : k < L.length
  · have hlti : (k : Int) < L.length := by omega
    obtain ⟨b3, off3, v, rfl, hv, hb3, g0, g1, g2, g3, g4, g5, g6⟩ := Reads.view' (own2.reads.ext hE) hlt
    have hlf := HLf.out v (List.mem_of_getElem? hv)
    have hF := take_filter (p := overP M.d.fields L2) hv
    obtain ⟨⟨rn, rw_, rf, ra, rt⟩, vf, vr⟩ := v
    simp only at g0 g1 g2 g3 g4 g5 g6 hlf
    rcases hlf with rfl | ⟨j, f, rfl, hf, hfn⟩
    · rw [overP_no (by simp), if_neg (by simp), List.append_nil] at hF
      have HF := Lib.hid hF
      clear hF hv
      go_wp2
      go_roundw
      case rel => exact ⟨k + 1, by omega, by go_num, by rw [HF.out], hE.trans (by repeat with_reducible (first | exact Ext.refl _ | refine Ext.alloc ?_ _ | refine Ext.drew ?_ | refine Ext.drewN ?_ _ | refine Ext.setCell ?_ (by first | omega | (simp <;> omega)) _))⟩
      case measure => simp [intOf]; omega
    · rw [overP_at rfl hf] at hF
      have hlt2 := (List.getElem?_eq_some_iff.1 hf).1
      rw [Hfl.out.length] at hlt2
      obtain ⟨b2, off2, f', hA2, hf', hok, hb2, d0, d1, d2, d3, d4, d5⟩ := Hfl.out.field hlt2
      rw [hf] at hf'
      cases hf'
      have X0 : Ext w wr := E2.trans hE
      have HA2 := Lib.hid hA2
      have Hd0 := Lib.hid d0
      have Hd1 := Lib.hid d1
      have Hd2 := Lib.hid d2
      have Hd3 := Lib.hid d3
      have Hd4 := Lib.hid d4
      have Hd5 := Lib.hid d5
      have hneg : ¬ (j : Int) < 0 := by omega
      have hjn : (j : Int) < M.n := by omega
      generalize hcx : ((L.take k).filter (overP M.d.fields L2)).length = cx at *
      have Hcx := Lib.hid hcx
      have Hv := Lib.hid hv
      have HF0 := Lib.hid hF
      clear hF hv hcx hA2 d0 d1 d2 d3 d4 d5 hf hok hfn
      go_wp2
      have X1 : Ext w (wr.alloc (.cells #[.int .i64 (rn : Int), .int .i64 (rw_ : Int), .int .i64 (rf : Int), .int .i64 (ra : Int), .int .i64 (rt : Int), .int .i64 (j : Int), .bool vr] 161)) := X0.trans (by repeat with_reducible (first | exact Ext.refl _ | refine Ext.alloc ?_ _ | refine Ext.drew ?_ | refine Ext.drewN ?_ _ | refine Ext.setCell ?_ (by first | omega | (simp <;> omega)) _))
      have B0 := Ext.new_blk (Ext.refl (wr.alloc (.cells #[.int .i64 (rn : Int), .int .i64 (rw_ : Int), .int .i64 (rf : Int), .int .i64 (ra : Int), .int .i64 (rt : Int), .int .i64 (j : Int), .bool vr] 161)))
      have hEx : Ext w2 (wr.alloc (.cells #[.int .i64 (rn : Int), .int .i64 (rw_ : Int), .int .i64 (rf : Int), .int .i64 (ra : Int), .int .i64 (rt : Int), .int .i64 (j : Int), .bool vr] 161)) := hE.trans (by repeat with_reducible (first | exact Ext.refl _ | refine Ext.alloc ?_ _ | refine Ext.drew ?_ | refine Ext.drewN ?_ _ | refine Ext.setCell ?_ (by first | omega | (simp <;> omega)) _))
      generalize wr.alloc (.cells #[.int .i64 (rn : Int), .int .i64 (rw_ : Int), .int .i64 (rf : Int), .int .i64 (ra : Int), .int .i64 (rt : Int), .int .i64 (j : Int), .bool vr] 161) = wx at *
      have y5 := B0.cell 5
      have yl := B0.lt
      have m0' := X1.of_cell Hm0.out
      have m1' := X1.of_cell Hm1.out
      rw [HA2.out] at m1'
      have d0' := X1.of_cell Hd0.out
      have d1' := X1.of_cell Hd1.out
      have d2' := X1.of_cell Hd2.out
      have d3' := X1.of_cell Hd3.out
      have d4' := X1.of_cell Hd4.out
      have d5' := X1.of_cell Hd5.out
      have hsz0 := X1.size
      have hb1x := Nat.lt_of_lt_of_le hb1 hsz0
      have hb2x := Nat.lt_of_lt_of_le hb2 hsz0
      clear g0 g1 g2 g3 g4 g5 g6 B0
      go_region_held3 (fun W => Ext wx W ∧ ∀ b o, b < wx.heap.size → W.cell? ⟨b, o, none⟩ = wx.cell? ⟨b, o, none⟩) ((refine Ext.keep ?_; repeat with_reducible (first | assumption | exact Ext.refl _ | refine Ext.alloc ?_ _ | refine Ext.drew ?_ | refine Ext.drewN ?_ _ | refine Ext.setCell ?_ (by first | omega | (simp <;> omega)) _))) (fail)
      have E1' : Ext wx (wx.alloc (.cells #[.string f.name, .int .i64 f.number, .int .i64 f.kind, .bool f.rep, .bool f.packed, .int .i64 f.of_] 48)).drew := (by repeat with_reducible (first | exact Ext.refl _ | refine Ext.alloc ?_ _ | refine Ext.drew ?_ | refine Ext.drewN ?_ _ | refine Ext.setCell ?_ (by first | omega | (simp <;> omega)) _))
      have Bf := Ext.new_blk_drew (Ext.refl (wx.alloc (.cells #[.string f.name, .int .i64 f.number, .int .i64 f.kind, .bool f.rep, .bool f.packed, .int .i64 f.of_] 48)).drew)
      generalize (wx.alloc (.cells #[.string f.name, .int .i64 f.number, .int .i64 f.kind, .bool f.rep, .bool f.packed, .int .i64 f.of_] 48)).drew = wy at *
      rename Ext wx wy ∧ _ => hS
      clear hS
      have g1 : wy.cell? ⟨wx.heap.size, 1, none⟩ = some (.int .i64 f.number) := Bf.cell 1
      have g2 : wy.cell? ⟨wx.heap.size, 2, none⟩ = some (.int .i64 f.kind) := Bf.cell 2
      have g3 : wy.cell? ⟨wx.heap.size, 3, none⟩ = some (.bool f.rep) := Bf.cell 3
      have gl := Bf.lt
      have X2 : Ext w wy := X1.trans E1'
      have hEy : Ext w2 wy := hEx.trans E1'
      have n0 := E1'.of_cell m0'
      have n1 := E1'.of_cell m1'
      have hb1y := Nat.lt_of_lt_of_le hb1 X2.size
      clear y5 m0' m1' d0' d1' d2' d3' d4' d5' Bf E1' hb1x hb2x hsz0 hb1 hb2 hnm hneg
      obtain ⟨fn, fx, fk, fr, fp, fo⟩ := f
      simp only at g1 g2 g3 HF0
      rcases fr with _ | _
      · by_cases h17 : fk = 17
        · have q17 : (fk != 17) = false := by rw [h17]; rfl
          rw [q17] at HF0
          clear h17
          go_wp2
          go_quiet (fail)
          go_wp2
          go_roundw
          case rel => exact ⟨k + 1, by omega, by go_num, by rw [HF0.out]; simp [Hcx.out], hEy.drewN _⟩
          case measure => simp [intOf]; omega
        · have q17 : (fk != 17) = true := by rw [bne_iff_ne]; exact h17
          rw [q17] at HF0
          clear h17
          have hh := fun W (h1 : FieldsAt W M.A M.n M.c M.d.fields) (h2 : BytesAt W C m' d' ys) => Hvh.out fx W h1 h2
          rw [HA2.out] at hh
          have hfy := Hfl.out.up X2
          rw [HA2.out] at hfy
          have hby := hb.up X2
          generalize (L2.filter (ofP fx)).length = q at *
          by_cases hq : (0 : Int) < q
          · have qd : decide ((0 : Int) < q) = true := by simpa using hq
            rw [qd] at HF0 hh
            have Hh := Lib.hid hh
            clear hh hq qd
            go_wp2_with fail
            go_region_held3 (fun W => Ext wy W ∧ ∀ b o, b < wy.heap.size → W.cell? ⟨b, o, none⟩ = wy.cell? ⟨b, o, none⟩) ((refine Ext.keep ?_; repeat with_reducible (first | assumption | exact Ext.refl _ | refine Ext.alloc ?_ _ | refine Ext.drew ?_ | refine Ext.drewN ?_ _ | refine Ext.setCell ?_ (by first | omega | (simp <;> omega)) _))) (first | (go_split_ands; go_at_call 97; refine (Hh.out _ (hfy.up (by with_reducible assumption)) (hby.up (by with_reducible assumption))).mono ?_; rintro e w3 ⟨rfl, E3⟩; have q0 : Ext wy w3 := Ext.trans (by with_reducible assumption) E3))
            all_goals
             go_wp2
             go_roundw
             case rel => exact ⟨k + 1, by omega, by go_num, by rw [HF0.out]; simp [Hcx.out], hEy.trans (by repeat with_reducible (first | exact q0 | exact Ext.refl _ | refine Ext.alloc ?_ _ | refine Ext.drew ?_ | refine Ext.drewN ?_ _ | refine Ext.setCell ?_ (by first | omega | (simp <;> omega)) _))⟩
             case measure => simp [intOf]; omega
          · have qd : decide ((0 : Int) < q) = false := by simpa using hq
            rw [qd] at HF0 hh
            have Hh := Lib.hid hh
            clear hh hq qd
            go_wp2_with fail
            go_region_held3 (fun W => Ext wy W ∧ ∀ b o, b < wy.heap.size → W.cell? ⟨b, o, none⟩ = wy.cell? ⟨b, o, none⟩) ((refine Ext.keep ?_; repeat with_reducible (first | assumption | exact Ext.refl _ | refine Ext.alloc ?_ _ | refine Ext.drew ?_ | refine Ext.drewN ?_ _ | refine Ext.setCell ?_ (by first | omega | (simp <;> omega)) _))) (first | (go_split_ands; go_at_call 97; refine (Hh.out _ (hfy.up (by with_reducible assumption)) (hby.up (by with_reducible assumption))).mono ?_; rintro e w3 ⟨rfl, E3⟩; have q0 : Ext wy w3 := Ext.trans (by with_reducible assumption) E3))
            all_goals
             go_wp2
             go_roundw
             case rel => exact ⟨k + 1, by omega, by go_num, by rw [HF0.out]; simp [Hcx.out], hEy.trans (by repeat with_reducible (first | exact q0 | exact Ext.refl _ | refine Ext.alloc ?_ _ | refine Ext.drew ?_ | refine Ext.drewN ?_ _ | refine Ext.setCell ?_ (by first | omega | (simp <;> omega)) _))⟩
             case measure => simp [intOf]; omega
      · go_wp2
        go_quiet (fail)
        go_wp2
        go_roundw
        case rel => exact ⟨k + 1, by omega, by go_num, by rw [HF0.out]; simp [Hcx.out], hEy.drewN _⟩
        case measure => simp [intOf]; omega
  · obtain rfl : k = L.length := by omega
    go_wp2
    go_ret2
    refine ⟨?_, E2.trans hE⟩
    first | rfl | (rw [Hx.out, Hy.out]; rfl) | simp

end Go.Proofs.YtnnphodgegcddaaGreat
