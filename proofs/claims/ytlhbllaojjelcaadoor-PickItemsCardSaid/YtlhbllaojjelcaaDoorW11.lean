/- Contracts of layer 11: valid messages. -/
import Derived.Test.YtlhbllaojjelcaaDoorS11
import Derived.Test.YtlhbllaojjelcaaDoorW4
import Derived.Test.YtlhbllaojjelcaaDoorW9r
import Derived.Test.YtlhbllaojjelcaaDoorW10
namespace Go.Proofs.YtlhbllaojjelcaaDoor
open Go.RowKit
set_option linter.unusedVariables false

theorem codeV_le' (k : Int) (bs : List UInt8) : codeV k bs ≤ 4 := by
  have hf : ∀ (f : Nat) (bs : List UInt8), ∀ x ∈ valsF k f bs, x.2 ≤ 4 := by
    intro f
    induction f with
    | zero => intro bs x hx; simp [valsF] at hx
    | succ f ih =>
      intro bs x hx
      unfold valsF at hx
      have hbd := stepN_bd k bs
      by_cases hb : bs = []
      · rw [if_pos hb] at hx; simp at hx
      · rw [if_neg hb] at hx
        by_cases hc : (stepN k bs).2 = 0
        · rw [if_pos hc] at hx
          rcases List.mem_cons.1 hx with rfl | hx
          · simp
          · exact ih _ x hx
        · rw [if_neg hc] at hx
          simp only [List.mem_singleton] at hx
          subst hx
          simp only
          omega
  unfold codeV
  rcases hl : (valsV k bs).getLast? with _ | x
  · simp
  · have hm := List.mem_of_getLast? hl
    unfold valsV at hm
    by_cases hk : numberB k = false
    · rw [if_pos hk] at hm
      simp only [List.mem_singleton] at hm
      subst hm
      simp
    · rw [if_neg hk] at hm
      exact hf _ _ x hm

theorem argsV_le (S : List MsgD) (root d : Int) : argsV S root d ≤ 9 := by unfold argsV; split <;> (try split) <;> omega

theorem vArgs {A : Option Addr} {n c : Nat} {S : List MsgV} {root d : Int} {w : World} (hs : SchemaAt w A n c S) :
    Calls Tryd.prog 29 #[.slice A n c, .int .i64 root, .int .i64 d] w fun e w' => e = .returned (.int .u8 (argsV (S.map MsgV.d) root d : Nat)) ∧ Ext w w' := by
  have hl := hs.length
  unfold argsV
  rw [List.length_map, hl]
  have hr := fun W (h : SchemaAt W A n c S) => sRight h
  rcases hR : rightS (S.map MsgV.d) with _ | _
  · rw [hR] at hr
    have Hr := Lib.hid hr
    clear hr hR hl
    rw [if_pos rfl]
    go_enter Tryd.func29, Tryd.ntmps29
    go_wp2_with (go_at_call 43; refine (Hr.out _ hs).mono ?_; rintro e w1 ⟨rfl, E1⟩)
    go_ret
    exact ⟨rfl, E1⟩
  · rw [hR] at hr
    have Hr := Lib.hid hr
    clear hr hR hl
    rw [if_neg (by simp)]
    rcases (by omega : root < 0 ∨ (¬ root < 0 ∧ (n : Int) ≤ root) ∨ (¬ root < 0 ∧ ¬ (n : Int) ≤ root ∧ d < 0) ∨ (¬ root < 0 ∧ ¬ (n : Int) ≤ root ∧ ¬ d < 0 ∧ 64 < d) ∨ (¬ root < 0 ∧ ¬ (n : Int) ≤ root ∧ ¬ d < 0 ∧ ¬ 64 < d)) with h | ⟨h, h2⟩ | ⟨h, h2, h3⟩ | ⟨h, h2, h3, h4⟩ | ⟨h, h2, h3, h4⟩
    · rw [if_pos (by omega)]
      go_enter Tryd.func29, Tryd.ntmps29
      go_wp2_with (go_at_call 43; refine (Hr.out _ hs).mono ?_; rintro e w1 ⟨rfl, E1⟩)
      go_ret
      exact ⟨rfl, E1⟩
    · rw [if_pos (by omega)]
      go_enter Tryd.func29, Tryd.ntmps29
      go_wp2_with (go_at_call 43; refine (Hr.out _ hs).mono ?_; rintro e w1 ⟨rfl, E1⟩)
      go_ret
      exact ⟨rfl, E1⟩
    · rw [if_pos (by omega)]
      go_enter Tryd.func29, Tryd.ntmps29
      go_wp2_with (go_at_call 43; refine (Hr.out _ hs).mono ?_; rintro e w1 ⟨rfl, E1⟩)
      go_ret
      exact ⟨rfl, E1⟩
    · rw [if_pos (by omega)]
      go_enter Tryd.func29, Tryd.ntmps29
      go_wp2_with (go_at_call 43; refine (Hr.out _ hs).mono ?_; rintro e w1 ⟨rfl, E1⟩)
      go_ret
      exact ⟨rfl, E1⟩
    · rw [if_neg (by omega)]
      go_enter Tryd.func29, Tryd.ntmps29
      go_wp2_with (go_at_call 43; refine (Hr.out _ hs).mono ?_; rintro e w1 ⟨rfl, E1⟩)
      go_ret
      exact ⟨rfl, E1⟩

/-- The checker behind its pointer. -/
structure Chk (w0 w : World) (cb : Nat) (A : Option Addr) (n c : Nat) (D : Nat) : Prop where
  blk : BlkT w cb 122 #[.slice A n c, .int .i64 (D : Int)]
  ext : Ext w0 w
  base : w0.heap.size ≤ cb

/-- What a message, or a value, is told to be; and how deep it went. -/
def MsgP (w : World) (cb : Nat) (A : Option Addr) (n c D fr depth : Nat) (V : Nat × Nat) (dp : Nat) (e : Ending) (w' : World) : Prop :=
  ∃ P D' : Nat, e = .returned (.tuple #[.int .i64 (P : Int), .int .u8 (V.2 : Int)]) ∧ (V.2 ≠ 0 → P = fr + V.1) ∧ Only cb w w' ∧ BlkT w' cb 122 #[.slice A n c, .int .i64 (D' : Int)] ∧ D ≤ D' ∧ D' ≤ 64 ∧ (V.2 = 0 → D' = max D (depth + dp))

def MsgK (k : Nat) : Prop := ∀ {w0 w : World} {A : Option Addr} {n c : Nat} {S : List MsgV} {cb D m : Nat} {M : MsgV} {B : Option Addr} {n' c' : Nat} {bs : List UInt8} {fr depth mo : Nat}, SchemaAt w0 A n c S → rightS (S.map MsgV.d) = true → S[m]? = some M → BytesAt w0 B n' c' bs → Chk w0 w cb A n c D → D ≤ 64 → depth + k = mo → mo ≤ 64 → fr + n' ≤ 1000000000 →
  Calls Tryd.prog 57 #[.pointer (some ⟨cb, 0, none⟩), .int .i64 (m : Int), .slice B n' c', .int .i64 (fr : Int), .int .i64 (depth : Int), .int .i64 (mo : Int)] w fun e w' => MsgP w cb A n c D fr depth (firstV (S.map MsgV.d) k m bs) (deepV (S.map MsgV.d) k m bs) e w' ∧ ((firstV (S.map MsgV.d) k m bs).2 = 0 → e = .returned (.tuple #[.int .i64 0, .int .u8 0]))

def ValK (k : Nat) : Prop := ∀ {w0 w : World} {A : Option Addr} {n c : Nat} {S : List MsgV} {cb D m : Nat} {M : MsgV} {B : Option Addr} {n' c' : Nat} {bs : List UInt8} {fr depth mo : Nat} {v : ViewD}, SchemaAt w0 A n c S → rightS (S.map MsgV.d) = true → S[m]? = some M → BytesAt w0 B n' c' bs → Chk w0 w cb A n c D → D ≤ 64 → depth ≤ D → depth + k = mo → mo ≤ 64 → fr + n' ≤ 1000000000 →
  v.r.f < v.r.a → v.r.a ≤ v.r.t → v.r.t ≤ n' → (v.field = -1 ∨ ∃ j f, v.field = (j : Nat) ∧ M.d.fields[j]? = some f) →
  Calls Tryd.prog 68 #[.pointer (some ⟨cb, 0, none⟩), .int .i64 (m : Int), viewV v, .slice B n' c', .int .i64 (fr : Int), .int .i64 (depth : Int), .int .i64 (mo : Int)] w (MsgP w cb A n c D fr depth (valueC (subC (S.map MsgV.d) k) M.d.fields bs v) (deepC (subD (S.map MsgV.d) k) M.d.fields bs v))

set_option maxRecDepth 100000 in
set_option maxHeartbeats 1000000 in
theorem vValue {k : Nat} (hK : ∀ k0, k = k0 + 1 → MsgK k0) : ValK k := by
  intro w0 w A n c S cb D m M B n' c' bs fr depth mo v hs hR hM hb hC hD hdD hdm hmo hfr hv1 hv2 hv3 hvf
  have HK := Lib.hid hK
  have hE0 : Ext w (w.alloc (.cells #[.int .i64 (v.r.n : Int), .int .i64 (v.r.w : Int), .int .i64 (v.r.f : Int), .int .i64 (v.r.a : Int), .int .i64 (v.r.t : Int), .int .i64 v.field, .bool v.run] 108)) := (by repeat with_reducible (first | exact Ext.refl _ | refine Ext.alloc ?_ _ | refine Ext.drew ?_ | refine Ext.drewN ?_ _ | refine Ext.setCell ?_ (by first | exact Nat.le_refl _ | omega | (simp; done) | (simp; omega)) _))
  have B0 := Ext.new_blk (Ext.refl (w.alloc (.cells #[.int .i64 (v.r.n : Int), .int .i64 (v.r.w : Int), .int .i64 (v.r.f : Int), .int .i64 (v.r.a : Int), .int .i64 (v.r.t : Int), .int .i64 v.field, .bool v.run] 108)))
  clear hK
  rcases hvf with hno | ⟨j, f, hj, hf⟩
  · obtain ⟨e1, e2⟩ := valueC_no (subC (S.map MsgV.d) k) (subD (S.map MsgV.d) k) (fs := M.d.fields) (bs := bs) hno
    rw [e1, e2]
    have hfin : MsgP w cb A n c D fr depth (0, 0) 0 (.returned (.tuple #[.int .i64 0, .int .u8 0])) (w.alloc (.cells #[.int .i64 (v.r.n : Int), .int .i64 (v.r.w : Int), .int .i64 (v.r.f : Int), .int .i64 (v.r.a : Int), .int .i64 (v.r.t : Int), .int .i64 v.field, .bool v.run] 108)) :=
      ⟨0, D, rfl, fun h => absurd rfl h, (Only.refl cb w).ext hE0, hC.blk.up hE0, Nat.le_refl _, hD, fun _ => by omega⟩
    have Hfin := Lib.hid hfin
    have c5 := B0.cell 5
    have cl := B0.lt
    have hneg : v.field < 0 := by omega
    unfold viewV
    obtain ⟨⟨rn, rw_, rf, ra, rt⟩, vf, vr⟩ := v
    simp only at c5 hneg Hfin
    clear hfin B0 hE0 hno e1 e2 hs hb hC hM
    go_enter Tryd.func68, Tryd.ntmps68
    go_wp2
    go_ret2
    exact Hfin.out
  · obtain ⟨b1, off1, M', rfl, hM', hfl, hnm, hb1, m0, m1⟩ := hs.msg (k := m) (by rw [← hs.length]; exact (List.getElem?_eq_some_iff.1 hM).1)
    rw [hM] at hM'
    cases hM'
    have hlt := (List.getElem?_eq_some_iff.1 hf).1
    rw [hfl.length] at hlt
    obtain ⟨b2, off2, f', hA2, hf', hok, hb2, d0, d1, d2, d3, d4, d5⟩ := hfl.field hlt
    rw [hf] at hf'
    cases hf'
    have hmn : m < n := by rw [← hs.length]; exact (List.getElem?_eq_some_iff.1 hM).1
    obtain ⟨A3, k3, hspan⟩ := spanB_at10 hb hv2 hv3
    have hX := hC.ext.trans hE0
    have hwl : w.heap.size < (w.alloc (.cells #[.int .i64 (v.r.n : Int), .int .i64 (v.r.w : Int), .int .i64 (v.r.f : Int), .int .i64 (v.r.a : Int), .int .i64 (v.r.t : Int), .int .i64 v.field, .bool v.run] 108)).heap.size := B0.lt
    have hO0 : Only cb w (w.alloc (.cells #[.int .i64 (v.r.n : Int), .int .i64 (v.r.w : Int), .int .i64 (v.r.f : Int), .int .i64 (v.r.a : Int), .int .i64 (v.r.t : Int), .int .i64 v.field, .bool v.run] 108)) := (Only.refl cb w).ext hE0
    have hC1 := hC.blk.up hE0
    have hcw := hC.blk.lt
    have hbase := hC.base
    have hwx : ∃ wx, wx = w.alloc (.cells #[.int .i64 (v.r.n : Int), .int .i64 (v.r.w : Int), .int .i64 (v.r.f : Int), .int .i64 (v.r.a : Int), .int .i64 (v.r.t : Int), .int .i64 v.field, .bool v.run] 108) := ⟨_, rfl⟩
    have x0 : (w.alloc (.cells #[.int .i64 (v.r.n : Int), .int .i64 (v.r.w : Int), .int .i64 (v.r.f : Int), .int .i64 (v.r.a : Int), .int .i64 (v.r.t : Int), .int .i64 v.field, .bool v.run] 108)).cell? ⟨w.heap.size, 0, none⟩ = some (.int .i64 (v.r.n : Int)) := B0.cell 0
    have y2 := B0.cell 2
    have y3 := B0.cell 3
    have y4 := B0.cell 4
    have y5 := B0.cell 5
    have y6 := B0.cell 6
    have z0 := hC1.cell 0
    have zl := hC1.lt
    have m1' := hX.of_cell m1
    have d0' := hX.of_cell d0
    have d1' := hX.of_cell d1
    have d2' := hX.of_cell d2
    have d3' := hX.of_cell d3
    have d4' := hX.of_cell d4
    have d5' := hX.of_cell d5
    have hsz0 := hX.size
    have hb1x := Nat.lt_of_lt_of_le hb1 hsz0
    have hb2x := Nat.lt_of_lt_of_le hb2 hsz0
    rw [hA2] at m1'
    unfold viewV
    obtain ⟨⟨rn, rw_, rf, ra, rt⟩, vf, vr⟩ := v
    simp only at hj y2 y3 y4 y5 y6 hv1 hv2 hv3 hO0 hC1 hX hwl z0 zl m1' d0' d1' d2' d3' d4' d5' hsz0 hb1x hb2x hE0 x0 hspan k3
    subst hj
    have hneg : ¬ (j : Int) < 0 := by omega
    have hjn : (j : Int) < M.n := by omega
    have hmi : (m : Int) < n := by omega
    have hr1 : (ra : Int) ≤ rt := by omega
    have hr2 : (rt : Int) ≤ n' := by omega
    have hcap := Reads.cap hb
    have wr1 : IntKind.i64.wrap ((fr : Int) + rf) = (fr : Int) + rf := IntWalk.i64_in _ ⟨by omega, by omega⟩
    have Hs := Lib.hid hs
    have Hb := Lib.hid hb
    have Hf := Lib.hid hf
    have HM := Lib.hid hM
    have HC := Lib.hid hC
    have Hspan := Lib.hid hspan
    have HA2 := Lib.hid hA2
    clear hs hb hf hM hC hspan hA2 B0 m0 m1 d0 d1 d2 d3 d4 d5 hfl hok hE0 hwx x0
    go_enter Tryd.func68, Tryd.ntmps68
    go_wp2
    generalize w.alloc (.cells #[.int .i64 (rn : Int), .int .i64 (rw_ : Int), .int .i64 (rf : Int), .int .i64 (ra : Int), .int .i64 (rt : Int), .int .i64 (j : Int), .bool vr] 108) = wx at *
    go_region_held3 (fun W => Ext wx W ∧ ∀ b o, b < wx.heap.size → W.cell? ⟨b, o, none⟩ = wx.cell? ⟨b, o, none⟩) ((refine Ext.keep ?_; repeat with_reducible (first | assumption | exact Ext.refl _ | refine Ext.alloc ?_ _ | refine Ext.drew ?_ | refine Ext.drewN ?_ _ | refine Ext.setCell ?_ (by first | exact Nat.le_refl _ | omega | (simp; done) | (simp; omega)) _))) (fail)
    have E1 : Ext wx (wx.alloc (.cells #[.string f.name, .int .i64 f.number, .int .i64 f.kind, .bool f.rep, .bool f.packed, .int .i64 f.of_] 43)).drew := (by repeat with_reducible (first | exact Ext.refl _ | refine Ext.alloc ?_ _ | refine Ext.drew ?_ | refine Ext.drewN ?_ _ | refine Ext.setCell ?_ (by first | exact Nat.le_refl _ | omega | (simp; done) | (simp; omega)) _))
    have Bf := Ext.new_blk_drew (Ext.refl (wx.alloc (.cells #[.string f.name, .int .i64 f.number, .int .i64 f.kind, .bool f.rep, .bool f.packed, .int .i64 f.of_] 43)).drew)
    generalize (wx.alloc (.cells #[.string f.name, .int .i64 f.number, .int .i64 f.kind, .bool f.rep, .bool f.packed, .int .i64 f.of_] 43)).drew = wy at *
    rename Ext wx wy ∧ _ => hS
    clear hS
    have v3 : wy.cell? ⟨w.heap.size, 3, none⟩ = some (.int .i64 (ra : Int)) := E1.of_cell y3
    have v6 : wy.cell? ⟨w.heap.size, 6, none⟩ = some (.bool vr) := E1.of_cell y6
    have g2 := Bf.cell 2
    have g5 := Bf.cell 5
    have gl := Bf.lt
    have hO1 := hO0.ext E1
    have hC2 := hC1.up E1
    have hspany := Hspan.out.up (hX.trans E1)
    have hXy := hX.trans E1
    have HC2 := Lib.hid hC2
    have hrt : rt - ra ≤ 1000000000 := by omega
    clear y2 y3 y4 y5 y6 z0 zl m1' d0' d1' d2' d3' d4' d5' Bf hC1 hO0 hX E1 hC2 k3 hb1x hb2x hsz0 hb1 hb2 hnm hneg
    by_cases hrun : vr = true
    · subst hrun
      obtain ⟨e1, e2⟩ := valueC_run (subC (S.map MsgV.d) k) (subD (S.map MsgV.d) k) (fs := M.d.fields) (bs := bs) (v := ⟨⟨rn, rw_, rf, ra, rt⟩, (j : Int), true⟩) rfl Hf.out rfl
      simp only at e1
      have hcnt := fun W (h : BytesAt W A3 (rt - ra) (c' - ra) (spanB bs ra rt)) => uCount (k := f.kind) h hrt
      generalize codeV f.kind (spanB bs ra rt) = C at *
      have Hcnt := Lib.hid hcnt
      have He1 := Lib.hid e1
      have He2 := Lib.hid e2
      clear e1 e2 hcnt
      go_wp2_with (go_at_call 34; refine (Hcnt.out _ hspany).mono ?_; rintro e w2 ⟨rfl, E2⟩)
      go_ret2
      rw [He1.out, He2.out]
      exact ⟨fr + rf, D, rfl, fun _ => rfl, hO1.ext E2, HC2.out.up E2, Nat.le_refl _, hD, fun _ => by omega⟩
    · obtain rfl : vr = false := by simpa using hrun
      clear hrun
      by_cases h15 : f.kind = 15
      · obtain ⟨e1, e2⟩ := valueC_text (subC (S.map MsgV.d) k) (subD (S.map MsgV.d) k) (fs := M.d.fields) (bs := bs) (v := ⟨⟨rn, rw_, rf, ra, rt⟩, (j : Int), false⟩) rfl Hf.out rfl h15
        simp only at e1
        have He1 := Lib.hid e1
        have He2 := Lib.hid e2
        have q15 : (f.kind == 15) = true := by rw [beq_iff_eq]; exact h15
        have hr := fun W (h : BytesAt W A3 (rt - ra) (c' - ra) (spanB bs ra rt)) => uRight h
        clear e1 e2 h15
        rcases hrt2 : rightT (spanB bs ra rt) with _ | _
        · rw [hrt2] at hr He1
          have Hr := Lib.hid hr
          clear hr hrt2
          go_wp2_with (go_at_call 81; refine (Hr.out _ hspany).mono ?_; rintro e w2 ⟨rfl, rfl⟩)
          go_ret2
          rw [He1.out, He2.out]
          exact ⟨fr + rf, D, rfl, fun _ => rfl, hO1, HC2.out, Nat.le_refl _, hD, fun h => by simp at h⟩
        · rw [hrt2] at hr He1
          have Hr := Lib.hid hr
          clear hr hrt2
          go_wp2_with (go_at_call 81; refine (Hr.out _ hspany).mono ?_; rintro e w2 ⟨rfl, rfl⟩)
          go_ret2
          rw [He1.out, He2.out]
          exact ⟨0, D, rfl, fun h => by simp at h, hO1, HC2.out, Nat.le_refl _, hD, fun _ => by omega⟩
      · have q15 : (f.kind == 15) = false := by rw [beq_eq_false_iff_ne]; exact h15
        by_cases h17 : f.kind = 17
        · have q17 : (f.kind == 17) = true := by rw [beq_iff_eq]; exact h17
          obtain ⟨e1, e2⟩ := valueC_sub (S := S.map MsgV.d) (d := k) (fs := M.d.fields) (bs := bs) (v := ⟨⟨rn, rw_, rf, ra, rt⟩, (j : Int), false⟩) rfl Hf.out rfl h17
          obtain ⟨o, ho, hol⟩ := right_of hR (i := m) (by rw [List.getElem?_map, HM.out]; rfl) Hf.out h17
          have Hol := Lib.hid hol
          clear h15 hol
          cases k with
          | zero =>
            have He1 := Lib.hid (e1 rfl)
            have hdm' : ((depth : Int) == mo) = true := by rw [beq_iff_eq]; omega
            clear e1 e2 h17 ho hdm
            go_wp2
            go_ret2
            rw [He1.out]
            exact ⟨fr + rf, D, rfl, fun _ => rfl, hO1, HC2.out, Nat.le_refl _, hD, fun h => by simp at h⟩
          | succ e =>
            obtain ⟨e3, e4⟩ := e2 e rfl
            simp only [ho, Int.toNat_natCast] at e3 e4
            have hdm' : ((depth : Int) == mo) = false := by rw [beq_eq_false_iff_ne]; omega
            obtain ⟨M2, hM2⟩ : ∃ M2, S[o]? = some M2 := ⟨_, List.getElem?_eq_getElem (by have := Hol.out; simpa using this)⟩
            have hcall := fun (W : World) (hC : Chk w0 W cb (some ⟨b1, off1, none⟩) n c D) => HK.out e rfl (fr := fr + ra) (depth := depth + 1) (mo := mo) Hs.out hR hM2 Hspan.out hC hD (by omega) hmo (by omega)
            generalize firstV (S.map MsgV.d) e o (spanB bs ra rt) = V at *
            generalize deepV (S.map MsgV.d) e o (spanB bs ra rt) = dp at *
            have e5 : ((fr + ra : Nat) : Int) = (fr : Int) + ra := rfl
            have e6 : ((depth + 1 : Nat) : Int) = (depth : Int) + 1 := rfl
            rw [e5, e6] at hcall
            have Hcall := Lib.hid hcall
            have He1 := Lib.hid e3
            have He2 := Lib.hid e4
            have hchk : Chk w0 wy cb (some ⟨b1, off1, none⟩) n c D := ⟨HC2.out, hXy, hbase⟩
            have wr2 : IntKind.i64.wrap ((fr : Int) + ra) = (fr : Int) + ra := IntWalk.i64_in _ ⟨by omega, by omega⟩
            rw [ho] at g5
            clear e1 e2 e3 e4 hcall hdm h17 ho hM2 e5 e6
            go_wp2_with (go_at_call 57; refine (Hcall.out _ hchk).mono ?_; rintro e w2 ⟨⟨P, D', rfl, p1, p2, p3, p4, p5, p6⟩, _⟩)
            go_ret2
            rw [He1.out, He2.out]
            exact ⟨P, D', rfl, fun h => by rw [p1 h]; simp only; omega, hO1.trans p2, p3, p4, p5, fun h => by rw [p6 h]; omega⟩
        · have q17 : (f.kind == 17) = false := by rw [beq_eq_false_iff_ne]; exact h17
          obtain ⟨e1, e2⟩ := valueC_other (subC (S.map MsgV.d) k) (subD (S.map MsgV.d) k) (fs := M.d.fields) (bs := bs) (v := ⟨⟨rn, rw_, rf, ra, rt⟩, (j : Int), false⟩) rfl Hf.out rfl h15 h17
          have He1 := Lib.hid e1
          have He2 := Lib.hid e2
          clear e1 e2 h15 h17
          go_wp2
          go_ret2
          rw [He1.out, He2.out]
          exact ⟨0, D, rfl, fun h => by simp at h, hO1, HC2.out, Nat.le_refl _, hD, fun _ => by omega⟩

set_option maxRecDepth 100000 in
set_option maxHeartbeats 1000000 in
theorem vMessage {k : Nat} (hv : ValK k) : MsgK k := by
  intro w0 w A n c S cb D m M B n' c' bs fr depth mo hs hR hM hb hC hD hdm hmo hfr
  have hmn : m < n := by rw [← hs.length]; exact (List.getElem?_eq_some_iff.1 hM).1
  obtain ⟨b1, off1, M', rfl, hM', hfl, hnm, hb1, m0, m1⟩ := hs.msg hmn
  rw [hM] at hM'
  cases hM'
  have hl := hb.length
  have hO := lookV_onward M.d.fields bs
  obtain ⟨f1, f2⟩ := firstV_from (S := S.map MsgV.d) (d := k) (m := m) (M := M.d) (by rw [List.getElem?_map, hM]; rfl) bs
  rw [f1, f2]
  have hmax : max (D : Int) (depth : Int) = ((max D depth : Nat) : Int) := by omega
  obtain ⟨D1, hD1⟩ : ∃ D1, D1 = max D depth := ⟨_, rfl⟩
  rw [← hD1] at hmax
  have hmx := fun W => run_max_i (P := Tryd.prog) #[3, 3] 3 .i64 .i64 (D : Int) (depth : Int) W
  rw [hmax] at hmx
  have z1 := hC.blk.cell 1
  have z1f := hC.blk.free 1
  have zl := hC.blk.lt
  have hO1 : Only cb w (w.setCell ⟨cb, 1, none⟩ (.int .i64 (D1 : Int))) := (Only.refl cb w).set 1 _
  have hB1 : BlkT (w.setCell ⟨cb, 1, none⟩ (.int .i64 (D1 : Int))) cb 122 #[.slice (some ⟨b1, off1, none⟩) n c, .int .i64 (D1 : Int)] := by
    have := hC.blk.set_ 1 (.int .i64 (D1 : Int))
    simpa using this
  have Hs := Lib.hid hs
  have Hb := Lib.hid hb
  have HM := Lib.hid hM
  have HC := Lib.hid hC
  have HB1 := Lib.hid hB1
  have HO := Lib.hid hO
  have Hl := Lib.hid hl
  have Hm0 := Lib.hid m0
  have Hm1 := Lib.hid m1
  have Hfl := Lib.hid hfl
  have Hv : Hid (ValK k) := hv
  have hmi : (m : Int) < n := by omega
  have HD1 := Lib.hid hD1
  have hnn : (n' : Int) ≤ 1000000000 := by omega
  have hfri : (fr : Int) + n' ≤ 1000000000 := by omega
  clear hs hb hC hB1 hO hl m0 m1 hfl hv hM f1 f2 hD1 hmax
  go_enter Tryd.func57, Tryd.ntmps57
  go_wp2
  go_loopw [14] (fun i wr => ∃ p Dp : Nat, p ≤ n' ∧ i = .int .i64 (p : Int) ∧ Only cb w wr ∧ Hid (BlkT wr cb 122 #[.slice (some ⟨b1, off1, none⟩) n c, .int .i64 (Dp : Int)]) ∧ D ≤ Dp ∧ depth ≤ Dp ∧ Dp ≤ 64 ∧
      Hid (fromC (subC (S.map MsgV.d) k) M.d.fields bs 0 = fromC (subC (S.map MsgV.d) k) M.d.fields bs p) ∧ Hid ((fromC (subC (S.map MsgV.d) k) M.d.fields bs p).2 = 0 → max D (depth + fromD (subD (S.map MsgV.d) k) M.d.fields bs 0) = max Dp (depth + fromD (subD (S.map MsgV.d) k) M.d.fields bs p)))
    (fun i _ => n' - (intOf i).toNat)
  case atStart => exact ⟨0, D1, Nat.zero_le _, rfl, hO1, HB1, by have := HD1.out; omega, by have := HD1.out; omega, by have := HD1.out; omega, rfl, fun _ => by have := HD1.out; omega⟩
  case round =>
    obtain ⟨p, Dp, hp, rfl, hOp, hBp, d1, d2, d3, hA, hDd⟩ := hrel
    have hE : Ext w0 wr := hOp.toExt HC.out.ext HC.out.base
    have c0 := hBp.out.cell 0
    have cl := hBp.out.lt
    have k0 : wr.cell? ⟨b1, off1 + m * 2, none⟩ = some (.string M.d.name) := hE.of_cell Hm0.out
    have k1 : wr.cell? ⟨b1, off1 + m * 2 + 1, none⟩ = some (.slice M.A M.n M.c) := hE.of_cell Hm1.out
    by_cases hm2 : (p : Int) < n'
    · rcases hv : lookV M.d.fields bs p with ⟨v, C⟩
      have hfw := Hfl.out.up hE
      have hbw := Hb.out.up hE
      have hM200 : M.n ≤ 1000000000000 := by
        have h1 := (right_msg hR (i := m) (m := M.d) (by rw [List.getElem?_map, HM.out]; rfl)).2.2.1
        rw [Hfl.out.length] at h1
        omega
      have hlk := fun (W : World) (h1 : FieldsAt W M.A M.n M.c M.d.fields) (h2 : BytesAt W B n' c' bs) => vLookN (s := M.d.name) h1 hM200 h2 (by omega) (show p < n' by omega) hv
      have Hlk := Lib.hid hlk
      clear hlk
      by_cases hC0 : C = 0
      · subst hC0
        have h2 := HO.out p (by rw [Hl.out]; omega) (by rw [hv])
        have h3 := nextV_ok (lookV_of hv).1
        have h4 := view_field hv
        rw [hv] at h2
        obtain ⟨⟨rn, rw_, rf, ra, rt⟩, vf, vr⟩ := v
        unfold ViewD.to at h2
        simp only at h2 h3 h4
        rw [Hl.out] at h2 h3
        have hval := fun (W : World) (hC : Chk w0 W cb (some ⟨b1, off1, none⟩) n c Dp) => Hv.out (fr := fr) (depth := depth) (mo := mo) (v := ⟨⟨rn, rw_, rf, ra, rt⟩, vf, vr⟩) Hs.out hR HM.out Hb.out hC d3 d2 hdm hmo hfr (by simp only; omega) (by simp only; omega) (by simp only; omega) h4
        unfold viewV at hval Hlk
        simp only at hval
        rcases hV : valueC (subC (S.map MsgV.d) k) M.d.fields bs ⟨⟨rn, rw_, rf, ra, rt⟩, vf, vr⟩ with ⟨P0, C0⟩
        rw [hV] at hval
        have Hval := Lib.hid hval
        have hbase := HC.out.base
        by_cases hC1 : C0 = 0
        · subst hC1
          have hA2 := fromC_ok (by rw [Hl.out]; omega) hv hV
          have hA3 := fun h => fromD_ok (sub := subC (S.map MsgV.d) k) (sd := subD (S.map MsgV.d) k) (by rw [Hl.out]; omega) hv h
          have HA2 := Lib.hid hA2
          have HA3 := Lib.hid hA3
          clear hA2 hA3 hval hv h3 h4 hV
          go_wp2_with (first | (go_at_call 67; refine (Hlk.out _ hfw hbw).mono ?_; rintro e w1 ⟨rfl, E1⟩) | (go_at_call 68; refine (Hval.out _ ⟨hBp.out.up (Ext.trans E1 (by repeat with_reducible (first | exact Ext.refl _ | refine Ext.alloc ?_ _ | refine Ext.drew ?_ | refine Ext.drewN ?_ _ | refine Ext.setCell ?_ (by first | exact Nat.le_refl _ | omega | (simp; done) | (simp; omega)) _))), hE.trans (Ext.trans E1 (by repeat with_reducible (first | exact Ext.refl _ | refine Ext.alloc ?_ _ | refine Ext.drew ?_ | refine Ext.drewN ?_ _ | refine Ext.setCell ?_ (by first | exact Nat.le_refl _ | omega | (simp; done) | (simp; omega)) _))), hbase⟩).mono ?_; rintro e w2 ⟨P, D', rfl, p1, p2, p3, p4, p5, p6⟩; have k4 : w2.cell? ⟨w1.heap.size, 4, none⟩ = some (.int .i64 (rt : Int)) := (p2.cell (p := ⟨w1.heap.size, 4, none⟩) (by simp) (by have := E1.size; show w1.heap.size ≠ cb; omega)).trans (by simp); have P2 := Lib.hid p2; have P3 := Lib.hid p3; have P6 := Lib.hid p6; clear p1 p2 p3 p6))
          go_roundw
          case rel =>
            refine ⟨rt, D', by omega, rfl, (hOp.ext (Ext.trans E1 (by repeat with_reducible (first | exact Ext.refl _ | refine Ext.alloc ?_ _ | refine Ext.drew ?_ | refine Ext.drewN ?_ _ | refine Ext.setCell ?_ (by first | exact Nat.le_refl _ | omega | (simp; done) | (simp; omega)) _)))).trans P2.out, P3, by omega, by omega, p5, ?_, ?_⟩
            · show _ = _
              rw [hA.out, HA2.out]
            · intro h
              have h1 := hDd.out (by rw [HA2.out]; exact h)
              have h2 := HA3.out h
              have h3 := P6.out trivial
              omega
          case measure => simp [intOf]; omega
        · have hA2 := fromC_bad (by rw [Hl.out]; omega) hv hV hC1
          have HA2 := Lib.hid hA2
          have q : ((C0 : Int) != 0) = true := by rw [bne_iff_ne]; omega
          have HC1 := Lib.hid hC1
          clear hA2 hval hv h3 h4 hV hC1
          go_wp2_with (first | (go_at_call 67; refine (Hlk.out _ hfw hbw).mono ?_; rintro e w1 ⟨rfl, E1⟩) | (go_at_call 68; refine (Hval.out _ ⟨hBp.out.up (Ext.trans E1 (by repeat with_reducible (first | exact Ext.refl _ | refine Ext.alloc ?_ _ | refine Ext.drew ?_ | refine Ext.drewN ?_ _ | refine Ext.setCell ?_ (by first | exact Nat.le_refl _ | omega | (simp; done) | (simp; omega)) _))), hE.trans (Ext.trans E1 (by repeat with_reducible (first | exact Ext.refl _ | refine Ext.alloc ?_ _ | refine Ext.drew ?_ | refine Ext.drewN ?_ _ | refine Ext.setCell ?_ (by first | exact Nat.le_refl _ | omega | (simp; done) | (simp; omega)) _))), hbase⟩).mono ?_; rintro e w2 ⟨P, D', rfl, p1, p2, p3, p4, p5, p6⟩; have P1 := Lib.hid p1; have P2 := Lib.hid p2; have P3 := Lib.hid p3; clear p1 p2 p3 p6))
          go_ret2
          rw [hA.out, HA2.out]
          exact ⟨⟨P, D', rfl, fun h => P1.out h, (hOp.ext (Ext.trans E1 (by repeat with_reducible (first | exact Ext.refl _ | refine Ext.alloc ?_ _ | refine Ext.drew ?_ | refine Ext.drewN ?_ _ | refine Ext.setCell ?_ (by first | exact Nat.le_refl _ | omega | (simp; done) | (simp; omega)) _)))).trans P2.out, P3.out, by omega, p5, fun h => absurd h HC1.out⟩, fun h => absurd h HC1.out⟩
      · have hA2 := fromC_look (sub := subC (S.map MsgV.d) k) (by rw [Hl.out]; omega) hv hC0
        have HA2 := Lib.hid hA2
        have q : ((C : Int) != 0) = true := by rw [bne_iff_ne]; omega
        have HC0 := Lib.hid hC0
        clear hA2 hv hC0
        go_wp2_with (go_at_call 67; refine (Hlk.out _ hfw hbw).mono ?_; rintro e w1 ⟨rfl, E1⟩; unfold viewV)
        go_ret2
        rw [hA.out, HA2.out]
        exact ⟨⟨fr + p, Dp, rfl, fun _ => rfl, hOp.ext (Ext.trans E1 (by repeat with_reducible (first | exact Ext.refl _ | refine Ext.alloc ?_ _ | refine Ext.drew ?_ | refine Ext.drewN ?_ _ | refine Ext.setCell ?_ (by first | exact Nat.le_refl _ | omega | (simp; done) | (simp; omega)) _))), hBp.out.up (Ext.trans E1 (by repeat with_reducible (first | exact Ext.refl _ | refine Ext.alloc ?_ _ | refine Ext.drew ?_ | refine Ext.drewN ?_ _ | refine Ext.setCell ?_ (by first | exact Nat.le_refl _ | omega | (simp; done) | (simp; omega)) _))), d1, d3, fun h => absurd h HC0.out⟩, fun h => absurd h HC0.out⟩
    · have hpn : p = n' := by omega
      have hA2 := fromC_end (sub := subC (S.map MsgV.d) k) (fs := M.d.fields) (bs := bs) (p := p) (by rw [Hl.out]; omega)
      have hA3 := fromD_end (sd := subD (S.map MsgV.d) k) (fs := M.d.fields) (bs := bs) (p := p) (by rw [Hl.out]; omega)
      have hfin : MsgP w cb (some ⟨b1, off1, none⟩) n c D fr depth (fromC (subC (S.map MsgV.d) k) M.d.fields bs 0) (fromD (subD (S.map MsgV.d) k) M.d.fields bs 0) (.returned (.tuple #[.int .i64 0, .int .u8 0])) wr := by
        have h1 := hDd.out (by rw [hA2])
        rw [hA.out, hA2]
        rw [hA3] at h1
        exact ⟨0, Dp, rfl, fun h => absurd rfl h, hOp, hBp.out, d1, d3, fun _ => by omega⟩
      have Hfin := Lib.hid hfin
      clear hfin hA2 hA3 hpn hDd
      go_wp2
      go_ret2
      exact ⟨Hfin.out, fun _ => rfl⟩

theorem vAll (k : Nat) : MsgK k ∧ ValK k := by
  induction k with
  | zero =>
    have hv : ValK 0 := vValue (fun k0 h => by omega)
    exact ⟨vMessage hv, hv⟩
  | succ k ih =>
    have hv : ValK (k + 1) := vValue (fun k0 h => by
      obtain rfl : k = k0 := by omega
      exact ih.1)
    exact ⟨vMessage hv, hv⟩

end Go.Proofs.YtlhbllaojjelcaaDoor
