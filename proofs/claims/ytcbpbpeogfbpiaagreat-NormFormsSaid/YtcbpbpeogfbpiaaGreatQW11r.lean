/- Contracts of layer 11: the reference. -/
import Derived.Test.YtcbpbpeogfbpiaaGreatQW11b

namespace Go.Proofs.YtcbpbpeogfbpiaaGreat
open Go.RowKit
set_option linter.unusedVariables false

theorem scan_where {α : Type} {s1 : Nat → α × Nat} {tt : α → Nat} {len : Nat} (hO : Onward s1 tt len) : ∀ (m p : Nat), len - p ≤ m → (scan s1 tt len p).2.2 ≠ 0 → (scan s1 tt len p).2.1 < len ∧ (s1 (scan s1 tt len p).2.1).2 = (scan s1 tt len p).2.2
  | 0, p, h, hc => by rw [scan_end (by omega)] at hc; exact absurd rfl hc
  | m + 1, p, h, hc => by
    by_cases hp : len ≤ p
    · rw [scan_end hp] at hc; exact absurd rfl hc
    · rcases hs : s1 p with ⟨x, C⟩
      by_cases hC : C = 0
      · subst hC
        have hx := hO p (by omega) (by rw [hs])
        rw [hs] at hx
        simp only at hx
        rw [scan_ok hO (by omega) hs] at hc ⊢
        unfold pre at hc ⊢
        by_cases c : (scan s1 tt len (tt x)).2.2 = 0
        · rw [if_pos c] at hc; exact absurd rfl hc
        · rw [if_neg c]
          exact scan_where hO m (tt x) (by omega) c
      · rw [scan_fail (by omega) hs hC]
        exact ⟨by simp only; omega, by rw [hs]⟩

theorem firstV_place (S : List MsgD) : ∀ (k m : Nat) (bs : List UInt8), (firstV S k m bs).1 ≤ bs.length := by
  have key : ∀ (sub : Option (Nat → List UInt8 → Nat × Nat)), (∀ g, sub = some g → ∀ m bs, (g m bs).1 ≤ bs.length) → ∀ m bs, (checkM sub S m bs).1 ≤ bs.length := by
    intro sub hs m bs
    unfold checkM
    rcases S[m]? with _ | M
    · simp
    · simp only
      unfold fromC
      by_cases hc : (scan (stepC sub M.fields bs) ViewD.to bs.length 0).2.2 = 0
      · rw [if_pos hc]; simp
      · rw [if_neg hc]
        obtain ⟨h1, h2⟩ := scan_where (stepC_and sub M.fields bs).1 bs.length 0 (by omega) hc
        generalize (scan (stepC sub M.fields bs) ViewD.to bs.length 0).2.1 = p at *
        simp only
        unfold placeC
        by_cases hl : (lookV M.fields bs p).2 = 0
        · rw [if_pos hl]
          have h3 := nextV_ok (lookV_of (v := (lookV M.fields bs p).1) (by rw [← hl])).1
          generalize (lookV M.fields bs p).1 = v at *
          unfold valueC
          split
          · simp
          · split
            · simp
            · split
              · simp only; omega
              · split
                · simp only; omega
                · split
                  · split
                    · simp only; omega
                    · have := hs _ rfl ‹FieldD›.of_.toNat (spanB bs v.r.a v.r.t)
                      rw [spanB_length bs h3.2.2.2.2] at this
                      simp only
                      omega
                  · simp
        · rw [if_neg hl]
          omega
  intro k
  induction k with
  | zero => exact key none (fun g h => by cases h)
  | succ k ih => exact key (some (firstV S k)) (fun g h => by cases h; exact ih)

def FirstK (k : Nat) : Prop := ∀ {w : World} {A : Option Addr} {n c : Nat} {S : List MsgV} {m : Nat} {M : MsgV} {B : Option Addr} {n' c' : Nat} {bs : List UInt8}, SchemaAt w A n c S → rightS (S.map MsgV.d) = true → S[m]? = some M → BytesAt w B n' c' bs → n' ≤ 1000000000 → k ≤ 64 →
  Calls Tryz.prog 54 #[.slice A n c, .int .i64 (m : Int), .slice B n' c', .int .i64 (k : Int)] w fun e w' => e = .returned (.tuple #[.int .i64 ((firstV (S.map MsgV.d) k m bs).1 : Nat), .int .i64 ((firstV (S.map MsgV.d) k m bs).2 : Nat)]) ∧ Ext w w'

set_option maxRecDepth 100000 in
set_option maxHeartbeats 2000000 in
theorem vFirstR {k : Nat} (hK : ∀ k0, k = k0 + 1 → FirstK k0) : FirstK k := by
  intro w A n c S m M B n' c' bs hs hR hM hb hn hk
  have hmn : m < n := by rw [← hs.length]; exact (List.getElem?_eq_some_iff.1 hM).1
  obtain ⟨b1, off1, M', rfl, hM', hfl, hnm, hb1, m0, m1⟩ := hs.msg hmn
  rw [hM] at hM'
  cases hM'
  have hl := hb.length
  have hO := lookV_onward M.d.fields bs
  have f1 := (firstV_from (S := S.map MsgV.d) (d := k) (m := m) (M := M.d) (by rw [List.getElem?_map, hM]; rfl) bs).1
  rw [f1]
  have HK := Lib.hid hK
  have Hs := Lib.hid hs
  have Hb := Lib.hid hb
  have HM := Lib.hid hM
  have HO := Lib.hid hO
  have Hl := Lib.hid hl
  have Hm0 := Lib.hid m0
  have Hm1 := Lib.hid m1
  have Hfl := Lib.hid hfl
  have hmi : (m : Int) < n := by omega
  have hni : (n' : Int) ≤ 1000000000 := by omega
  clear hs hb hO hl m0 m1 hfl hM f1 hK
  go_enter Tryz.func54, Tryz.ntmps54
  go_wp2
  go_loopw [10] (fun i wr => ∃ p : Nat, p ≤ n' ∧ i = .int .i64 (p : Int) ∧ Ext w wr ∧ Hid (fromC (subC (S.map MsgV.d) k) M.d.fields bs 0 = fromC (subC (S.map MsgV.d) k) M.d.fields bs p))
    (fun i _ => n' - (intOf i).toNat)
  case atStart => exact ⟨0, Nat.zero_le _, rfl, Ext.refl _, rfl⟩
  case round =>
    obtain ⟨p, hp, rfl, hE, hA⟩ := hrel
    have k0 : wr.cell? ⟨b1, off1 + m * 2, none⟩ = some (.string M.d.name) := hE.of_cell Hm0.out
    have k1 : wr.cell? ⟨b1, off1 + m * 2 + 1, none⟩ = some (.slice M.A M.n M.c) := hE.of_cell Hm1.out
    by_cases hm2 : (p : Int) < n'
    · rcases hv : lookV M.d.fields bs p with ⟨v, C⟩
      have hfw := Hfl.out.up hE
      have hbw := Hb.out.up hE
      have hM200 : M.n ≤ 1000000000000 := by
        have h1 := (right_msg hR (i := m) (m := M.d) (by rw [List.getElem?_map, HM.out]; rfl)).2.2.1
        rw [Hfl.out.length] at h1
        omega
      have hlk := fun (W : World) (h1 : FieldsAt W M.A M.n M.c M.d.fields) (h2 : BytesAt W B n' c' bs) => vLookRN (s := M.d.name) h1 hM200 h2 (by omega) (show p < n' by omega) hv
      have Hlk := Lib.hid hlk
      clear hlk
      by_cases hC0 : C = 0
      · subst hC0
        have h2 := HO.out p (by rw [Hl.out]; omega) (by rw [hv])
        have h3 := nextV_ok (lookV_of hv).1
        have h4 := view_field hv
        rw [hv] at h2
        obtain ⟨⟨rn, rw_, rf, ra, rt⟩, vf, vr⟩ := v
        unfold ViewD.to at h2
        simp only at h2 h3 h4
        rw [Hl.out] at h2 h3
        obtain ⟨_, hrfp, h3a, h3b, h3c⟩ := h3
        subst hrfp
        unfold viewV at Hlk
        have hok := fun (P : Nat) hV => fromC_ok (sub := subC (S.map MsgV.d) k) (by rw [Hl.out]; omega) hv (P := P) hV
        have hbad := fun (P C : Nat) hV hC => fromC_bad (sub := subC (S.map MsgV.d) k) (by rw [Hl.out]; omega) hv (P := P) (C := C) hV hC
        simp only at hok
        have Hok := Lib.hid hok
        have Hbad := Lib.hid hbad
        obtain ⟨A3, k3, hspan⟩ := spanB_at10 Hb.out h3b h3c
        have Hspan := Lib.hid hspan
        clear hok hbad hspan hv
        have cl4 : (rt : Int) ≤ n' := by omega
        rcases h4 with rfl | ⟨j, f, rfl, hf⟩
        · have hV := (valueC_no (subC (S.map MsgV.d) k) (subD (S.map MsgV.d) k) (fs := M.d.fields) (bs := bs) (v := ⟨⟨rn, rw_, rf, ra, rt⟩, -1, vr⟩) rfl).1
          have hA2 := Hok.out _ hV
          have HA2 := Lib.hid hA2
          clear hA2 hV
          go_wp2_with (go_at_call 99; refine (Hlk.out _ hfw hbw).mono ?_; rintro e w1 ⟨rfl, E1⟩)
          go_roundw
          case rel => exact ⟨rt, by omega, rfl, hE.trans (Ext.trans E1 (by repeat with_reducible (first | exact Ext.refl _ | refine Ext.alloc ?_ _ | refine Ext.drew ?_ | refine Ext.drewN ?_ _ | refine Ext.setCell ?_ (by first | exact Nat.le_refl _ | omega | (simp; done) | (simp; omega)) _))), by show _ = _; rw [hA.out, HA2.out]⟩
          case measure => simp [intOf]; omega
        · have hlt := (List.getElem?_eq_some_iff.1 hf).1
          have hfl := Hfl.out
          rw [hfl.length] at hlt
          obtain ⟨b2, off2, f', hA2, hf', hok, hb2, d0, d1, d2, d3, d4, d5⟩ := hfl.field hlt
          rw [hf] at hf'
          cases hf'
          rw [hA2] at k1 hfw Hlk
          have HA5 := Lib.hid hA2
          have Hf := Lib.hid hf
          have Hd0 := Lib.hid d0
          have Hd1 := Lib.hid d1
          have Hd2 := Lib.hid d2
          have Hd3 := Lib.hid d3
          have Hd4 := Lib.hid d4
          have Hd5 := Lib.hid d5
          have hneg : ¬ (j : Int) < 0 := by omega
          have hjn : (j : Int) < M.n := by omega
          clear hf hA2 hfl d0 d1 d2 d3 d4 d5 hok
          go_wp2_with (go_at_call 99; refine (Hlk.out _ hfw hbw).mono ?_; rintro e w1 ⟨rfl, E1⟩)
          have X1 : Ext w (w1.alloc (.cells #[.int .i64 (rn : Int), .int .i64 (rw_ : Int), .int .i64 (rf : Int), .int .i64 (ra : Int), .int .i64 (rt : Int), .int .i64 (j : Int), .bool vr] 144)) := hE.trans (Ext.trans E1 (by repeat with_reducible (first | exact Ext.refl _ | refine Ext.alloc ?_ _ | refine Ext.drew ?_ | refine Ext.drewN ?_ _ | refine Ext.setCell ?_ (by first | exact Nat.le_refl _ | omega | (simp; done) | (simp; omega)) _)))
          have B0 := Ext.new_blk (Ext.refl (w1.alloc (.cells #[.int .i64 (rn : Int), .int .i64 (rw_ : Int), .int .i64 (rf : Int), .int .i64 (ra : Int), .int .i64 (rt : Int), .int .i64 (j : Int), .bool vr] 144)))
          generalize w1.alloc (.cells #[.int .i64 (rn : Int), .int .i64 (rw_ : Int), .int .i64 (rf : Int), .int .i64 (ra : Int), .int .i64 (rt : Int), .int .i64 (j : Int), .bool vr] 144) = wx at *
          have y3 := B0.cell 3
          have y4 := B0.cell 4
          have y5 := B0.cell 5
          have y6 := B0.cell 6
          have yl := B0.lt
          have m1' := X1.of_cell Hm1.out
          rw [HA5.out] at m1'
          have d0' := X1.of_cell Hd0.out
          have d1' := X1.of_cell Hd1.out
          have d2' := X1.of_cell Hd2.out
          have d3' := X1.of_cell Hd3.out
          have d4' := X1.of_cell Hd4.out
          have d5' := X1.of_cell Hd5.out
          have hsz0 := X1.size
          have hb1x := Nat.lt_of_lt_of_le hb1 hsz0
          have hb2x := Nat.lt_of_lt_of_le hb2 hsz0
          clear k0 k1 hfw hbw Hlk Hd0 Hd1 Hd2 Hd3 Hd4 Hd5 B0
          go_region_held3 (fun W => Ext wx W ∧ ∀ b o, b < wx.heap.size → W.cell? ⟨b, o, none⟩ = wx.cell? ⟨b, o, none⟩) ((refine Ext.keep ?_; repeat with_reducible (first | assumption | exact Ext.refl _ | refine Ext.alloc ?_ _ | refine Ext.drew ?_ | refine Ext.drewN ?_ _ | refine Ext.setCell ?_ (by first | exact Nat.le_refl _ | omega | (simp; done) | (simp; omega)) _))) (fail)
          have E1' : Ext wx (wx.alloc (.cells #[.string f.name, .int .i64 f.number, .int .i64 f.kind, .bool f.rep, .bool f.packed, .int .i64 f.of_] 54)).drew := (by repeat with_reducible (first | exact Ext.refl _ | refine Ext.alloc ?_ _ | refine Ext.drew ?_ | refine Ext.drewN ?_ _ | refine Ext.setCell ?_ (by first | exact Nat.le_refl _ | omega | (simp; done) | (simp; omega)) _))
          have Bf := Ext.new_blk_drew (Ext.refl (wx.alloc (.cells #[.string f.name, .int .i64 f.number, .int .i64 f.kind, .bool f.rep, .bool f.packed, .int .i64 f.of_] 54)).drew)
          generalize (wx.alloc (.cells #[.string f.name, .int .i64 f.number, .int .i64 f.kind, .bool f.rep, .bool f.packed, .int .i64 f.of_] 54)).drew = wy at *
          rename Ext wx wy ∧ _ => hS
          clear hS
          have v3 : wy.cell? ⟨w1.heap.size, 3, none⟩ = some (.int .i64 (ra : Int)) := E1'.of_cell y3
          have v4 : wy.cell? ⟨w1.heap.size, 4, none⟩ = some (.int .i64 (rt : Int)) := E1'.of_cell y4
          have v6 : wy.cell? ⟨w1.heap.size, 6, none⟩ = some (.bool vr) := E1'.of_cell y6
          have g2 : wy.cell? ⟨wx.heap.size, 2, none⟩ = some (.int .i64 f.kind) := Bf.cell 2
          have g5 : wy.cell? ⟨wx.heap.size, 5, none⟩ = some (.int .i64 f.of_) := Bf.cell 5
          have gl := Bf.lt
          have X2 : Ext w wy := X1.trans E1'
          have hspany := Hspan.out.up X2
          have hrt : rt - ra ≤ 1000000000 := by omega
          clear y3 y4 y5 y6 m1' d0' d1' d2' d3' d4' d5' Bf E1' k3 hb1x hb2x hsz0 hb1 hb2 hnm hneg
          by_cases hrun : vr = true
          · subst hrun
            obtain ⟨e1, _⟩ := valueC_run (subC (S.map MsgV.d) k) (subD (S.map MsgV.d) k) (fs := M.d.fields) (bs := bs) (v := ⟨⟨rn, rw_, rf, ra, rt⟩, (j : Int), true⟩) rfl Hf.out rfl
            simp only at e1
            have hcnt := fun W (h : BytesAt W A3 (rt - ra) (c' - ra) (spanB bs ra rt)) => uEndsRA (k := f.kind) h hrt
            have hc2 : (endsV f.kind (spanB bs ra rt)).2 = codeV f.kind (spanB bs ra rt) := rfl
            rw [hc2] at hcnt
            generalize codeV f.kind (spanB bs ra rt) = C at *
            generalize (endsV f.kind (spanB bs ra rt)).1 = Es at *
            have Hcnt := Lib.hid hcnt
            clear hcnt hc2
            by_cases hC0 : C = 0
            · subst hC0
              have hA2 := Hok.out _ e1
              have HA2 := Lib.hid hA2
              clear hA2 e1
              go_wp2_with (go_at_call 100; refine (Hcnt.out _ hspany).mono ?_; rintro e w2 ⟨A4, c4, rfl, own2⟩; have v4 := own2.ext.of_cell v4)
              go_roundw
              case rel => exact ⟨rt, by omega, rfl, X2.trans own2.ext, by show _ = _; rw [hA.out, HA2.out]⟩
              case measure => simp [intOf]; omega
            · have hA2 := Hbad.out _ _ e1 hC0
              have HA2 := Lib.hid hA2
              have q : ((C : Int) != 0) = true := by rw [bne_iff_ne]; omega
              clear hA2 e1 hC0
              go_wp2_with (go_at_call 100; refine (Hcnt.out _ hspany).mono ?_; rintro e w2 ⟨A4, c4, rfl, own2⟩; have v4 := own2.ext.of_cell v4)
              go_ret2
              rw [hA.out, HA2.out]
              exact ⟨rfl, X2.trans own2.ext⟩
          · obtain rfl : vr = false := by simpa using hrun
            clear hrun
            by_cases h15 : f.kind = 15
            · obtain ⟨e1, _⟩ := valueC_text (subC (S.map MsgV.d) k) (subD (S.map MsgV.d) k) (fs := M.d.fields) (bs := bs) (v := ⟨⟨rn, rw_, rf, ra, rt⟩, (j : Int), false⟩) rfl Hf.out rfl h15
              simp only at e1
              have q15 : (f.kind == 15) = true := by rw [beq_iff_eq]; exact h15
              have q17 : (f.kind == 17) = false := by rw [beq_eq_false_iff_ne]; omega
              have hr := fun W (h : BytesAt W A3 (rt - ra) (c' - ra) (spanB bs ra rt)) => uRightR h hrt
              clear h15
              rcases hrt2 : rightT (spanB bs ra rt) with _ | _
              · rw [hrt2] at hr e1
                have hA2 := Hbad.out _ _ e1 (by simp)
                have Hr := Lib.hid hr
                have HA2 := Lib.hid hA2
                clear hr hrt2 e1 hA2
                go_wp2_with (go_at_call 79; refine (Hr.out _ hspany).mono ?_; rintro e w2 ⟨rfl, E2⟩; have v4 := E2.of_cell v4)
                go_ret2
                rw [hA.out, HA2.out]
                exact ⟨rfl, X2.trans E2⟩
              · rw [hrt2] at hr e1
                have hA2 := Hok.out _ e1
                have Hr := Lib.hid hr
                have HA2 := Lib.hid hA2
                clear hr hrt2 e1 hA2
                go_wp2_with (go_at_call 79; refine (Hr.out _ hspany).mono ?_; rintro e w2 ⟨rfl, E2⟩; have v4 := E2.of_cell v4; have g2 := E2.of_cell g2)
                go_roundw
                case rel => exact ⟨rt, by omega, rfl, X2.trans E2, by show _ = _; rw [hA.out, HA2.out]⟩
                case measure => simp [intOf]; omega
            · have q15 : (f.kind == 15) = false := by rw [beq_eq_false_iff_ne]; exact h15
              by_cases h17 : f.kind = 17
              · have q17 : (f.kind == 17) = true := by rw [beq_iff_eq]; exact h17
                obtain ⟨e1, e2⟩ := valueC_sub (S := S.map MsgV.d) (d := k) (fs := M.d.fields) (bs := bs) (v := ⟨⟨rn, rw_, rf, ra, rt⟩, (j : Int), false⟩) rfl Hf.out rfl h17
                obtain ⟨o, ho, hol⟩ := right_of hR (i := m) (by rw [List.getElem?_map, HM.out]; rfl) Hf.out h17
                have Hol := Lib.hid hol
                clear h15 hol h17
                by_cases hk0 : k = 0
                · have hA2 := Hbad.out _ _ (e1 hk0) (by simp)
                  have HA2 := Lib.hid hA2
                  have q0 : ((k : Int) == 0) = true := by rw [beq_iff_eq]; omega
                  clear e1 e2 ho hA2 hk0
                  go_wp2
                  go_ret2
                  rw [hA.out, HA2.out]
                  exact ⟨rfl, X2⟩
                · obtain ⟨e, he⟩ : ∃ e, k = e + 1 := ⟨k - 1, by omega⟩
                  have e3 := (e2 e he).1
                  simp only [ho, Int.toNat_natCast] at e3
                  obtain ⟨M2, hM2⟩ : ∃ M2, S[o]? = some M2 := ⟨_, List.getElem?_eq_getElem (by have := Hol.out; simpa using this)⟩
                  have hcall := fun (W : World) (E : Ext w W) => HK.out e he (Hs.out.up E) hR hM2 (Hspan.out.up E) hrt (by omega)
                  have hpl := firstV_place (S.map MsgV.d) e o (spanB bs ra rt)
                  rw [spanB_length bs (by rw [Hl.out]; exact h3c)] at hpl
                  generalize firstV (S.map MsgV.d) e o (spanB bs ra rt) = V at *
                  have Hcall := Lib.hid hcall
                  have q0 : ((k : Int) == 0) = false := by rw [beq_eq_false_iff_ne]; omega
                  have q1 : (k : Int) - 1 = e := by omega
                  have hk9 : (k : Int) ≤ 64 := by omega
                  rw [ho] at g5
                  clear e1 e2 hcall hM2 ho hk0 he
                  obtain ⟨P0, C0⟩ := V
                  simp only at e3 hpl
                  have hpl2 : (ra : Int) + P0 ≤ 1000000000 := by omega
                  by_cases hC0 : C0 = 0
                  · subst hC0
                    have hA2 := Hok.out _ e3
                    have HA2 := Lib.hid hA2
                    clear e3 hA2
                    go_wp2_with (go_at_call 54; refine (Hcall.out _ X2).mono ?_; rintro e w2 ⟨rfl, E2⟩; have v4 := E2.of_cell v4)
                    go_roundw
                    case rel => exact ⟨rt, by omega, rfl, X2.trans E2, by show _ = _; rw [hA.out, HA2.out]⟩
                    case measure => simp [intOf]; omega
                  · have hA2 := Hbad.out _ _ e3 hC0
                    have HA2 := Lib.hid hA2
                    have q : ((C0 : Int) != 0) = true := by rw [bne_iff_ne]; omega
                    clear e3 hA2 hC0
                    go_wp2_with (go_at_call 54; refine (Hcall.out _ X2).mono ?_; rintro e w2 ⟨rfl, E2⟩; have v3 := E2.of_cell v3)
                    go_ret2
                    rw [hA.out, HA2.out]
                    exact ⟨rfl, X2.trans E2⟩
              · have q17 : (f.kind == 17) = false := by rw [beq_eq_false_iff_ne]; exact h17
                obtain ⟨e1, _⟩ := valueC_other (subC (S.map MsgV.d) k) (subD (S.map MsgV.d) k) (fs := M.d.fields) (bs := bs) (v := ⟨⟨rn, rw_, rf, ra, rt⟩, (j : Int), false⟩) rfl Hf.out rfl h15 h17
                have hA2 := Hok.out _ e1
                have HA2 := Lib.hid hA2
                clear e1 h15 h17 hA2
                go_wp2
                go_roundw
                case rel => exact ⟨rt, by omega, rfl, X2, by show _ = _; rw [hA.out, HA2.out]⟩
                case measure => simp [intOf]; omega
      · have hA2 := fromC_look (sub := subC (S.map MsgV.d) k) (by rw [Hl.out]; omega) hv hC0
        have HA2 := Lib.hid hA2
        have q : ((C : Int) != 0) = true := by rw [bne_iff_ne]; omega
        clear hA2 hv hC0
        go_wp2_with (go_at_call 99; refine (Hlk.out _ hfw hbw).mono ?_; rintro e w1 ⟨rfl, E1⟩; unfold viewV)
        go_ret2
        rw [hA.out, HA2.out]
        exact ⟨rfl, hE.trans (Ext.trans E1 (by repeat with_reducible (first | exact Ext.refl _ | refine Ext.alloc ?_ _ | refine Ext.drew ?_ | refine Ext.drewN ?_ _ | refine Ext.setCell ?_ (by first | exact Nat.le_refl _ | omega | (simp; done) | (simp; omega)) _)))⟩
    · have hA2 := fromC_end (sub := subC (S.map MsgV.d) k) (fs := M.d.fields) (bs := bs) (p := p) (by rw [Hl.out]; omega)
      have HA2 := Lib.hid hA2
      clear hA2
      go_wp2
      go_ret2
      rw [hA.out, HA2.out]
      exact ⟨rfl, hE⟩

theorem vFirstAll (k : Nat) : FirstK k := by
  induction k with
  | zero => exact vFirstR (fun k0 h => by omega)
  | succ k ih => exact vFirstR (fun k0 h => by
      obtain rfl : k = k0 := by omega
      exact ih)

theorem vCheckR {A : Option Addr} {n c : Nat} {S : List MsgV} {root d : Int} {B : Option Addr} {n' c' : Nat} {bs : List UInt8} {w : World} (hs : SchemaAt w A n c S) (hb : BytesAt w B n' c' bs) (hn : n' ≤ 1000000000) :
    Calls Tryz.prog 13 #[.slice A n c, .int .i64 root, .slice B n' c', .int .i64 d] w fun e w' => e = .returned (.tuple #[.int .i64 ((checkB (S.map MsgV.d) root bs d).1 : Nat), .int .i64 ((checkB (S.map MsgV.d) root bs d).2 : Nat)]) ∧ Ext w w' := by
  have ha := fun (W : World) (h : SchemaAt W A n c S) => vArgsR (root := root) (d := d) h
  have hal := argsV_le (S.map MsgV.d) root d
  by_cases h0 : argsV (S.map MsgV.d) root d = 0
  · rw [h0] at ha
    have hck : checkB (S.map MsgV.d) root bs d = firstV (S.map MsgV.d) d.toNat root.toNat bs := by unfold checkB; rw [if_pos h0]
    have hR : rightS (S.map MsgV.d) = true := by
      unfold argsV at h0
      by_cases h : rightS (S.map MsgV.d) = false
      · rw [if_pos h] at h0; omega
      · simpa using h
    obtain ⟨r0, r1, d0, d1⟩ : 0 ≤ root ∧ root < n ∧ 0 ≤ d ∧ d ≤ 64 := by
      unfold argsV at h0
      rw [if_neg (by rw [hR]; simp), List.length_map, hs.length] at h0
      by_cases h : root < 0 ∨ (n : Int) ≤ root ∨ d < 0 ∨ 64 < d
      · rw [if_pos h] at h0; omega
      · omega
    obtain ⟨m, rfl⟩ := Int.eq_ofNat_of_zero_le r0
    obtain ⟨k, rfl⟩ := Int.eq_ofNat_of_zero_le d0
    rw [Int.toNat_natCast, Int.toNat_natCast] at hck
    obtain ⟨M, hM⟩ : ∃ M, S[m]? = some M := ⟨_, List.getElem?_eq_getElem (by rw [hs.length]; omega)⟩
    have hcall := fun (w1 : World) (E1 : Ext w w1) => vFirstAll k (hs.up E1) hR hM (hb.up E1) hn (by omega)
    rw [hck]
    generalize firstV (S.map MsgV.d) k m bs = V at *
    have Hcall := Lib.hid hcall
    have Ha := Lib.hid ha
    clear hcall ha h0 hck hR r0 r1 d0 d1 hM hal
    go_enter Tryz.func13, Tryz.ntmps13
    go_wp2_with (first | (go_at_call 53; refine (Ha.out _ hs).mono ?_; rintro e w1 ⟨rfl, E1⟩) | (go_at_call 54; refine (Hcall.out _ E1).mono ?_; rintro e w2 ⟨rfl, E2⟩))
    go_ret2
    exact ⟨rfl, E1.trans E2⟩
  · have hck : checkB (S.map MsgV.d) root bs d = (0, argsV (S.map MsgV.d) root d) := by unfold checkB; rw [if_neg h0]
    rw [hck]
    generalize argsV (S.map MsgV.d) root d = C at *
    have Ha := Lib.hid ha
    have q : ((C : Int) != 0) = true := by rw [bne_iff_ne]; omega
    clear ha hck h0
    go_enter Tryz.func13, Tryz.ntmps13
    go_wp2_with (go_at_call 53; refine (Ha.out _ hs).mono ?_; rintro e w1 ⟨rfl, E1⟩)
    go_ret2
    exact ⟨rfl, E1⟩

end Go.Proofs.YtcbpbpeogfbpiaaGreat
