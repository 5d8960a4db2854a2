/- Contracts of layer 7: the reference's check. -/
import Derived.Test.YtlmmlmmadgcmcaaW7e
namespace Go.Proofs.Ytlmmlmmadgcmcaa
open Go.RowKit
set_option linter.unusedVariables false

set_option maxRecDepth 100000 in
set_option maxHeartbeats 2000000 in
theorem sCheckR {A : Option Addr} {n c : Nat} {S : List MsgV} {a b : Int} {W : Nat} {w : World} (hs : SchemaAt w A n c S) (h : checkV (S.map MsgV.d) = (a, b, W)) :
    Calls Try.prog 18 #[.slice A n c] w fun e w' => e = .returned (.tuple #[.int .i64 a, .int .i64 b, .int .i64 (W : Int)]) ∧ Ext w w' := by
  have hmax := Reads.max hs.1
  have hcap := Reads.cap hs.1
  unfold maxLen at hmax
  have hlen := hs.length
  have hl0 : (S.map MsgV.d).length = n := by rw [List.length_map, hlen]
  by_cases hc : n = 0 ∨ 100 < n
  · have hv : checkV (S.map MsgV.d) = (-1, -1, 1) := by unfold checkV; rw [hl0, if_pos hc]
    rw [hv] at h
    simp only [Prod.mk.injEq] at h
    obtain ⟨rfl, rfl, rfl⟩ := h
    clear hv hlen hl0
    rcases hc with hc | hc
    · subst hc
      go_enter Try.func18, Try.ntmps18
      go_wp2
      go_ret3
      exact ⟨rfl, Ext.refl _⟩
    · have h1 : ((n : Int) == 0) = false := by rw [beq_eq_false_iff_ne]; omega
      go_enter Try.func18, Try.ntmps18
      go_wp2
      go_ret3
      exact ⟨rfl, Ext.refl _⟩
  · have hn1 : ((n : Int) == 0) = false := by rw [beq_eq_false_iff_ne]; omega
    have hn2 : ¬ (100 : Int) < n := by omega
    have hn3 : n ≤ 100 := by omega
    obtain ⟨L, hL⟩ : ∃ L, L = S.map MsgV.d := ⟨_, rfl⟩
    rw [← hL] at h hl0
    have hmsg : ∀ k : Nat, k < n → ∃ m : MsgV, S[k]? = some m ∧ L[k]? = some m.d := fun k hk => by
      have h1 : S[k]? = some (S[k]'(by omega)) := List.getElem?_eq_getElem (by omega)
      refine ⟨_, h1, ?_⟩
      simp only [hL, List.getElem?_map, h1, Option.map_some]
    have hc' : ¬ (L.length = 0 ∨ 100 < L.length) := by rw [hl0]; exact hc
    have hbad := fun {i : Nat} {k : Int} {x : Nat} (hi : i < n) hb hf => checkV_bad (S := L) (i := i) (k := k) (w := x) hc' (by rw [hl0]; exact hi) hb hf
    have hok := fun hb => checkV_ok (S := L) hc' hb
    rw [hl0] at hok
    have Hv := Lib.hid h
    have Hl0 := Lib.hid hl0
    have Hmsg := Lib.hid hmsg
    have Hbad : Hid (∀ (i : Nat) (k : Int) (x : Nat), i < n → (∀ j, j < i → msgF L j = none) → msgF L i = some (k, x) → checkV L = ((i : Int), k, x)) := fun i k x h1 h2 h3 => hbad h1 h2 h3
    have Hok := Lib.hid hok
    clear h hL hl0 hlen hmsg hc' hbad hok hc
    go_enter Try.func18, Try.ntmps18
    go_wp2
    go_loopw [5] (fun i wr => ∃ k : Nat, k ≤ n ∧ i = .int .i64 k ∧ Hid (∀ j, j < k → msgF L j = none) ∧ Ext w wr) (fun i _ => n - (intOf i).toNat)
    case atStart => exact ⟨0, Nat.zero_le _, rfl, fun j h => absurd h (Nat.not_lt_zero j), Ext.refl _⟩
    case round =>
      obtain ⟨k, hk, rfl, hF, hE⟩ := hrel
      by_cases hlt : k < n
      · have hlt2 : (k : Int) < n := by omega
        obtain ⟨m, hm, hm0⟩ := Hmsg.out k hlt
        obtain ⟨bs, off, m', rfl, hm', hmf, hms, hb, c0, c1⟩ := (hs.up hE).msg hlt
        rw [hm] at hm'
        cases hm'
        obtain ⟨⟨mn, mfs⟩, mA, mnn, mc⟩ := m
        simp only at c0 c1 hm0 hmf hms
        have hml := hmf.length
        have hmm2 := Reads.cap hmf.1
        have hmm3 := Reads.max hmf.1
        unfold maxLen at hmm3
        have Hm0 := Lib.hid hm0
        have Hm := Lib.hid hm
        have Hml := Lib.hid hml
        clear hm0 hm hml
        go_wp2
        go_loopw [6, 7] (fun u i wq => ∃ q : Nat, q ≤ k ∧ i = .int .i64 q ∧ u = .bool ((L.take q).any fun g => decide (g.name = mn)) ∧ Ext wr wq) (fun _ i _ => k - (intOf i).toNat)
        case atStart => exact ⟨0, Nat.zero_le _, rfl, by simp, Ext.refl _⟩
        case round =>
          obtain ⟨q, hq, rfl, rfl, hEq⟩ := hrel
          rename World => wq
          by_cases hltq : q < k
          · have hltq2 : (q : Int) < k := by omega
            have hqn : (q : Int) < n := by omega
            obtain ⟨g, hg, hg0⟩ := Hmsg.out q (by omega)
            obtain ⟨bs', off', g', hA, hg', _, _, hb', z0, _⟩ := ((hs.up hE).up hEq).msg (k := q) (by omega)
            cases hA
            rw [hg] at hg'
            cases hg'
            obtain ⟨⟨gn, gfs⟩, gA, gnn, gc⟩ := g
            simp only at z0 hg0
            have x0 := hEq.of_cell c0
            have ha1 := any_snoc (p := fun g => decide (g.name = mn)) hg0
            simp only at ha1
            have hsq : ∀ t : Bool, (t || decide (gn = mn)) = (t || (gn.toList == mn.toList)) := fun t => by rw [str_eq]
            have Ha1 := Lib.hid ha1
            have Hsq := Lib.hid hsq
            clear ha1 hsq hg hg0
            rcases ha : (L.take q).any fun g => decide (g.name = mn) with _ | _
            all_goals
              have Ha := Lib.hid ha
              clear ha
              go_wp2
              go_quiet (fail)
              go_wp2
              go_roundw
              case rel => exact ⟨q + 1, by omega, by go_num, congrArg Value.bool (by rw [Ha1.out, Hsq.out, Ha.out]; simp), (by repeat with_reducible (first | exact hEq | exact Ext.refl _ | refine Ext.alloc ?_ _ | refine Ext.drew ?_ | refine Ext.drewN ?_ _ | refine Ext.setCell ?_ (by first | exact Nat.le_refl _ | omega | (simp; done) | (simp; omega)) _))⟩
              case measure => simp [intOf]; omega
          · have hqk : q = k := by omega
            subst hqk
            have x0 := hEq.of_cell c0
            have x1 := hEq.of_cell c1
            have hbq : bs < wq.heap.size := Nat.lt_of_lt_of_le hb hEq.size
            have hE2 := hE.trans hEq
            rcases h1 : nameB mn with _ | _
            · have hv := Hbad.out q (-1) 2 hlt hF (msgF_name Hm0.out h1)
              rw [Hv.out] at hv
              simp only [Prod.mk.injEq] at hv
              obtain ⟨rfl, rfl, rfl⟩ := hv
              have H1 := Lib.hid h1
              clear h1
              go_wp2_with (go_at_call 59; refine (sNameR hms _).mono ?_; rintro e w1 ⟨rfl, rfl⟩; rw [H1.out])
              go_ret3
              exact ⟨rfl, hE2⟩
            have H1 := Lib.hid h1
            rcases h2 : (L.take q).any (fun g => decide (g.name = mn)) with _ | _
            · by_cases h3 : (200 : Int) < mnn
              · have hv := Hbad.out q (-1) 4 hlt hF (msgF_many Hm0.out h1 h2 (by have := Hml.out; simp only; omega))
                rw [Hv.out] at hv
                simp only [Prod.mk.injEq] at hv
                obtain ⟨rfl, rfl, rfl⟩ := hv
                clear h1 h2
                go_wp2_with (go_at_call 59; refine (sNameR hms _).mono ?_; rintro e w1 ⟨rfl, rfl⟩; rw [H1.out])
                go_ret3
                exact ⟨rfl, hE2⟩
              · have H2 := Lib.hid h2
                clear h1 h2
                go_wp2_with (go_at_call 59; refine (sNameR hms _).mono ?_; rintro e w1 ⟨rfl, rfl⟩; rw [H1.out])
                go_loopw [8] (fun i wz => ∃ z : Nat, z ≤ mnn ∧ i = .int .i64 z ∧ Hid (∀ j, j < z → fieldF L.length mfs j = none) ∧ Ext wq wz) (fun i _ => mnn - (intOf i).toNat)
                case atStart => exact ⟨0, Nat.zero_le _, rfl, fun j h => absurd h (Nat.not_lt_zero j), Ext.refl _⟩
                case round =>
                  obtain ⟨z, hz, rfl, hFz, hEz⟩ := hrel
                  rename World => wz
                  have y1 := hEz.of_cell x1
                  have hbz : bs < wz.heap.size := Nat.lt_of_lt_of_le hbq hEz.size
                  have hE3 := hE2.trans hEz
                  by_cases hltz : z < mnn
                  · have hltz2 : (z : Int) < mnn := by omega
                    obtain ⟨f, hf⟩ : ∃ f, mfs[z]? = some f := ⟨_, List.getElem?_eq_getElem (by rw [Hml.out]; exact hltz)⟩
                    obtain ⟨W0, hW0⟩ : ∃ W0, faultV n (mfs.take z) f = W0 := ⟨_, rfl⟩
                    have hcall := sFaultR (hs.up hE3) hn3 Hm.out (k := z) hf
                    simp only at hcall
                    rw [hW0] at hcall
                    have Hcall := Lib.hid hcall
                    have HW0 := Lib.hid hW0
                    have Hf := Lib.hid hf
                    clear hcall hW0 hf
                    by_cases h0 : W0 = 0
                    · subst h0
                      go_wp2_with (go_at_call 60; refine Hcall.out.mono ?_; rintro e w3 ⟨rfl, E3⟩)
                      go_roundw
                      case rel =>
                        refine ⟨z + 1, by omega, by go_num, fun j hj => ?_, hEz.trans E3⟩
                        by_cases e : j = z
                        · subst e; exact fieldF_ok Hf.out (by rw [Hl0.out]; exact HW0.out)
                        · exact hFz.out j (by omega)
                      case measure => simp [intOf]; omega
                    · have hq0 : (0 : Int) < W0 := by omega
                      have hv := Hbad.out q z W0 hlt hF (msgF_field Hm0.out H1.out H2.out (by rw [Hml.out]; omega) Hf.out hFz.out (by rw [Hl0.out]; exact HW0.out) h0)
                      rw [Hv.out] at hv
                      simp only [Prod.mk.injEq] at hv
                      obtain ⟨rfl, rfl, rfl⟩ := hv
                      clear h0
                      go_wp2_with (go_at_call 60; refine Hcall.out.mono ?_; rintro e w3 ⟨rfl, E3⟩)
                      go_ret3
                      exact ⟨rfl, hE3.trans E3⟩
                  · have hzn : z = mnn := by omega
                    subst hzn
                    have hmo : msgF L q = none := msgF_ok Hm0.out H1.out H2.out (by rw [Hml.out]; omega) (fun j hj => hFz.out j (by rw [Hml.out] at hj; exact hj))
                    have Hmo := Lib.hid hmo
                    clear hmo
                    go_wp2
                    go_roundw
                    case rel =>
                      refine ⟨q + 1, by omega, by go_num, fun j hj => ?_, hE3⟩
                      by_cases e : j = q
                      · subst e; exact Hmo.out
                      · exact hF.out j (by omega)
                    case measure => simp [intOf]; omega
            · have hv := Hbad.out q (-1) 3 hlt hF (msgF_twice Hm0.out h1 h2)
              rw [Hv.out] at hv
              simp only [Prod.mk.injEq] at hv
              obtain ⟨rfl, rfl, rfl⟩ := hv
              clear h1 h2
              go_wp2_with (go_at_call 59; refine (sNameR hms _).mono ?_; rintro e w1 ⟨rfl, rfl⟩; rw [H1.out])
              go_ret3
              exact ⟨rfl, hE2⟩
      · have hkn : k = n := by omega
        subst hkn
        have hv := Hok.out hF
        rw [Hv.out] at hv
        simp only [Prod.mk.injEq] at hv
        obtain ⟨rfl, rfl, rfl⟩ := hv
        go_wp2
        go_ret3
        exact ⟨rfl, hE⟩

end Go.Proofs.Ytlmmlmmadgcmcaa
