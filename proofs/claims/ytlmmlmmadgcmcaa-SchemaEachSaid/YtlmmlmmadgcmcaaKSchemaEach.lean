/- The walk of the law SchemaEach, out of its callees' contracts. -/
import Derived.Test.YtlmmlmmadgcmcaaKSchemaChecks
import Derived.Test.YtlmmlmmadgcmcaaW7g
import Derived.Test.YtlmmlmmadgcmcaaS7c
import Derived.Test.YtlmmlmmadgcmcaaW10d
namespace Go.Proofs.Ytlmmlmmadgcmcaa
open Go.RowKit
set_option linter.unusedVariables false

theorem elemMsg : Elem Try.prog 23 37 2 40 := Elem.mk' (z := .agg #[.string ⟨#[]⟩, .slice none 0 0]) Try.underlying23 (by kernel_rfl) rfl (by omega)

theorem schema_take {w : World} {A : Option Addr} {n c : Nat} {S : List MsgV} (hs : SchemaAt w A n c S) {m : Nat} (hm : m ≤ n) :
    ∃ A', (∀ W : World, (Instr.slice 23 (.slice A n c) none (some (.int .i64 (m : Int))) none).run Try.prog W = .ok (.slice A' m c) W) ∧ SchemaAt w A' m c (S.take m) := by
  obtain ⟨A', h1, h2⟩ := cut_to elemMsg hs.1 .i64 hm
  rw [flat_take (size := 2) (fun _ => rfl)] at h2
  exact ⟨A', h1, h2, fun x hx => hs.2 x (List.mem_of_mem_take hx)⟩

theorem sch_name {S : List MsgV} (h : rightS (S.map MsgV.d) = true) {i : Nat} {m : MsgV} (hm : S[i]? = some m) : idxB (mnameP m.d.name) S = (i : Nat) := by
  have h1 := (right_msg h (i := i) (m := m.d) (by rw [List.getElem?_map, hm]; rfl)).2.1
  rw [← List.map_take, List.any_map] at h1
  exact idx_of_distinct (f := fun g : MsgV => g.d.name) hm h1

/-- No field of the message is of that one. -/
def NoUse (last : Nat) (m : MsgV) : Prop := ∀ f ∈ m.d.fields, ¬ (f.kind = 17 ∧ f.of_ = (last : Int))

set_option maxRecDepth 100000 in
set_option maxHeartbeats 2000000 in
theorem schemaEach_main {A : Option Addr} {n c : Nat} {S : List MsgV} {w : World} (hs : SchemaAt w A n c S) (hr : rightS (S.map MsgV.d) = true) :
    Calls Try.prog 4 #[.slice A n c] w fun e w' => e = .returned (.bool true) ∧ Ext w w' := by
  have hmax := Reads.max hs.1
  have hcap := Reads.cap hs.1
  unfold maxLen at hmax
  have hlen := hs.length
  have hl0 : (S.map MsgV.d).length = n := by rw [List.length_map, hlen]
  obtain ⟨b1, b2, _⟩ := rightS_inv hr
  rw [hl0] at b1 b2
  have hE := Ext.refl w
  obtain ⟨ls, hls⟩ : ∃ ls, n = ls + 1 := ⟨n - 1, by omega⟩
  have hLast : IntKind.i64.wrap ((n : Int) - 1) = (ls : Int) := by rw [IntWalk.i64_in _ (by omega)]; omega
  have hmsg : ∀ (i : Nat) m, S[i]? = some m → (S.map MsgV.d)[i]? = some m.d := fun i m h => by rw [List.getElem?_map, h]; rfl
  have Hr := Lib.hid hr
  have Hlen := Lib.hid hlen
  have Hl0 := Lib.hid hl0
  have Hmsg := Lib.hid hmsg
  have Hls := Lib.hid hls
  have hsub : (n : Int) - 1 = ls := by omega
  clear hr hlen hl0 hmsg hls
  go_enter Try.func4, Try.ntmps4
  go_wp2_with (first
    | (go_at_call 15; refine (alive07 _).mono ?_; rintro e w1 ⟨rfl, E1⟩; have X_ : Ext w w1 := Ext.trans (by repeat with_reducible (first | exact Ext.refl _ | refine Ext.alloc ?_ _ | refine Ext.drew ?_ | refine Ext.drewN ?_ _ | refine Ext.setCell ?_ (by first | exact Nat.le_refl _ | omega | (simp; done) | (simp; omega)) _)) E1; replace hs := hs.up X_; replace hE := hE.up X_; clear X_)
    | (go_at_call 16; refine (few07 hs).mono ?_; rintro e w2 ⟨x, rfl, E2⟩; have X_ : Ext w1 w2 := Ext.trans (by repeat with_reducible (first | exact Ext.refl _ | refine Ext.alloc ?_ _ | refine Ext.drew ?_ | refine Ext.drewN ?_ _ | refine Ext.setCell ?_ (by first | exact Nat.le_refl _ | omega | (simp; done) | (simp; omega)) _)) E2; replace hs := hs.up X_; replace hE := hE.up X_; clear X_)
    | (go_at_call 19; refine (sRight hs).mono ?_; rintro e w3 ⟨rfl, E3⟩; rw [Hr.out]; have X_ : Ext w2 w3 := Ext.trans (by repeat with_reducible (first | exact Ext.refl _ | refine Ext.alloc ?_ _ | refine Ext.drew ?_ | refine Ext.drewN ?_ _ | refine Ext.setCell ?_ (by first | exact Nat.le_refl _ | omega | (simp; done) | (simp; omega)) _)) E3; replace hs := hs.up X_; replace hE := hE.up X_; clear X_))
  · go_loopw [4, 5] (fun u i wr => ∃ (k : Nat) (t : Bool), k ≤ n ∧ i = .int .i64 k ∧ u = .bool t ∧ Hid (t = false → ∀ (j : Nat) m, j < k → j < ls → S[j]? = some m → NoUse ls m) ∧ Ext w3 wr) (fun _ i _ => n - (intOf i).toNat)
    case atStart => exact ⟨0, false, Nat.zero_le _, rfl, rfl, fun _ j m h => absurd h (Nat.not_lt_zero j), Ext.refl _⟩
    case round =>
      obtain ⟨k, t, hk, rfl, rfl, hU, hW⟩ := hrel
      by_cases hlt : k < n
      · have hlt2 : (k : Int) < n := by omega
        obtain ⟨bs, off, m, rfl, hm, hmf, hms, hb, c0, c1⟩ := (hs.up hW).msg hlt
        have hix := sch_name Hr.out hm
        have hrm := right_msg Hr.out (Hmsg.out k m hm)
        have hrf := fun (q : Nat) f hf => right_field (k := q) (f := f) Hr.out (Hmsg.out k m hm) hf
        obtain ⟨⟨mn, mfs⟩, mA, mnn, mc⟩ := m
        simp only at c0 c1 hmf hms hix hrm hrf
        have hml := hmf.length
        have hm200 : mnn ≤ 200 := by have := hrm.2.2.1; omega
        have Hix := Lib.hid hix
        have Hrf := Lib.hid hrf
        have Hml := Lib.hid hml
        have Hm := Lib.hid hm
        clear hix hrm hrf hml hm
        go_wp2_with (first
          | (go_at_call 20; refine (sMessage (hs.up hW) (by omega) Hix.out).mono ?_; rintro e w4 ⟨rfl, E4⟩; rw [if_neg (by omega), if_neg (by omega)]; have X_ : Ext wr w4 := Ext.trans (by repeat with_reducible (first | exact Ext.refl _ | refine Ext.alloc ?_ _ | refine Ext.drew ?_ | refine Ext.drewN ?_ _ | refine Ext.setCell ?_ (by first | exact Nat.le_refl _ | omega | (simp; done) | (simp; omega)) _)) E4; replace hmf := hmf.up X_; have E4' := X_; replace hW := hW.up X_; clear X_; have x0 := E4'.of_cell c0;  have x1 := E4'.of_cell c1;  have hb4 : bs < w4.heap.size := Nat.lt_of_lt_of_le hb E4'.size))
        go_loopw [4, 8] (fun u i wq => ∃ (q : Nat) (t2 : Bool), q ≤ mnn ∧ i = .int .i64 q ∧ u = .bool t2 ∧ Hid (t2 = false → t = false ∧ ∀ (z : Nat) f, z < q → k < ls → mfs[z]? = some f → ¬ (f.kind = 17 ∧ f.of_ = (ls : Int))) ∧ Ext w4 wq) (fun _ i _ => mnn - (intOf i).toNat)
        case atStart => exact ⟨0, t, Nat.zero_le _, rfl, rfl, fun h => ⟨h, fun z f h => absurd h (Nat.not_lt_zero z)⟩, Ext.refl _⟩
        case round =>
          obtain ⟨q, t2, hq, rfl, rfl, hV, hEq⟩ := hrel
          rename World => wq
          have z0 := hEq.of_cell x0
          have z1 := hEq.of_cell x1
          have hbq : bs < wq.heap.size := Nat.lt_of_lt_of_le hb4 hEq.size
          by_cases hltq : q < mnn
          · have hltq2 : (q : Int) < mnn := by omega
            obtain ⟨bf, of', f, rfl, hf, hfo, hbf, d0, d1, d2, d3, d4, d5⟩ := (hmf.up hEq).field hltq
            obtain ⟨hr1, hr2⟩ := Hrf.out q f hf
            have hr2' : idxB (fun g => g.number == f.number) mfs = (q : Nat) := hr2
            have hr1' : idxB (fnameP f.name) mfs = (q : Nat) := hr1
            obtain ⟨fn, fx, fk, fr, fp, fo⟩ := f
            simp only at d0 d1 d2 d3 d4 d5 hr1' hr2'
            have Hf := Lib.hid hf
            have H1 := Lib.hid hr1'
            have H2 := Lib.hid hr2'
            have hmx : max (q : Int) 0 = q := by omega
            have hde : decide (0 ≤ (q : Int)) = true := decide_eq_true (by omega)
            have Hmx := Lib.hid hmx
            have Hde := Lib.hid hde
            clear hf hr1 hr2 hr1' hr2' hmx hde hfo
            go_wp2
            have X0 : Ext wq (wq.alloc (.cells #[.string fn, .int .i64 fx, .int .i64 fk, .bool fr, .bool fp, .int .i64 fo] 39)) := (by repeat with_reducible (first | exact Ext.refl _ | refine Ext.alloc ?_ _ | refine Ext.drew ?_ | refine Ext.drewN ?_ _ | refine Ext.setCell ?_ (by first | exact Nat.le_refl _ | omega | (simp; done) | (simp; omega)) _))
            have B0 := BlkT.new wq 39 #[.string fn, .int .i64 fx, .int .i64 fk, .bool fr, .bool fp, .int .i64 fo] rfl
            generalize wq.alloc (.cells #[.string fn, .int .i64 fx, .int .i64 fk, .bool fr, .bool fp, .int .i64 fo] 39) = wx at *
            have y0 := X0.of_cell z0
            have y1 := X0.of_cell z1
            have hbx : bs < wx.heap.size := Nat.lt_of_lt_of_le hbq X0.size
            have g1 : wx.cell? ⟨wq.heap.size, 1, none⟩ = some (.int .i64 fx) := B0.cell 1
            have gl := B0.lt
            have hmx := hmf.up (hEq.trans X0)
            go_region_held3 (fun W => Ext wx W ∧ ∀ b o, b < wx.heap.size → W.cell? ⟨b, o, none⟩ = wx.cell? ⟨b, o, none⟩) ((refine Ext.keep ?_; repeat with_reducible (first | assumption | exact Ext.refl _ | refine Ext.alloc ?_ _ | refine Ext.drew ?_ | refine Ext.drewN ?_ _ | refine Ext.setCell ?_ (by first | exact Nat.le_refl _ | omega | (simp; done) | (simp; omega)) _)))
              (first | (go_split_ands; go_at_call 21; refine (sByNumber (hmx.up (by with_reducible assumption)) (by omega) H2.out).mono ?_; rintro e w5 ⟨rfl, E5⟩; rw [Hmx.out, Hde.out]; have Q5 : Ext wx w5 := Ext.trans (by with_reducible assumption) E5))
            all_goals
              rename Ext wx w5 ∧ _ => hS
              clear hS
              go_wp2
              have y0' := Q5.of_cell y0
              have y1' := Q5.of_cell y1
              have hbx' : bs < w5.heap.size := Nat.lt_of_lt_of_le hbx Q5.size
              have B5 := B0.up Q5
              have g0 : w5.cell? ⟨wq.heap.size, 0, none⟩ = some (.string fn) := B5.cell 0
              have gl' := B5.lt
              have hmx' := hmx.up Q5
              clear y0 y1 g1 z0 z1 d0 d1 d2 d3 d4 d5
              go_region_held3 (fun W => Ext w5 W ∧ ∀ b o, b < w5.heap.size → W.cell? ⟨b, o, none⟩ = w5.cell? ⟨b, o, none⟩) ((refine Ext.keep ?_; repeat with_reducible (first | assumption | exact Ext.refl _ | refine Ext.alloc ?_ _ | refine Ext.drew ?_ | refine Ext.drewN ?_ _ | refine Ext.setCell ?_ (by first | exact Nat.le_refl _ | omega | (simp; done) | (simp; omega)) _)))
                (first | (go_split_ands; go_at_call 22; refine (sByName (hmx'.up (by with_reducible assumption)) (by omega) H1.out).mono ?_; rintro e w6 ⟨rfl, E6⟩; rw [Hmx.out, Hde.out]; have Q6 : Ext w5 w6 := Ext.trans (by with_reducible assumption) E6))
              all_goals
                rename Ext w5 w6 ∧ _ => hS
                clear hS
                have B6 := B5.up Q6
                have g2 : w6.cell? ⟨wq.heap.size, 2, none⟩ = some (.int .i64 fk) := B6.cell 2
                have g5 : w6.cell? ⟨wq.heap.size, 5, none⟩ = some (.int .i64 fo) := B6.cell 5
                have gl6 := B6.lt
                have hEz := ((hEq.trans X0).trans Q5).trans Q6
                clear y0' y1' g0 B0 B5
                go_upto_region 21 with fail
                rcases t2 with _ | _
                · obtain ⟨hv1, hv2⟩ := hV.out rfl
                  have Hv2 := Lib.hid hv2
                  have next : (k < ls → ¬ (fk = 17 ∧ fo = (ls : Int))) → Hid (false = false → t = false ∧ ∀ (z : Nat) f, z < q + 1 → k < ls → mfs[z]? = some f → ¬ (f.kind = 17 ∧ f.of_ = (ls : Int))) := fun hno _ => ⟨hv1, fun z f hz hkl hzf => by
                    by_cases e : z = q
                    · subst e
                      have := Hf.out.symm.trans hzf
                      cases this
                      exact hno hkl
                    · exact Hv2.out z f (by omega) hkl hzf⟩
                  have Next := Lib.hid next
                  clear hv1 hv2 next
                  by_cases hkl : (k : Int) < ls
                  · by_cases h17 : fk = 17
                    · have k1 : ((fk : Int) == 17) = true := by rw [h17]; rfl
                      by_cases hol : fo = (ls : Int)
                      · have k2 : ((fo : Int) == (ls : Int)) = true := by rw [hol]; simp
                        clear h17 hol
                        go_wp2
                        go_roundw
                        case rel => exact ⟨q + 1, true, by omega, by go_num, rfl, (fun h => by cases h), hEz⟩
                        case measure => simp [intOf]; omega
                      · have k2 : ((fo : Int) == (ls : Int)) = false := by rw [beq_eq_false_iff_ne]; exact hol
                        have hno : k < ls → ¬ (fk = 17 ∧ fo = (ls : Int)) := fun _ h => hol h.2
                        have Hno := Lib.hid hno
                        clear h17 hol hno
                        go_wp2
                        go_roundw
                        case rel => exact ⟨q + 1, false, by omega, by go_num, rfl, Next.out Hno.out, hEz⟩
                        case measure => simp [intOf]; omega
                    · have k1 : ((fk : Int) == 17) = false := by rw [beq_eq_false_iff_ne]; exact h17
                      have hno : k < ls → ¬ (fk = 17 ∧ fo = (ls : Int)) := fun _ h => h17 h.1
                      have Hno := Lib.hid hno
                      clear h17 hno
                      go_wp2
                      go_roundw
                      case rel => exact ⟨q + 1, false, by omega, by go_num, rfl, Next.out Hno.out, hEz⟩
                      case measure => simp [intOf]; omega
                  · have hno : k < ls → ¬ (fk = 17 ∧ fo = (ls : Int)) := fun h => absurd h (by omega)
                    have Hno := Lib.hid hno
                    clear hno
                    go_wp2
                    go_roundw
                    case rel => exact ⟨q + 1, false, by omega, by go_num, rfl, Next.out Hno.out, hEz⟩
                    case measure => simp [intOf]; omega
                · go_wp2
                  go_roundw
                  case rel => exact ⟨q + 1, true, by omega, by go_num, rfl, (fun h => by cases h), hEz⟩
                  case measure => simp [intOf]; omega
          · have hqn : q = mnn := by omega
            subst hqn
            go_wp2
            go_roundw
            case rel =>
              refine ⟨k + 1, t2, by omega, by go_num, rfl, fun ht j m hj hjl hmj => ?_, hW.trans hEq⟩
              obtain ⟨h1, h2⟩ := hV.out ht
              by_cases e : j = k
              · subst e
                have := Hm.out.symm.trans hmj
                cases this
                intro f hf
                obtain ⟨z, hz⟩ := List.getElem?_of_mem hf
                exact h2 z f (by have := (List.getElem?_eq_some_iff.1 hz).1; have := Hml.out; simp only at *; omega) hjl hz
              · exact hU.out h1 j m (by omega) hjl hmj
            case measure => simp [intOf]; omega
      · have hkn : k = n := by omega
        subst hkn
        rcases t with _ | _
        · by_cases h0 : ls = 0
          · subst h0
            go_wp2
            go_ret
            exact ⟨rfl, hE.trans hW⟩
          · have hq0 : ((ls : Int) == 0) = false := by rw [beq_eq_false_iff_ne]; omega
            have hrl := right_less Hr.out (by rw [Hl0.out, Hls.out]; omega) (fun i m hi hm f hf => by
              rw [Hl0.out, Hls.out] at hi ⊢
              rw [List.getElem?_map] at hm
              rcases hS : S[i]? with _ | mv
              · rw [hS] at hm; cases hm
              · rw [hS] at hm
                simp only [Option.map_some, Option.some.injEq] at hm
                subst hm
                exact hU.out rfl i mv (by rw [Hls.out]; omega) (by omega) hS f hf)
            rw [Hl0.out, show k - 1 = ls from by rw [Hls.out]; omega, ← List.map_take] at hrl
            have Hrl := Lib.hid hrl
            obtain ⟨A2, hsl, hst⟩ := schema_take (hs.up hW) (m := ls) (by have := Hls.out; omega)
            clear h0 hrl
            go_wp2_with (first | (go_at_call 19; refine (sRight hst).mono ?_; rintro e w7 ⟨rfl, E7⟩; rw [Hrl.out]; have X_ : Ext wr w7 := Ext.trans (by repeat with_reducible (first | exact Ext.refl _ | refine Ext.alloc ?_ _ | refine Ext.drew ?_ | refine Ext.drewN ?_ _ | refine Ext.setCell ?_ (by first | exact Nat.le_refl _ | omega | (simp; done) | (simp; omega)) _)) E7; replace hW := hW.up X_; clear X_))
            go_ret
            exact ⟨rfl, hE.trans hW⟩
        · go_wp2
          go_ret
          exact ⟨rfl, hE.trans hW⟩
  · go_ret
    exact ⟨rfl, hE⟩

set_option maxRecDepth 100000 in
theorem schemaEach_walk {A : Option Addr} {n c : Nat} {S : List MsgV} {w : World} (hs : SchemaAt w A n c S) :
    Calls Try.prog 4 #[.slice A n c] w fun e w' => e = .returned (.bool true) ∧ Ext w w' := by
  rcases hr : rightS (S.map MsgV.d) with _ | _
  · have Hr := Lib.hid hr
    have hE := Ext.refl w
    clear hr
    go_enter Try.func4, Try.ntmps4
    go_wp2_with (first
      | (go_at_call 15; refine (alive07 _).mono ?_; rintro e w1 ⟨rfl, E1⟩; have X_ : Ext w w1 := Ext.trans (by repeat with_reducible (first | exact Ext.refl _ | refine Ext.alloc ?_ _ | refine Ext.drew ?_ | refine Ext.drewN ?_ _ | refine Ext.setCell ?_ (by first | exact Nat.le_refl _ | omega | (simp; done) | (simp; omega)) _)) E1; replace hs := hs.up X_; replace hE := hE.up X_; clear X_)
      | (go_at_call 16; refine (few07 hs).mono ?_; rintro e w2 ⟨x, rfl, E2⟩; have X_ : Ext w1 w2 := Ext.trans (by repeat with_reducible (first | exact Ext.refl _ | refine Ext.alloc ?_ _ | refine Ext.drew ?_ | refine Ext.drewN ?_ _ | refine Ext.setCell ?_ (by first | exact Nat.le_refl _ | omega | (simp; done) | (simp; omega)) _)) E2; replace hs := hs.up X_; replace hE := hE.up X_; clear X_)
      | (go_at_call 19; refine (sRight hs).mono ?_; rintro e w3 ⟨rfl, E3⟩; rw [Hr.out]; have X_ : Ext w2 w3 := Ext.trans (by repeat with_reducible (first | exact Ext.refl _ | refine Ext.alloc ?_ _ | refine Ext.drew ?_ | refine Ext.drewN ?_ _ | refine Ext.setCell ?_ (by first | exact Nat.le_refl _ | omega | (simp; done) | (simp; omega)) _)) E3; replace hs := hs.up X_; replace hE := hE.up X_; clear X_))
    all_goals
      go_ret
      exact ⟨rfl, hE⟩
  · exact schemaEach_main hs hr

end Go.Proofs.Ytlmmlmmadgcmcaa
