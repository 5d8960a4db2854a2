/- Contracts of layer 7: a schema's check. -/
import Derived.Test.YtlmmlmmadgcmcaaW7c
namespace Go.Proofs.Ytlmmlmmadgcmcaa
open Go.RowKit
set_option linter.unusedVariables false

def codeC (W : Nat) : Nat := if W = 0 then 0 else 9

theorem codeC_0 : codeC 0 = 0 := rfl

theorem codeC_pos {W : Nat} (h : W ≠ 0) : codeC W = 9 := if_neg h

def okS (s : ByteArray) : Prop := s.size ≤ maxLen

def encS (s : ByteArray) : Value := .string s

theorem keyB_str7 : KeyB Try.prog 9 encS okS := keyB_string Try.underlying9

/-- The names met so far. -/
def namesM (L : List MsgD) : List (ByteArray × Value) := L.map fun m => (m.name, .int .i64 1)

theorem names_look (L : List MsgD) (s : ByteArray) : ((L.any fun g => decide (g.name = s)) = true ∧ getV s (namesM L) = some (.int .i64 1)) ∨ ((L.any fun g => decide (g.name = s)) = false ∧ ∀ q ∈ namesM L, q.1 ≠ s) := by
  induction L with
  | nil => exact .inr ⟨rfl, fun q hq => by simp [namesM] at hq⟩
  | cons m L ih =>
    have he : namesM (m :: L) = (m.name, .int .i64 1) :: namesM L := rfl
    by_cases h : m.name = s
    · refine .inl ⟨by simp [h], ?_⟩
      rw [he]; unfold getV; rw [if_pos h]
    · rw [List.any_cons, decide_eq_false h, Bool.false_or, he]
      rcases ih with ⟨a, b⟩ | ⟨a, b⟩
      · refine .inl ⟨a, ?_⟩
        unfold getV; rw [if_neg h]; exact b
      · refine .inr ⟨a, fun q hq => ?_⟩
        rcases List.mem_cons.1 hq with rfl | hq
        · exact h
        · exact b q hq

theorem MapV.madeAt {K : Type} (w : World) (enc : K → Value) (ok : K → Prop) {b : Nat} (hb : b = w.heap.size) : MapV (w.alloc (.map #[] 0)) b enc ok [] := by subst hb; exact MapV.made w enc ok

theorem MapV.other {K : Type} {w w' : World} {b b2 : Nat} {enc : K → Value} {ok : K → Prop} {M : List (K × Value)} (h : MapV w b2 enc ok M) (g : w.grownBy w' (some b)) (hne : b2 ≠ b) : MapV w' b2 enc ok M :=
  h.same (g.block b2 h.lt (fun e => hne (by injection e)))

theorem tagged_ok {S : List MsgD} {n : Nat} : ∀ (i : Nat) (L : List MsgD), (∀ m ∈ L, ∀ (k : Nat) f, m.fields[k]? = some f → faultV n (m.fields.take k) f = 0) → ∀ p ∈ tagged i L, okF p.2
  | _, [], _, p, h => by simp [tagged] at h
  | i, m :: L, hm, p, h => by
    unfold tagged at h
    rcases List.mem_append.1 h with h | h
    · obtain ⟨f, hf, rfl⟩ := List.mem_map.1 h
      obtain ⟨k, hk⟩ := List.getElem?_of_mem hf
      exact faultV_ok (hm m (.head _) k f hk)
    · exact tagged_ok (S := S) (n := n) (i + 1) L (fun m' hm' => hm m' (.tail _ hm')) p h

theorem fieldF_ok {n : Nat} {l : List FieldD} {k : Nat} {f : FieldD} (h : l[k]? = some f) (h0 : faultV n (l.take k) f = 0) : fieldF n l k = none := by unfold fieldF; simp only [h]; rw [if_pos h0]

theorem fieldF_inv {n : Nat} {l : List FieldD} {k : Nat} {f : FieldD} (h : l[k]? = some f) (h0 : fieldF n l k = none) : faultV n (l.take k) f = 0 := by
  unfold fieldF at h0
  simp only [h] at h0
  by_cases e : faultV n (l.take k) f = 0
  · exact e
  · rw [if_neg e] at h0; cases h0

set_option maxRecDepth 100000 in
set_option maxHeartbeats 2000000 in
theorem sCheck {A : Option Addr} {n c : Nat} {S : List MsgV} {a b : Int} {W : Nat} {w : World} (hs : SchemaAt w A n c S) (h : checkV (S.map MsgV.d) = (a, b, W)) :
    Calls Try.prog 17 #[.slice A n c] w fun e w' => e = .returned (.tuple #[.agg #[.int .i64 a, .int .i64 b, .int .i64 (W : Int)], .int .u8 (codeC W : Nat)]) ∧ Ext w w' := by
  have hmax := Reads.max hs.1
  have hcap := Reads.cap hs.1
  unfold maxLen at hmax
  have hlen := hs.length
  have hl0 : (S.map MsgV.d).length = n := by rw [List.length_map, hlen]
  by_cases hc : n = 0 ∨ 100 < n
  · have hv : checkV (S.map MsgV.d) = (-1, -1, 1) := by unfold checkV; rw [hl0, if_pos hc]
    rw [hv] at h
    simp only [Prod.mk.injEq] at h
    obtain ⟨rfl, rfl, rfl⟩ := h
    have hcd : codeC 1 = 9 := rfl
    rw [hcd]
    clear hv hcd hlen hl0
    rcases hc with hc | hc
    · subst hc
      go_enter Try.func17, Try.ntmps17
      go_wp2
      exact bodyPost_ret (v := .tuple #[.agg #[.int .i64 (-1), .int .i64 (-1), .int .i64 1], .int .u8 9]) (by simp [results, Try.results17, go_sem]) rfl ⟨rfl, (by repeat with_reducible (first | exact Ext.refl _ | refine Ext.alloc ?_ _ | refine Ext.drew ?_ | refine Ext.drewN ?_ _ | refine Ext.setCell ?_ (by first | exact Nat.le_refl _ | omega | (simp; done) | (simp; omega)) _))⟩
    · have h1 : ¬ (n : Int) < 1 := by omega
      go_enter Try.func17, Try.ntmps17
      go_wp2
      exact bodyPost_ret (v := .tuple #[.agg #[.int .i64 (-1), .int .i64 (-1), .int .i64 1], .int .u8 9]) (by simp [results, Try.results17, go_sem]) rfl ⟨rfl, (by repeat with_reducible (first | exact Ext.refl _ | refine Ext.alloc ?_ _ | refine Ext.drew ?_ | refine Ext.drewN ?_ _ | refine Ext.setCell ?_ (by first | exact Nat.le_refl _ | omega | (simp; done) | (simp; omega)) _))⟩
  · have hn1 : ¬ (n : Int) < 1 := by omega
    have hn2 : ¬ (100 : Int) < n := by omega
    obtain ⟨L, hL⟩ : ∃ L, L = S.map MsgV.d := ⟨_, rfl⟩
    rw [← hL] at h hl0
    have hmsg : ∀ k : Nat, k < n → ∃ m : MsgV, S[k]? = some m ∧ L[k]? = some m.d := fun k hk => by
      have h1 : S[k]? = some (S[k]'(by omega)) := List.getElem?_eq_getElem (by omega)
      refine ⟨_, h1, ?_⟩
      simp only [hL, List.getElem?_map, h1, Option.map_some]
    have hc' : ¬ (L.length = 0 ∨ 100 < L.length) := by rw [hl0]; exact hc
    have hbad := fun {i : Nat} {k : Int} {x : Nat} (hi : i < n) hb hf => checkV_bad (S := L) (i := i) (k := k) (w := x) hc' (by rw [hl0]; exact hi) hb hf
    have hok := fun hb => checkV_ok (S := L) hc' hb
    rw [hl0] at hok
    have Hv := Lib.hid h
    have HL := Lib.hid hL
    have Hl0 := Lib.hid hl0
    have Hlen := Lib.hid hlen
    have Hmsg := Lib.hid hmsg
    have Hbad : Hid (∀ (i : Nat) (k : Int) (x : Nat), i < n → (∀ j, j < i → msgF L j = none) → msgF L i = some (k, x) → checkV L = ((i : Int), k, x)) := fun i k x h1 h2 h3 => hbad h1 h2 h3
    have Hok := Lib.hid hok
    obtain ⟨C, hC⟩ : ∃ C, codeC W = C := ⟨_, rfl⟩
    rw [hC]
    have HC := Lib.hid hC
    clear h hL hl0 hlen hmsg hc' hbad hok hc hC
    go_enter Try.func17, Try.ntmps17
    have hmm := @run_makeMap Try.prog
    go_wp2
    go_loopw [25] (fun i wr => ∃ k : Nat, k ≤ n ∧ i = .int .i64 k ∧ Hid (∀ j, j < k → msgF L j = none) ∧ MapV wr (w.heap.size + 1) encS okS (namesM (L.take k)) ∧ MapV wr (w.heap.size + 2) encMet okMet (metM (tagged 0 (L.take k))) ∧
      BlkT wr w.heap.size 27 #[.int .i64 0, .int .i64 0, .int .i64 0] ∧ Ext w wr) (fun i _ => n - (intOf i).toNat)
    case atStart =>
      refine ⟨0, Nat.zero_le _, rfl, fun j h => absurd h (Nat.not_lt_zero j), ?_, ?_, ?_, (by repeat with_reducible (first | exact Ext.refl _ | refine Ext.alloc ?_ _ | refine Ext.drew ?_ | refine Ext.drewN ?_ _ | refine Ext.setCell ?_ (by first | exact Nat.le_refl _ | omega | (simp; done) | (simp; omega)) _))⟩
      · exact (MapV.madeAt (w.alloc _) encS okS (by simp)).up (Ext.alloc (Ext.refl _) _)
      · exact MapV.madeAt ((w.alloc _).alloc _) encMet okMet (by simp)
      · exact ((BlkT.new w _ _ rfl).alloc _).alloc _
    case round =>
      obtain ⟨k, hk, rfl, hF, hN, hM, hR, hE⟩ := hrel
      have Rl := hR.lt
      by_cases hlt : k < n
      · have hlt2 : (k : Int) < n := by omega
        obtain ⟨m, hm, hm0⟩ := Hmsg.out k hlt
        obtain ⟨bs, off, m', rfl, hm', hmf, hms, hb, c0, c1⟩ := (hs.up hE).msg hlt
        rw [hm] at hm'
        cases hm'
        obtain ⟨⟨mn, mfs⟩, mA, mnn, mc⟩ := m
        simp only at c0 c1 hm0 hmf hms
        have hml := hmf.length
        have hmm2 := Reads.cap hmf.1
        have hmm3 := Reads.max hmf.1
        unfold maxLen at hmm3
        have Hm0 := Lib.hid hm0
        have Hm := Lib.hid hm
        have HN := Lib.hid hN
        have HM := Lib.hid hM
        have HR := Lib.hid hR
        have Hml := Lib.hid hml
        have X0 : Ext wr (wr.alloc (.cells #[.string mn, .slice mA mnn mc] 37)) := (by repeat with_reducible (first | exact Ext.refl _ | refine Ext.alloc ?_ _ | refine Ext.drew ?_ | refine Ext.drewN ?_ _ | refine Ext.setCell ?_ (by first | exact Nat.le_refl _ | omega | (simp; done) | (simp; omega)) _))
        have B0 := BlkT.new wr 37 #[.string mn, .slice mA mnn mc] rfl
        rcases h1 : nameB mn with _ | _
        · have hv := Hbad.out k (-1) 2 hlt hF (msgF_name hm0 h1)
          rw [Hv.out] at hv
          simp only [Prod.mk.injEq] at hv
          obtain ⟨rfl, rfl, rfl⟩ := hv
          have H1 := Lib.hid h1
          have r0 := hR.cell 0
          have r1 := hR.cell 1
          have r2 := hR.cell 2
          have y0 := hR.free 0
          have y1 := hR.free 1
          have y2 := hR.free 2
          clear h1 hm hm0 hN hM hR hml
          obtain rfl : C = 9 := by rw [← HC.out]; rfl
          go_wp2_with (go_at_call 57; refine (sNamed hms _).mono ?_; rintro e w1 ⟨rfl, rfl⟩; rw [H1.out])
          exact bodyPost_ret (v := .tuple #[.agg #[.int .i64 (k), .int .i64 (-1), .int .i64 (2)], .int .u8 9]) (by simp [results, Try.results17, go_sem, *]) rfl ⟨rfl, (by repeat with_reducible (first | exact hE | exact Ext.refl _ | refine Ext.alloc ?_ _ | refine Ext.drew ?_ | refine Ext.drewN ?_ _ | refine Ext.setCell ?_ (by first | exact Nat.le_refl _ | omega | (simp; done) | (simp; omega)) _))⟩
        · have H1 := Lib.hid h1
          have hNx := hN.up X0
          rcases names_look (L.take k) mn with ⟨h2, hg⟩ | ⟨h2, hg⟩
          · have hv := Hbad.out k (-1) 3 hlt hF (msgF_twice hm0 h1 h2)
            rw [Hv.out] at hv
            simp only [Prod.mk.injEq] at hv
            obtain ⟨rfl, rfl, rfl⟩ := hv
            obtain rfl : C = 9 := by rw [← HC.out]; rfl
            have hlk := (hNx.look keyB_str7 Try.underlying102 zeroInt7 (x := mn) (by unfold okS maxLen; omega)).1
            rw [hg, Option.getD_some] at hlk
            unfold encS at hlk
            have r0 := hR.cell 0
            have r1 := hR.cell 1
            have r2 := hR.cell 2
            have y0 := hR.free 0
            have y1 := hR.free 1
            have y2 := hR.free 2
            clear h1 h2 hg hm hm0 hN hM hR hml hNx
            go_wp2_with (go_at_call 57; refine (sNamed hms _).mono ?_; rintro e w1 ⟨rfl, rfl⟩; rw [H1.out])
            exact bodyPost_ret (v := .tuple #[.agg #[.int .i64 (k), .int .i64 (-1), .int .i64 (3)], .int .u8 9]) (by simp [results, Try.results17, go_sem, *]) rfl ⟨rfl, (by repeat with_reducible (first | exact hE | exact Ext.refl _ | refine Ext.alloc ?_ _ | refine Ext.drew ?_ | refine Ext.drewN ?_ _ | refine Ext.setCell ?_ (by first | exact Nat.le_refl _ | omega | (simp; done) | (simp; omega)) _))⟩
          · have hlk := (hNx.look keyB_str7 Try.underlying102 zeroInt7 (x := mn) (by unfold okS maxLen; omega)).1
            rw [getV_none hg, Option.getD_none] at hlk
            unfold encS at hlk
            by_cases h3 : (200 : Int) < mnn
            · have hv := Hbad.out k (-1) 4 hlt hF (msgF_many hm0 h1 h2 (by simp only; omega))
              rw [Hv.out] at hv
              simp only [Prod.mk.injEq] at hv
              obtain ⟨rfl, rfl, rfl⟩ := hv
              obtain rfl : C = 9 := by rw [← HC.out]; rfl
              have r0 := hR.cell 0
              have r1 := hR.cell 1
              have r2 := hR.cell 2
              have y0 := hR.free 0
              have y1 := hR.free 1
              have y2 := hR.free 2
              clear h1 h2 hg hm hm0 hN hM hR hml hNx
              go_wp2_with (go_at_call 57; refine (sNamed hms _).mono ?_; rintro e w1 ⟨rfl, rfl⟩; rw [H1.out])
              exact bodyPost_ret (v := .tuple #[.agg #[.int .i64 (k), .int .i64 (-1), .int .i64 (4)], .int .u8 9]) (by simp [results, Try.results17, go_sem, *]) rfl ⟨rfl, (by repeat with_reducible (first | exact hE | exact Ext.refl _ | refine Ext.alloc ?_ _ | refine Ext.drew ?_ | refine Ext.drewN ?_ _ | refine Ext.setCell ?_ (by first | exact Nat.le_refl _ | omega | (simp; done) | (simp; omega)) _))⟩
            · obtain ⟨wu, run1, hNu, gu⟩ := hNx.put keyB_str7 Try.underlying102 (x := mn) (by unfold okS maxLen; omega) (.int .i64 1)
              rw [putV_new hg] at hNu
              have hne : w.heap.size + 2 ≠ w.heap.size + 1 := by omega
              have hMu := (hM.up X0).other gu hne
              have hRu := (hR.up X0).grown gu (by omega)
              have hBu := B0.grown gu (by have := hN.lt; omega)
              have hEu : Ext w wu := Ext.into (hE.trans X0) gu (by omega)
              unfold encS at run1
              have HNu := Lib.hid hNu
              have HMu := Lib.hid hMu
              have HRu := Lib.hid hRu
              have Hh2 := Lib.hid h2
              have Hh1 := Lib.hid h1
              have q0 : wu.cell? ⟨wr.heap.size, 0, none⟩ = some (.string mn) := hBu.cell 0
              have q1 : wu.cell? ⟨wr.heap.size, 1, none⟩ = some (.slice mA mnn mc) := hBu.cell 1
              have ql := hBu.lt
              clear h1 h2 hg hm hm0 hN hM hR hml hNx hNu hMu hRu hBu gu
              go_wp2_with (go_at_call 57; refine (sNamed hms _).mono ?_; rintro e w1 ⟨rfl, rfl⟩; rw [H1.out])
              have htk : (L.take k).length = k := by rw [List.length_take, Hl0.out]; omega
              have hPk : ∀ p ∈ tagged 0 (L.take k), okF p.2 := tagged_ok (S := L) (n := L.length) 0 (L.take k) (fun m' hm' k' f' hf' => by
                obtain ⟨j, hj⟩ := List.getElem?_of_mem hm'
                have hjk : j < k := by have := (List.getElem?_eq_some_iff.1 hj).1; omega
                rw [List.getElem?_take_of_lt hjk] at hj
                exact (msgF_inv hj (hF.out j hjk)).2.2.2 k' f' hf')
              have Htk := Lib.hid htk
              have HPk := Lib.hid hPk
              clear htk hPk
              go_loopw [59] (fun i wq => ∃ q : Nat, q ≤ mnn ∧ i = .int .i64 q ∧ Hid (∀ j, j < q → fieldF L.length mfs j = none) ∧ Hid (MapV wq (w.heap.size + 1) encS okS (namesM (L.take k) ++ [(mn, .int .i64 1)])) ∧
                Hid (MapV wq (w.heap.size + 2) encMet okMet (metM (tagged 0 (L.take k) ++ (mfs.take q).map fun f => (k, f)))) ∧ Hid (BlkT wq w.heap.size 27 #[.int .i64 0, .int .i64 0, .int .i64 0]) ∧ Ext w wq) (fun i _ => mnn - (intOf i).toNat)
              case atStart => exact ⟨0, Nat.zero_le _, rfl, fun j h => absurd h (Nat.not_lt_zero j), HNu, by show Hid _; simpa using HMu, HRu, hEu⟩
              case round =>
                obtain ⟨q, hq, rfl, hFq, hNq, hMq, hRq, hEq⟩ := hrel
                rename World => wq
                have Rlq := hRq.out.lt
                have Mlq := hMq.out.lt
                by_cases hltq : q < mnn
                · have hltq2 : (q : Int) < mnn := by omega
                  obtain ⟨bf, of', f, rfl, hf, hfo, hbf, d0, d1, d2, d3, d4, d5⟩ := ((hs.up hEq).2 ⟨⟨mn, mfs⟩, mA, mnn, mc⟩ (List.mem_of_getElem? Hm.out)).1.field hltq
                  simp only at hf
                  have hPq : ∀ p ∈ tagged 0 (L.take k) ++ (mfs.take q).map fun f => (k, f), okF p.2 := by
                    intro p hp
                    rcases List.mem_append.1 hp with hp | hp
                    · exact HPk.out p hp
                    · obtain ⟨g, hg, rfl⟩ := List.mem_map.1 hp
                      obtain ⟨j, hj⟩ := List.getElem?_of_mem hg
                      have hjq : j < q := by have := (List.getElem?_eq_some_iff.1 hj).1; rw [List.length_take] at this; omega
                      rw [List.getElem?_take_of_lt hjq] at hj
                      exact faultV_ok (fieldF_inv hj (hFq.out j hjq))
                  have hta : ∀ p : FieldD → Bool, ((tagged 0 (L.take k) ++ (mfs.take q).map fun f => (k, f)).any fun x => decide (x.1 = k) && p x.2) = (mfs.take q).any p := fun p => by
                    have := tagged_any (S := L.take k) (l := mfs.take q) (q := p)
                    rw [Htk.out] at this
                    exact this
                  have hta1 := hta fun g => decide (g.name = f.name)
                  have hta2 := hta fun g => decide (g.number = f.number)
                  have htq := take_snoc mfs q f hf
                  obtain ⟨W0, hW0⟩ : ∃ W0, faultV n (mfs.take q) f = W0 := ⟨_, rfl⟩
                  have hcall := fun (wz : World) (h : Ext wq wz) => sField (A := some ⟨bs, off, none⟩) (c := c) (i := k) (b := w.heap.size + 2) (before := mfs.take q) (w := wz) (by omega : n ≤ 100) hfo (by omega) (hMq.out.up h) hPq hta1 hta2
                  rw [hW0] at hcall
                  obtain ⟨fn, fx, fk, fr, fp, fo⟩ := f
                  simp only at d0 d1 d2 d3 d4 d5
                  unfold fieldV at hcall
                  simp only at hcall
                  have Hcall := Lib.hid hcall
                  have HW0 := Lib.hid hW0
                  have Hf := Lib.hid hf
                  have Htq := Lib.hid htq
                  clear hcall hW0 hf htq hta hta1 hta2 hPq hfo
                  have armE : Hid True := trivial
                  by_cases h0 : W0 = 0
                  · subst h0
                    go_wp2_with (go_at_call 58; refine (Hcall.out _ (by repeat with_reducible (first | exact Ext.refl _ | refine Ext.alloc ?_ _ | refine Ext.drew ?_ | refine Ext.drewN ?_ _ | refine Ext.setCell ?_ (by first | exact Nat.le_refl _ | omega | (simp; done) | (simp; omega)) _))).mono ?_; rintro e w3 ⟨rfl, O3, M3⟩; have E3 : Ext w w3 := O3.toExt (hEq.trans (by repeat with_reducible (first | exact Ext.refl _ | refine Ext.alloc ?_ _ | refine Ext.drew ?_ | refine Ext.drewN ?_ _ | refine Ext.setCell ?_ (by first | exact Nat.le_refl _ | omega | (simp; done) | (simp; omega)) _))) (by omega); have R3 := Lib.hid ((hRq.out.up (by repeat with_reducible (first | exact Ext.refl _ | refine Ext.alloc ?_ _ | refine Ext.drew ?_ | refine Ext.drewN ?_ _ | refine Ext.setCell ?_ (by first | exact Nat.le_refl _ | omega | (simp; done) | (simp; omega)) _))).grown O3 (by omega)); have N3 := Lib.hid ((hNq.out.up (by repeat with_reducible (first | exact Ext.refl _ | refine Ext.alloc ?_ _ | refine Ext.drew ?_ | refine Ext.drewN ?_ _ | refine Ext.setCell ?_ (by first | exact Nat.le_refl _ | omega | (simp; done) | (simp; omega)) _))).other O3 (by omega)); have HM3 := Lib.hid (M3 rfl); clear M3 O3)
                    go_roundw
                    case rel =>
                      refine ⟨q + 1, by omega, by go_num, fun j hj => ?_, N3, ?_, R3, E3⟩
                      · by_cases e : j = q
                        · subst e; exact fieldF_ok Hf.out (by rw [Hl0.out]; exact HW0.out)
                        · exact hFq.out j (by omega)
                      · show MapV _ _ _ _ _
                        rw [Htq.out, List.map_append, ← List.append_assoc]
                        exact HM3.out
                    case measure => simp [intOf]; omega
                  · have hq0 : ((W0 : Int) != 0) = true := by rw [bne_iff_ne]; omega
                    have hv := Hbad.out k q W0 hlt hF (msgF_field Hm0.out Hh1.out Hh2.out (by rw [Hml.out]; omega) Hf.out hFq.out (by rw [Hl0.out]; exact HW0.out) h0)
                    rw [Hv.out] at hv
                    simp only [Prod.mk.injEq] at hv
                    obtain ⟨rfl, rfl, rfl⟩ := hv
                    obtain rfl : C = 9 := by rw [← HC.out]; exact codeC_pos h0
                    clear h0
                    go_wp2_with (go_at_call 58; refine (Hcall.out _ (by repeat with_reducible (first | exact Ext.refl _ | refine Ext.alloc ?_ _ | refine Ext.drew ?_ | refine Ext.drewN ?_ _ | refine Ext.setCell ?_ (by first | exact Nat.le_refl _ | omega | (simp; done) | (simp; omega)) _))).mono ?_; rintro e w3 ⟨rfl, O3, _⟩; have E3 : Ext w w3 := O3.toExt (hEq.trans (by repeat with_reducible (first | exact Ext.refl _ | refine Ext.alloc ?_ _ | refine Ext.drew ?_ | refine Ext.drewN ?_ _ | refine Ext.setCell ?_ (by first | exact Nat.le_refl _ | omega | (simp; done) | (simp; omega)) _))) (by omega); have R3 := (hRq.out.up (by repeat with_reducible (first | exact Ext.refl _ | refine Ext.alloc ?_ _ | refine Ext.drew ?_ | refine Ext.drewN ?_ _ | refine Ext.setCell ?_ (by first | exact Nat.le_refl _ | omega | (simp; done) | (simp; omega)) _))).grown O3 (by omega); have r0 := R3.cell 0; have r1 := R3.cell 1; have r2 := R3.cell 2; have y0 := R3.free 0; have y1 := R3.free 1; have y2 := R3.free 2; clear R3)
                    exact bodyPost_ret (v := .tuple #[.agg #[.int .i64 (k), .int .i64 (q), .int .i64 (W)], .int .u8 9]) (by simp [results, Try.results17, go_sem, *]) rfl ⟨rfl, (by repeat with_reducible (first | exact E3 | exact Ext.refl _ | refine Ext.alloc ?_ _ | refine Ext.drew ?_ | refine Ext.drewN ?_ _ | refine Ext.setCell ?_ (by first | exact Nat.le_refl _ | omega | (simp; done) | (simp; omega)) _))⟩
                · have hqn : q = mnn := by omega
                  subst hqn
                  have hmo : msgF L k = none := msgF_ok Hm0.out Hh1.out Hh2.out (by rw [Hml.out]; omega) (fun j hj => hFq.out j (by rw [Hml.out] at hj; exact hj))
                  have Hmo := Lib.hid hmo
                  have htL := take_snoc L k _ Hm0.out
                  have HtL := Lib.hid htL
                  clear hmo htL
                  go_wp2
                  go_roundw
                  case rel =>
                    refine ⟨k + 1, by omega, by go_num, fun j hj => ?_, ?_, ?_, hRq.out, hEq⟩
                    · by_cases e : j = k
                      · subst e; exact Hmo.out
                      · exact hF.out j (by omega)
                    · rw [HtL.out]
                      have := hNq.out
                      unfold namesM at this ⊢
                      rw [List.map_append]
                      exact this
                    · rw [HtL.out, tagged_snoc, Htk.out]
                      have := hMq.out
                      rw [show mfs.take q = mfs from List.take_of_length_le (by rw [Hml.out]; exact Nat.le_refl _)] at this
                      simp only [Nat.zero_add]
                      exact this
                  case measure => simp [intOf]; omega
      · have hkn : k = n := by omega
        subst hkn
        have hv := Hok.out hF
        rw [Hv.out] at hv
        simp only [Prod.mk.injEq] at hv
        obtain ⟨rfl, rfl, rfl⟩ := hv
        obtain rfl : C = 0 := by rw [← HC.out]; rfl
        have r0 := hR.cell 0
        have r1 := hR.cell 1
        have r2 := hR.cell 2
        have y0 := hR.free 0
        have y1 := hR.free 1
        have y2 := hR.free 2
        clear hN hM hR
        go_wp2
        exact bodyPost_ret (v := .tuple #[.agg #[.int .i64 (0), .int .i64 (0), .int .i64 (0)], .int .u8 0]) (by simp [results, Try.results17, go_sem, *]) rfl ⟨rfl, (by repeat with_reducible (first | exact hE | exact Ext.refl _ | refine Ext.alloc ?_ _ | refine Ext.drew ?_ | refine Ext.drewN ?_ _ | refine Ext.setCell ?_ (by first | exact Nat.le_refl _ | omega | (simp; done) | (simp; omega)) _))⟩

end Go.Proofs.Ytlmmlmmadgcmcaa
