/- Contracts of layer 14: does a value fit a field, as the reference has it? -/
import Derived.Test.YtgjhglehghjoeaaGreatQbW20f
import Derived.Test.YtgjhglehghjoeaaGreatQbW11

namespace Go.Proofs.YtgjhglehghjoeaaGreat
open Go.RowKit Go.Shelf
set_option linter.unusedVariables false

theorem rManyW {u : ValR} {w : World} (hw : u.words.length ≤ 1000000000000) (ht : u.texts.length ≤ 1000000000000) (hs : u.subs.length ≤ 1000000000000) :
    Calls Tryz.prog 40 #[tvalV u] w fun e w' => e = .returned (.int .i64 (manyU u : Nat)) ∧ Ext w w' := by
  unfold tvalV manyU
  go_enter Tryz.func40, Tryz.ntmps40
  go_wp2
  go_ret
  exact ⟨by congr 2, (by repeat with_reducible (first | exact Ext.refl _ | refine Ext.alloc ?_ _ | refine Ext.drew ?_ | refine Ext.drewN ?_ _ | refine Ext.setCell ?_ (by first | exact Nat.le_refl _ | omega | (simp; done) | (simp; omega)) _))⟩

def FitR (S : List MsgD) (f : FieldD) (v : ValR) : Prop := (∀ w ∈ v.words, numberB f.kind = true ∧ canonN f.kind w = w) ∧ (∀ t ∈ v.texts, f.kind = 16 ∨ f.kind = 15 ∧ rightT t.data.toList = true) ∧ ∀ y ∈ v.subs, f.kind = 17 ∧ RI S f.of_ (bare y)

theorem swr_iff {S : List MsgD} {f : FieldD} {v : ValR} (hk : kindB f.kind = true) : SwP S f v ↔ FitR S f v := by
  have n15 : numberB 15 = false := by decide
  have n16 : numberB 16 = false := by decide
  have n17 : numberB 17 = false := by decide
  unfold SwP FitR
  constructor
  · rintro (⟨h1, h2, h3, h4⟩ | ⟨h1, h2, h3, h4, h5, h6⟩ | ⟨h1, h2, h3, h4⟩)
    · rw [h2, h3]
      exact ⟨fun w hw => ⟨h1, h4 w hw⟩, (fun t ht => by cases ht), (fun y hy => by cases hy)⟩
    · rw [h4, h5]
      refine ⟨(fun w hw => by cases hw), fun t ht => ?_, (fun y hy => by cases hy)⟩
      by_cases h15 : f.kind = 15
      · exact .inr ⟨h15, h6 h15 t ht⟩
      · left
        unfold kindB at h2
        unfold numberB at h1
        simp at h1 h2
        omega
    · rw [h2, h3]
      exact ⟨(fun w hw => by cases hw), (fun t ht => by cases ht), fun y hy => ⟨h1, h4 y hy⟩⟩
  · rintro ⟨h1, h2, h3⟩
    have e1 : numberB f.kind = false → v.words = [] := fun q => by
      rcases hw : v.words with _ | ⟨x, l⟩
      · rfl
      · have := (h1 x (by rw [hw]; simp)).1
        rw [q] at this
        cases this
    have e2 : f.kind ≠ 16 → f.kind ≠ 15 → v.texts = [] := fun q r => by
      rcases hw : v.texts with _ | ⟨x, l⟩
      · rfl
      · rcases h2 x (by rw [hw]; simp) with p | p
        · exact absurd p q
        · exact absurd p.1 r
    have e3 : f.kind ≠ 17 → v.subs = [] := fun q => by
      rcases hw : v.subs with _ | ⟨x, l⟩
      · rfl
      · exact absurd (h3 x (by rw [hw]; simp)).1 q
    rcases hn : numberB f.kind with _ | _
    · by_cases h17 : f.kind = 17
      · exact .inr (.inr ⟨h17, e1 hn, e2 (by omega) (by omega), fun y hy => (h3 y hy).2⟩)
      · refine .inr (.inl ⟨rfl, hk, h17, e1 hn, e3 h17, fun h15 t ht => ?_⟩)
        rcases h2 t ht with p | p
        · omega
        · exact p.2
    · refine .inl ⟨rfl, e2 (fun q => ?_) (fun q => ?_), e3 (fun q => ?_), fun w hw => (h1 w hw).2⟩
      · rw [q, n16] at hn
        cases hn
      · rw [q, n15] at hn
        cases hn
      · rw [q, n17] at hn
        cases hn

theorem eqB_take_yes {α : Type} {p : α → Prop} {l : List α} {k : Nat} {x : α} (h : l[k]? = some x) (hb : true = eqB (∀ y ∈ l.take k, p y)) (hx : p x) : true = eqB (∀ y ∈ l.take (k + 1), p y) := by
  symm
  refine eqB_yes ?_
  rw [take_snoc _ _ _ h]
  have hk : ∀ y ∈ l.take k, p y := by
    by_cases c : ∀ y ∈ l.take k, p y
    · exact c
    · rw [eqB_no c] at hb
      cases hb
  intro y hy
  rcases List.mem_append.1 hy with hy | hy
  · exact hk y hy
  · rw [List.mem_singleton] at hy
    subst hy
    exact hx

theorem eqB_take_no {α : Type} {p : α → Prop} {l : List α} {k : Nat} {x : α} (h : l[k]? = some x) (hx : ¬ p x) : false = eqB (∀ y ∈ l.take (k + 1), p y) := by
  symm
  refine eqB_no (fun c => hx (c x ?_))
  rw [take_snoc _ _ _ h]
  simp

theorem eqB_take_off {α : Type} {p : α → Prop} {l : List α} {k : Nat} (hb : false = eqB (∀ y ∈ l.take k, p y)) : false = eqB (∀ y ∈ l.take (k + 1), p y) := by
  symm
  refine eqB_no (fun c => ?_)
  rw [eqB_yes (fun y hy => c y (List.mem_of_mem_take (i := k) (by rw [List.take_take, Nat.min_eq_left (Nat.le_succ k)]; exact hy)))] at hb
  cases hb

theorem andT_off {α : Type} {p : α → Prop} {l : List α} {k : Nat} {b : Bool} (hb : false = (b && eqB (∀ y ∈ l.take k, p y))) : false = (b && eqB (∀ y ∈ l.take (k + 1), p y)) := by
  rcases b with _ | _
  · rfl
  · exact eqB_take_off hb

theorem andT_yes {α : Type} {p : α → Prop} {l : List α} {k : Nat} {x : α} {b : Bool} (h : l[k]? = some x) (hb : true = (b && eqB (∀ y ∈ l.take k, p y))) (hx : p x) : true = (b && eqB (∀ y ∈ l.take (k + 1), p y)) := by
  rcases b with _ | _
  · cases hb
  · exact eqB_take_yes h hb hx

theorem andT_no {α : Type} {p : α → Prop} {l : List α} {k : Nat} {x : α} {b : Bool} (h : l[k]? = some x) (hx : ¬ p x) : false = (b && eqB (∀ y ∈ l.take (k + 1), p y)) := by
  rw [← eqB_take_no h hx, Bool.and_false]

theorem eqB_and {p q : Prop} : eqB (p ∧ q) = (eqB p && eqB q) := by
  by_cases hp : p
  · by_cases hq : q
    · rw [eqB_yes hp, eqB_yes hq, eqB_yes ⟨hp, hq⟩]
      rfl
    · rw [eqB_yes hp, eqB_no hq, eqB_no (fun h => hq h.2)]
      rfl
  · rw [eqB_no hp, eqB_no (fun h => hp h.1), Bool.false_and]

set_option maxRecDepth 100000 in
set_option maxHeartbeats 4000000 in
theorem rFitsF {A : Option Addr} {n c : Nat} {S : List MsgV} {f : FieldD} {v : ValR} {w : World} (hs : SchemaAt w A n c S) (hv : ValAt w v) (hwl : v.words.length ≤ 1000000000000) (htl : v.texts.length ≤ 1000000000000) (hsl : v.subs.length ≤ 1000000000000) (htt : ∀ t ∈ v.texts, t.data.toList.length ≤ 1000000000)
    (hp : ∀ y ∈ v.subs, ∀ W : World, Ext w W → Calls Tryz.prog 20 #[.slice A n c, .int .i64 f.of_, treeV y] W fun e W' => e = .returned (.bool (eqB (RI (S.map MsgV.d) f.of_ (bare y)))) ∧ Ext W W') :
    Calls Tryz.prog 16 #[.slice A n c, fieldV f, tvalV v] w fun e w' => e = .returned (.bool (eqB (FitP (S.map MsgV.d) f (bareV v)))) ∧ Ext w w' := by
  have wcap := hv.own.words.cap
  have tcap := hv.own.texts.at_.cap
  have scap := hv.own.subs.cap
  have wmax := hv.own.words.max
  have tmax := hv.own.texts.at_.max
  have smax := hv.own.subs.max
  unfold maxLen at wmax tmax smax
  have hMB : manyU (bareV v) = manyU v := by unfold manyU bareV; simp
  have hm := fun W => rManyW (u := v) (w := W) hwl htl hsl
  have hR := fun W => kRightR f.kind W
  obtain ⟨R0, hR0⟩ : ∃ R0, R0 = eqB (FitP (S.map MsgV.d) f (bareV v)) := ⟨_, rfl⟩
  rw [← hR0]
  obtain ⟨N, hN0⟩ : ∃ N, N = manyU v := ⟨_, rfl⟩
  rw [← hN0] at hm hMB
  have hNi : (N : Int) ≤ 3000000000000 := by unfold manyU at hN0; omega
  unfold fieldV
  unfold tvalV at hm ⊢
  have Hm := Lib.hid hm
  have HR := Lib.hid hR
  clear hm hR
  have early : (N = 0 ∨ (1 < N ∧ f.rep = false) ∨ kindB f.kind = false) → R0 = false := by
    intro h
    rw [hR0]
    refine eqB_no (fun q => ?_)
    rcases h with h | ⟨h, h'⟩ | h
    · exact q.1 (by rw [hMB]; exact h)
    · have := q.2.1 h'
      omega
    · obtain ⟨_, _, q⟩ := q
      unfold kindB at h
      rcases q with ⟨q, _⟩ | ⟨_, q, _⟩ | ⟨q, _⟩
      · have := number_kind q
        simp at h
        omega
      · unfold kindB at q
        rw [h] at q
        cases q
      · rw [q] at h
        exact absurd h (by decide)
  by_cases h0 : N = 0
  · have hst := early (.inl h0)
    subst hst
    subst h0
    have q0 : (((0 : Nat) : Int) == 0) = true := rfl
    clear early hR0 hN0 hMB hp
    go_enter Tryz.func16, Tryz.ntmps16
    go_wp2_with (go_at_call 40; refine (Hm.out _).mono ?_; rintro e w1 ⟨rfl, E1⟩)
    all_goals
      go_ret
      exact ⟨rfl, Ext.trans (by repeat with_reducible (first | exact Ext.refl _ | refine Ext.alloc ?_ _ | refine Ext.drew ?_ | refine Ext.drewN ?_ _ | refine Ext.setCell ?_ (by first | exact Nat.le_refl _ | omega | (simp; done) | (simp; omega)) _)) E1⟩
  · have q0 : ((N : Int) == 0) = false := by rw [beq_eq_false_iff_ne]; omega
    -- GEN
    by_cases h1 : 1 < N ∧ f.rep = false
    · have hst := early (.inr (.inl h1))
      subst hst
      obtain ⟨h1, hr⟩ := h1
      have t1 : (1 : Int) < (N : Int) := by omega
      rw [hr]
      have tokA : True := trivial
      clear early hR0 hN0 hMB hp hr h0
      go_enter Tryz.func16, Tryz.ntmps16
      go_wp2_with (first
        | (go_at_call 40; have _t := tokA; refine (Hm.out _).mono ?_; rintro e w1 ⟨rfl, E1⟩; have X1 : Ext w w1 := Ext.trans (by repeat with_reducible (first | exact Ext.refl _ | refine Ext.alloc ?_ _ | refine Ext.drew ?_ | refine Ext.drewN ?_ _ | refine Ext.setCell ?_ (by first | exact Nat.le_refl _ | omega | (simp; done) | (simp; omega)) _)) E1; have BF := ((BlkT.new w 25 #[.string f.name, .int .i64 f.number, .int .i64 f.kind, .bool false, .bool f.packed, .int .i64 f.of_] rfl).alloc (.cells #[.int .i64 v.number, .slice v.a.1 v.words.length v.a.2, .slice v.b.1 v.texts.length v.b.2, .slice v.c.1 v.subs.length v.c.2] 38)).up E1; have BV := (BlkT.new (w.alloc (.cells #[.string f.name, .int .i64 f.number, .int .i64 f.kind, .bool false, .bool f.packed, .int .i64 f.of_] 25)) 38 #[.int .i64 v.number, .slice v.a.1 v.words.length v.a.2, .slice v.b.1 v.texts.length v.b.2, .slice v.c.1 v.subs.length v.c.2] (show w.heap.size + 1 = _ by simp)).up E1; have z3 : w1.cell? ⟨w.heap.size, 3, none⟩ = some (.bool false) := BF.cell 3; have v0 : w1.cell? ⟨w.heap.size + 1, 0, none⟩ = some (.int .i64 v.number) := BV.cell 0; have v1 : w1.cell? ⟨w.heap.size + 1, 1, none⟩ = some (.slice v.a.1 v.words.length v.a.2) := BV.cell 1; have v2 : w1.cell? ⟨w.heap.size + 1, 2, none⟩ = some (.slice v.b.1 v.texts.length v.b.2) := BV.cell 2; have v3 : w1.cell? ⟨w.heap.size + 1, 3, none⟩ = some (.slice v.c.1 v.subs.length v.c.2) := BV.cell 3; clear tokA BF BV)
        | (go_at_call 40; refine (Hm.out _).mono ?_; rintro e w2 ⟨rfl, E2⟩; have X2 : Ext w1 w2 := Ext.trans (by repeat with_reducible (first | exact Ext.refl _ | refine Ext.alloc ?_ _ | refine Ext.drew ?_ | refine Ext.drewN ?_ _ | refine Ext.setCell ?_ (by first | exact Nat.le_refl _ | omega | (simp; done) | (simp; omega)) _)) E2; replace z3 := X2.of_cell z3))
      all_goals
        go_ret
        exact ⟨rfl, X1.trans (X2.trans (by repeat with_reducible (first | exact Ext.refl _ | refine Ext.alloc ?_ _ | refine Ext.drew ?_ | refine Ext.drewN ?_ _ | refine Ext.setCell ?_ (by first | exact Nat.le_refl _ | omega | (simp; done) | (simp; omega)) _)))⟩
    · have hrN : f.rep = false → N = 1 := fun hr => by
        have : ¬ 1 < N := fun h => h1 ⟨h, hr⟩
        omega
      have hFit : FitP (S.map MsgV.d) f (bareV v) ↔ SwP (S.map MsgV.d) f v := by
        unfold FitP SwP
        rw [hMB]
        have hb : (bareV v).subs = v.subs.map bare := rfl
        have hb1 : (bareV v).words = v.words := rfl
        have hb2 : (bareV v).texts = v.texts := rfl
        rw [hb, hb1, hb2, List.map_eq_nil_iff]
        simp only [List.forall_mem_map]
        exact ⟨fun h => h.2.2, fun h => ⟨h0, hrN, h⟩⟩
      have tokA : True := trivial
      obtain ⟨rp, hrp⟩ : ∃ rp, rp = f.rep := ⟨_, rfl⟩
      have key : ((1 : Int) < (N : Int) ∧ (!rp) = false) ∨ ¬ (1 : Int) < (N : Int) := by
        by_cases h : (1 : Int) < (N : Int)
        · refine .inl ⟨h, ?_⟩
          rcases hr : f.rep with _ | _
          · exact absurd ⟨by omega, hr⟩ h1
          · rw [hrp, hr]
            rfl
        · exact .inr h
      rw [← hrp]
      clear hrp h1 hrN
      rcases key with ⟨t1, hq⟩ | t1
      all_goals
        go_enter Tryz.func16, Tryz.ntmps16
        go_wp2_with fail
        have BF := (BlkT.new w 25 #[.string f.name, .int .i64 f.number, .int .i64 f.kind, .bool rp, .bool f.packed, .int .i64 f.of_] rfl).alloc (.cells #[.int .i64 v.number, .slice v.a.1 v.words.length v.a.2, .slice v.b.1 v.texts.length v.b.2, .slice v.c.1 v.subs.length v.c.2] 38)
        have BV := BlkT.new (w.alloc (.cells #[.string f.name, .int .i64 f.number, .int .i64 f.kind, .bool rp, .bool f.packed, .int .i64 f.of_] 25)) 38 #[.int .i64 v.number, .slice v.a.1 v.words.length v.a.2, .slice v.b.1 v.texts.length v.b.2, .slice v.c.1 v.subs.length v.c.2] (show w.heap.size + 1 = _ by simp)
        have X0 : Ext w ((w.alloc (.cells #[.string f.name, .int .i64 f.number, .int .i64 f.kind, .bool rp, .bool f.packed, .int .i64 f.of_] 25)).alloc (.cells #[.int .i64 v.number, .slice v.a.1 v.words.length v.a.2, .slice v.b.1 v.texts.length v.b.2, .slice v.c.1 v.subs.length v.c.2] 38)) := ((Ext.refl w).alloc _).alloc _
        generalize (w.alloc (.cells #[.string f.name, .int .i64 f.number, .int .i64 f.kind, .bool rp, .bool f.packed, .int .i64 f.of_] 25)).alloc (.cells #[.int .i64 v.number, .slice v.a.1 v.words.length v.a.2, .slice v.b.1 v.texts.length v.b.2, .slice v.c.1 v.subs.length v.c.2] 38) = wx at *
        have z0 : wx.cell? ⟨w.heap.size, 0, none⟩ = some (.string f.name) := BF.cell 0
        have z1 : wx.cell? ⟨w.heap.size, 1, none⟩ = some (.int .i64 f.number) := BF.cell 1
        have z2 : wx.cell? ⟨w.heap.size, 2, none⟩ = some (.int .i64 f.kind) := BF.cell 2
        have z3 : wx.cell? ⟨w.heap.size, 3, none⟩ = some (.bool rp) := BF.cell 3
        have z4 : wx.cell? ⟨w.heap.size, 4, none⟩ = some (.bool f.packed) := BF.cell 4
        have z5 : wx.cell? ⟨w.heap.size, 5, none⟩ = some (.int .i64 f.of_) := BF.cell 5
        have v0 : wx.cell? ⟨w.heap.size + 1, 0, none⟩ = some (.int .i64 v.number) := BV.cell 0
        have v1 : wx.cell? ⟨w.heap.size + 1, 1, none⟩ = some (.slice v.a.1 v.words.length v.a.2) := BV.cell 1
        have v2 : wx.cell? ⟨w.heap.size + 1, 2, none⟩ = some (.slice v.b.1 v.texts.length v.b.2) := BV.cell 2
        have v3 : wx.cell? ⟨w.heap.size + 1, 3, none⟩ = some (.slice v.c.1 v.subs.length v.c.2) := BV.cell 3
        have lf := BF.lt
        have lv := BV.lt
        clear BF BV
        rcases hkb : kindB f.kind with _ | _
        · have hst := early (.inr (.inr hkb))
          have hR := HR.out
          rw [hkb] at hR
          have HR2 := Lib.hid hR
          have HS := Lib.hid hst
          clear hst hR early hR0 hN0 hMB hp hkb
          go_wp2_with (first
            | (go_at_call 40; have _t := tokA; refine (Hm.out _).mono ?_; rintro e w1 ⟨rfl, E1⟩; have X1 : Ext wx w1 := Ext.trans (by repeat with_reducible (first | exact Ext.refl _ | refine Ext.alloc ?_ _ | refine Ext.drew ?_ | refine Ext.drewN ?_ _ | refine Ext.setCell ?_ (by first | exact Nat.le_refl _ | omega | (simp; done) | (simp; omega)) _)) E1; replace z2 := X1.of_cell z2; replace z5 := X1.of_cell z5; replace v0 := X1.of_cell v0; replace v1 := X1.of_cell v1; replace v2 := X1.of_cell v2; replace v3 := X1.of_cell v3; replace z0 := X1.of_cell z0; replace z1 := X1.of_cell z1; replace z3 := X1.of_cell z3; replace z4 := X1.of_cell z4; replace lf := Nat.lt_of_lt_of_le lf X1.size; replace lv := Nat.lt_of_lt_of_le lv X1.size; clear tokA)
            | (go_at_call 40; refine (Hm.out _).mono ?_; rintro e w2 ⟨rfl, E2⟩; have X2 : Ext w1 w2 := Ext.trans (by repeat with_reducible (first | exact Ext.refl _ | refine Ext.alloc ?_ _ | refine Ext.drew ?_ | refine Ext.drewN ?_ _ | refine Ext.setCell ?_ (by first | exact Nat.le_refl _ | omega | (simp; done) | (simp; omega)) _)) E2; replace z2 := X2.of_cell z2; replace z5 := X2.of_cell z5; replace v0 := X2.of_cell v0; replace v1 := X2.of_cell v1; replace v2 := X2.of_cell v2; replace v3 := X2.of_cell v3; replace z0 := X2.of_cell z0; replace z1 := X2.of_cell z1; replace z3 := X2.of_cell z3; replace z4 := X2.of_cell z4; replace lf := Nat.lt_of_lt_of_le lf X2.size; replace lv := Nat.lt_of_lt_of_le lv X2.size)
            | (go_at_call 68; refine (HR2.out _).mono ?_; rintro e w3 ⟨rfl, hw3⟩; subst hw3))
          all_goals
            go_ret
            exact ⟨ret_bool HS.out.symm, X0.trans (X1.trans (X2.trans (by repeat with_reducible (first | exact Ext.refl _ | refine Ext.alloc ?_ _ | refine Ext.drew ?_ | refine Ext.drewN ?_ _ | refine Ext.setCell ?_ (by first | exact Nat.le_refl _ | omega | (simp; done) | (simp; omega)) _))))⟩
        · have hR := HR.out
          rw [hkb] at hR
          have HR2 := Lib.hid hR
          have hfin := hR0.trans (eqB_congr (hFit.trans (swr_iff hkb)))
          have HF := Lib.hid hfin
          have hN := fun W => kNumberR f.kind W
          have HN := Lib.hid hN
          have Hp := Lib.hid hp
          have Hv := Lib.hid hv
          have Htt := Lib.hid htt
          clear hR early hR0 hN0 hMB hp hkb hfin hN hv htt
          go_wp2_with (first
            | (go_at_call 40; have _t := tokA; refine (Hm.out _).mono ?_; rintro e w1 ⟨rfl, E1⟩; have X1 : Ext wx w1 := Ext.trans (by repeat with_reducible (first | exact Ext.refl _ | refine Ext.alloc ?_ _ | refine Ext.drew ?_ | refine Ext.drewN ?_ _ | refine Ext.setCell ?_ (by first | exact Nat.le_refl _ | omega | (simp; done) | (simp; omega)) _)) E1; replace z2 := X1.of_cell z2; replace z5 := X1.of_cell z5; replace v0 := X1.of_cell v0; replace v1 := X1.of_cell v1; replace v2 := X1.of_cell v2; replace v3 := X1.of_cell v3; replace z0 := X1.of_cell z0; replace z1 := X1.of_cell z1; replace z3 := X1.of_cell z3; replace z4 := X1.of_cell z4; replace lf := Nat.lt_of_lt_of_le lf X1.size; replace lv := Nat.lt_of_lt_of_le lv X1.size; clear tokA)
            | (go_at_call 40; refine (Hm.out _).mono ?_; rintro e w2 ⟨rfl, E2⟩; have X2 : Ext w1 w2 := Ext.trans (by repeat with_reducible (first | exact Ext.refl _ | refine Ext.alloc ?_ _ | refine Ext.drew ?_ | refine Ext.drewN ?_ _ | refine Ext.setCell ?_ (by first | exact Nat.le_refl _ | omega | (simp; done) | (simp; omega)) _)) E2; replace z2 := X2.of_cell z2; replace z5 := X2.of_cell z5; replace v0 := X2.of_cell v0; replace v1 := X2.of_cell v1; replace v2 := X2.of_cell v2; replace v3 := X2.of_cell v3; replace z0 := X2.of_cell z0; replace z1 := X2.of_cell z1; replace z3 := X2.of_cell z3; replace z4 := X2.of_cell z4; replace lf := Nat.lt_of_lt_of_le lf X2.size; replace lv := Nat.lt_of_lt_of_le lv X2.size)
            | (go_at_call 68; refine (HR2.out _).mono ?_; rintro e w3 ⟨rfl, hw3⟩; subst hw3))
          have XW : Ext w w2 := X0.trans (X1.trans X2)
          clear z0 z1 z3 z4 v0 X0 X1 X2
          go_loopw [7, 8] (fun ok i wr => ∃ (k : Nat) (b : Bool), k ≤ v.words.length ∧ i = .int .i64 (k : Int) ∧ ok = .bool b ∧ Ext w2 wr ∧ Hid (b = eqB (∀ x ∈ v.words.take k, numberB f.kind = true ∧ canonN f.kind x = x))) (fun _ i _ => v.words.length - (intOf i).toNat)
          case atStart => exact ⟨0, true, Nat.zero_le _, rfl, rfl, Ext.refl _, (eqB_yes (fun x hx => by cases hx)).symm⟩
          case round =>
            rename World => wr
            obtain ⟨k, b, hkk, rfl, rfl, hE, hB⟩ := hrel
            have z2r := hE.of_cell z2
            have v1r := hE.of_cell v1
            have lfr := Nat.lt_of_lt_of_le lf hE.size
            have lvr := Nat.lt_of_lt_of_le lv hE.size
            by_cases hlt : k < v.words.length
            · have hltI : (k : Int) < v.words.length := by omega
              obtain ⟨b5, off5, x, hA, hxk, hb5, e0⟩ := wordAt (Hv.out.own.words.ext (XW.trans hE)) hlt
              have hx64 := Hv.out.own.small x (List.mem_of_getElem? hxk)
              have Hxk := Lib.hid hxk
              rw [hA] at v1r
              clear hxk hA
              go_wp2
              rcases b with _ | _
              · have hnext := eqB_take_off hB.out
                have HX := Lib.hid hnext
                clear hnext
                go_quiet (fail)
                go_wp2
                go_roundw
                case rel => exact ⟨k + 1, false, by omega, by go_num, rfl, hE.trans (by repeat with_reducible (first | exact Ext.refl _ | refine Ext.alloc ?_ _ | refine Ext.drew ?_ | refine Ext.drewN ?_ _ | refine Ext.setCell ?_ (by first | exact Nat.le_refl _ | omega | (simp; done) | (simp; omega)) _)), HX.out⟩
                case measure => simp [intOf]; omega
              · rcases hn : numberB f.kind with _ | _
                · have hN2 := HN.out
                  rw [hn] at hN2
                  have HN2 := Lib.hid hN2
                  have hnext := eqB_take_no (p := fun x => numberB f.kind = true ∧ canonN f.kind x = x) Hxk.out (fun q => by rw [hn] at q; cases q.1)
                  have HX := Lib.hid hnext
                  clear hnext hN2 hn
                  go_quiet ((go_at_call 69; exact Calls.quiet_of_same ((HN2.out _).mono fun _ _ h => ⟨h.1, h.2.symm⟩)))
                  go_wp2
                  go_roundw
                  case rel => exact ⟨k + 1, false, by omega, by go_num, rfl, hE.trans (by repeat with_reducible (first | exact Ext.refl _ | refine Ext.alloc ?_ _ | refine Ext.drew ?_ | refine Ext.drewN ?_ _ | refine Ext.setCell ?_ (by first | exact Nat.le_refl _ | omega | (simp; done) | (simp; omega)) _)), HX.out⟩
                  case measure => simp [intOf]; omega
                · have hN2 := HN.out
                  rw [hn] at hN2
                  have HN2 := Lib.hid hN2
                  have hcn := fun W => kCanonR f.kind x hx64 W
                  by_cases hc : canonN f.kind x = x
                  · rw [hc] at hcn
                    have hnext := eqB_take_yes (p := fun x => numberB f.kind = true ∧ canonN f.kind x = x) Hxk.out hB.out ⟨hn, hc⟩
                    have HX := Lib.hid hnext
                    have HCn := Lib.hid hcn
                    clear hnext hN2 hn hc hcn
                    go_quiet (first | (go_at_call 69; exact Calls.quiet_of_same ((HN2.out _).mono fun _ _ h => ⟨h.1, h.2.symm⟩)) | (go_at_call 70; exact Calls.quiet_of_same ((HCn.out _).mono fun _ _ h => ⟨h.1, h.2.symm⟩)))
                    go_wp2
                    go_roundw
                    case rel => exact ⟨k + 1, true, by omega, by go_num, by simp, hE.trans (by repeat with_reducible (first | exact Ext.refl _ | refine Ext.alloc ?_ _ | refine Ext.drew ?_ | refine Ext.drewN ?_ _ | refine Ext.setCell ?_ (by first | exact Nat.le_refl _ | omega | (simp; done) | (simp; omega)) _)), HX.out⟩
                    case measure => simp [intOf]; omega
                  · have hnext := eqB_take_no (p := fun x => numberB f.kind = true ∧ canonN f.kind x = x) Hxk.out (fun q => hc q.2)
                    have HX := Lib.hid hnext
                    generalize canonN f.kind x = y at *
                    have q4 : ((y : Int) == (x : Int)) = false := by rw [beq_eq_false_iff_ne]; omega
                    have HCn := Lib.hid hcn
                    clear hnext hN2 hn hc hcn
                    go_quiet (first | (go_at_call 69; exact Calls.quiet_of_same ((HN2.out _).mono fun _ _ h => ⟨h.1, h.2.symm⟩)) | (go_at_call 70; exact Calls.quiet_of_same ((HCn.out _).mono fun _ _ h => ⟨h.1, h.2.symm⟩)))
                    go_wp2
                    go_roundw
                    case rel => exact ⟨k + 1, false, by omega, by go_num, by simp, hE.trans (by repeat with_reducible (first | exact Ext.refl _ | refine Ext.alloc ?_ _ | refine Ext.drew ?_ | refine Ext.drewN ?_ _ | refine Ext.setCell ?_ (by first | exact Nat.le_refl _ | omega | (simp; done) | (simp; omega)) _)), HX.out⟩
                    case measure => simp [intOf]; omega
            · have hge : ¬ (k : Int) < v.words.length := by omega
              have hB1 : b = eqB (∀ x ∈ v.words, numberB f.kind = true ∧ canonN f.kind x = x) := by
                have := hB.out
                rwa [List.take_of_length_le (by omega)] at this
              have HB1 := Lib.hid hB1
              clear hB1
              go_wp2
              go_loopw [7, 9] (fun ok i wq => ∃ (k : Nat) (b2 : Bool), k ≤ v.texts.length ∧ i = .int .i64 (k : Int) ∧ ok = .bool b2 ∧ Ext w2 wq ∧ Hid (b2 = (b && eqB (∀ t ∈ v.texts.take k, f.kind = 16 ∨ f.kind = 15 ∧ rightT t.data.toList = true)))) (fun _ i _ => v.texts.length - (intOf i).toNat)
              case atStart => exact ⟨0, b, Nat.zero_le _, rfl, rfl, hE, by show _ = _; rw [eqB_yes (fun x hx => by cases hx), Bool.and_true]⟩
              case round =>
                rename World => wq
                obtain ⟨j, b2, hj, rfl, rfl, hE2, hB2⟩ := hrel
                have z2q := hE2.of_cell z2
                have v2q := hE2.of_cell v2
                have lfq := Nat.lt_of_lt_of_le lf hE2.size
                have lvq := Nat.lt_of_lt_of_le lv hE2.size
                by_cases hltj : j < v.texts.length
                · have hltI : (j : Int) < v.texts.length := by omega
                  obtain ⟨b5, off5, t, hA, htk, hb5, ht, e0⟩ := (Hv.out.own.texts.up (XW.trans hE2)).text hltj
                  have Htk := Lib.hid htk
                  have htl2 := Htt.out t (List.mem_of_getElem? htk)
                  rw [hA] at v2q
                  clear htk hA
                  rcases b2 with _ | _
                  · have hnext := andT_off hB2.out
                    have HX := Lib.hid hnext
                    clear hnext
                    go_wp2
                    go_roundw
                    case rel => exact ⟨j + 1, false, by omega, by go_num, rfl, hE2.trans (by repeat with_reducible (first | exact Ext.refl _ | refine Ext.alloc ?_ _ | refine Ext.drew ?_ | refine Ext.drewN ?_ _ | refine Ext.setCell ?_ (by first | exact Nat.le_refl _ | omega | (simp; done) | (simp; omega)) _)), HX.out⟩
                    case measure => simp [intOf]; omega
                  · by_cases h16 : f.kind = 16
                    · have t16 : (f.kind == 16) = true := by rw [beq_iff_eq]; exact h16
                      have hnext := andT_yes (p := fun t : ByteArray => f.kind = 16 ∨ f.kind = 15 ∧ rightT t.data.toList = true) Htk.out hB2.out (.inl h16)
                      have HX := Lib.hid hnext
                      clear hnext h16
                      go_wp2
                      go_roundw
                      case rel => exact ⟨j + 1, true, by omega, by go_num, rfl, hE2.trans (by repeat with_reducible (first | exact Ext.refl _ | refine Ext.alloc ?_ _ | refine Ext.drew ?_ | refine Ext.drewN ?_ _ | refine Ext.setCell ?_ (by first | exact Nat.le_refl _ | omega | (simp; done) | (simp; omega)) _)), HX.out⟩
                      case measure => simp [intOf]; omega
                    · have t16 : (f.kind == 16) = false := by rw [beq_eq_false_iff_ne]; exact h16
                      by_cases h15 : f.kind = 15
                      · have t15 : (f.kind == 15) = true := by rw [beq_iff_eq]; exact h15
                        obtain ⟨A7, c7, W7, run7, X7, hb7⟩ := conv_text wq t ht
                        have hu := fun W (h : BytesAt W A7 t.data.toList.length c7 t.data.toList) => uRightR h htl2
                        rcases hq : rightT t.data.toList with _ | _
                        · have hnext := andT_no (b := b) (p := fun t : ByteArray => f.kind = 16 ∨ f.kind = 15 ∧ rightT t.data.toList = true) Htk.out (fun q => by rcases q with q | q; exact h16 q; rw [hq] at q; cases q.2)
                          rw [hq] at hu
                          have HX := Lib.hid hnext
                          have Hu := Lib.hid hu
                          have Hb7 := Lib.hid hb7
                          clear hnext h16 h15 hu hb7 hq
                          go_wp2_with (go_at_call 71; refine (Hu.out _ (Hb7.out.up (by repeat with_reducible (first | exact Ext.refl _ | refine Ext.alloc ?_ _ | refine Ext.drew ?_ | refine Ext.drewN ?_ _ | refine Ext.setCell ?_ (by first | exact Nat.le_refl _ | omega | (simp; done) | (simp; omega)) _)))).mono ?_; rintro e w7 ⟨rfl, E7⟩; have X8 : Ext W7 w7 := Ext.trans (by repeat with_reducible (first | exact Ext.refl _ | refine Ext.alloc ?_ _ | refine Ext.drew ?_ | refine Ext.drewN ?_ _ | refine Ext.setCell ?_ (by first | exact Nat.le_refl _ | omega | (simp; done) | (simp; omega)) _)) E7)
                          go_roundw
                          case rel => exact ⟨j + 1, false, by omega, by go_num, rfl, hE2.trans (X7.trans X8), HX.out⟩
                          case measure => simp [intOf]; omega
                        · have hnext := andT_yes (p := fun t : ByteArray => f.kind = 16 ∨ f.kind = 15 ∧ rightT t.data.toList = true) Htk.out hB2.out (.inr ⟨h15, hq⟩)
                          rw [hq] at hu
                          have HX := Lib.hid hnext
                          have Hu := Lib.hid hu
                          have Hb7 := Lib.hid hb7
                          clear hnext h16 h15 hu hb7 hq
                          go_wp2_with (go_at_call 71; refine (Hu.out _ (Hb7.out.up (by repeat with_reducible (first | exact Ext.refl _ | refine Ext.alloc ?_ _ | refine Ext.drew ?_ | refine Ext.drewN ?_ _ | refine Ext.setCell ?_ (by first | exact Nat.le_refl _ | omega | (simp; done) | (simp; omega)) _)))).mono ?_; rintro e w7 ⟨rfl, E7⟩; have X8 : Ext W7 w7 := Ext.trans (by repeat with_reducible (first | exact Ext.refl _ | refine Ext.alloc ?_ _ | refine Ext.drew ?_ | refine Ext.drewN ?_ _ | refine Ext.setCell ?_ (by first | exact Nat.le_refl _ | omega | (simp; done) | (simp; omega)) _)) E7)
                          go_roundw
                          case rel => exact ⟨j + 1, true, by omega, by go_num, rfl, hE2.trans (X7.trans X8), HX.out⟩
                          case measure => simp [intOf]; omega
                      · have t15 : (f.kind == 15) = false := by rw [beq_eq_false_iff_ne]; exact h15
                        have hnext := andT_no (b := b) (p := fun t : ByteArray => f.kind = 16 ∨ f.kind = 15 ∧ rightT t.data.toList = true) Htk.out (fun q => by rcases q with q | q; exact h16 q; exact h15 q.1)
                        have HX := Lib.hid hnext
                        clear hnext h16 h15
                        go_wp2
                        go_roundw
                        case rel => exact ⟨j + 1, false, by omega, by go_num, rfl, hE2.trans (by repeat with_reducible (first | exact Ext.refl _ | refine Ext.alloc ?_ _ | refine Ext.drew ?_ | refine Ext.drewN ?_ _ | refine Ext.setCell ?_ (by first | exact Nat.le_refl _ | omega | (simp; done) | (simp; omega)) _)), HX.out⟩
                        case measure => simp [intOf]; omega
                · have hge2 : ¬ (j : Int) < v.texts.length := by omega
                  have hB3 : b2 = (b && eqB (∀ t ∈ v.texts, f.kind = 16 ∨ f.kind = 15 ∧ rightT t.data.toList = true)) := by
                    have := hB2.out
                    rwa [List.take_of_length_le (by omega)] at this
                  have HB3 := Lib.hid hB3
                  clear hB3
                  go_wp2
                  go_loopw [7, 10] (fun ok i wp => ∃ (k : Nat) (b3 : Bool), k ≤ v.subs.length ∧ i = .int .i64 (k : Int) ∧ ok = .bool b3 ∧ Ext w2 wp ∧ Hid (b3 = (b2 && eqB (∀ y ∈ v.subs.take k, f.kind = 17 ∧ RI (S.map MsgV.d) f.of_ (bare y))))) (fun _ i _ => v.subs.length - (intOf i).toNat)
                  case atStart => exact ⟨0, b2, Nat.zero_le _, rfl, rfl, hE2, by show _ = _; rw [eqB_yes (fun x hx => by cases hx), Bool.and_true]⟩
                  case round =>
                    rename World => wp
                    obtain ⟨q, b3, hq, rfl, rfl, hE3, hB4⟩ := hrel
                    have z2p := hE3.of_cell z2
                    have z5p := hE3.of_cell z5
                    have v3p := hE3.of_cell v3
                    have lfp := Nat.lt_of_lt_of_le lf hE3.size
                    have lvp := Nat.lt_of_lt_of_le lv hE3.size
                    by_cases hltq : q < v.subs.length
                    · have hltI : (q : Int) < v.subs.length := by omega
                      obtain ⟨b5, off5, y, hA, hyk, hb5, e0, e1⟩ := treeCells (Hv.out.own.subs.ext (XW.trans hE3)) hltq
                      have Hyk := Lib.hid hyk
                      have hcall := Hp.out y (List.mem_of_getElem? hyk)
                      unfold treeV at hcall
                      rw [hA] at v3p
                      clear hyk hA
                      go_wp2
                      rcases b3 with _ | _
                      · have hnext := andT_off hB4.out
                        have HX := Lib.hid hnext
                        clear hnext hcall
                        go_quiet (fail)
                        go_wp2
                        go_roundw
                        case rel => exact ⟨q + 1, false, by omega, by go_num, rfl, hE3.trans (by repeat with_reducible (first | exact Ext.refl _ | refine Ext.alloc ?_ _ | refine Ext.drew ?_ | refine Ext.drewN ?_ _ | refine Ext.setCell ?_ (by first | exact Nat.le_refl _ | omega | (simp; done) | (simp; omega)) _)), HX.out⟩
                        case measure => simp [intOf]; omega
                      · by_cases h17 : f.kind = 17
                        · have t17 : (f.kind == 17) = true := by rw [beq_iff_eq]; exact h17
                          have Xp : Ext wp wp := Ext.refl wp
                          by_cases hr : RI (S.map MsgV.d) f.of_ (bare y)
                          · rw [eqB_yes hr] at hcall
                            have hnext := andT_yes (p := fun y : MsgR => f.kind = 17 ∧ RI (S.map MsgV.d) f.of_ (bare y)) Hyk.out hB4.out ⟨h17, hr⟩
                            have HX := Lib.hid hnext
                            have Hcall := Lib.hid hcall
                            clear hnext hcall h17 hr
                            go_region_held3 (fun W => Ext wp W ∧ ∀ b o, b < wp.heap.size → W.cell? ⟨b, o, none⟩ = wp.cell? ⟨b, o, none⟩) ((refine Ext.keep ?_; repeat with_reducible (first | assumption | exact Ext.refl _ | refine Ext.alloc ?_ _ | refine Ext.drew ?_ | refine Ext.drewN ?_ _ | refine Ext.setCell ?_ (by first | exact Nat.le_refl _ | omega | (simp; done) | (simp; omega)) _))) (first | (go_split_ands; go_at_call 20; refine (Hcall.out _ ((XW.trans hE3).trans (by with_reducible assumption))).mono ?_; rintro e w7 ⟨rfl, E7⟩; have q7 : Ext wp w7 := Ext.trans (by with_reducible assumption) E7))
                            go_wp2
                            go_roundw
                            case rel => exact ⟨q + 1, true, by omega, by go_num, rfl, hE3.trans q7, HX.out⟩
                            case measure => simp [intOf]; omega
                          · rw [eqB_no hr] at hcall
                            have hnext := andT_no (b := b2) (p := fun y : MsgR => f.kind = 17 ∧ RI (S.map MsgV.d) f.of_ (bare y)) Hyk.out (fun q => hr q.2)
                            have HX := Lib.hid hnext
                            have Hcall := Lib.hid hcall
                            clear hnext hcall h17 hr
                            go_region_held3 (fun W => Ext wp W ∧ ∀ b o, b < wp.heap.size → W.cell? ⟨b, o, none⟩ = wp.cell? ⟨b, o, none⟩) ((refine Ext.keep ?_; repeat with_reducible (first | assumption | exact Ext.refl _ | refine Ext.alloc ?_ _ | refine Ext.drew ?_ | refine Ext.drewN ?_ _ | refine Ext.setCell ?_ (by first | exact Nat.le_refl _ | omega | (simp; done) | (simp; omega)) _))) (first | (go_split_ands; go_at_call 20; refine (Hcall.out _ ((XW.trans hE3).trans (by with_reducible assumption))).mono ?_; rintro e w7 ⟨rfl, E7⟩; have q7 : Ext wp w7 := Ext.trans (by with_reducible assumption) E7))
                            go_wp2
                            go_roundw
                            case rel => exact ⟨q + 1, false, by omega, by go_num, rfl, hE3.trans q7, HX.out⟩
                            case measure => simp [intOf]; omega
                        · have t17 : (f.kind == 17) = false := by rw [beq_eq_false_iff_ne]; exact h17
                          have hnext := andT_no (b := b2) (p := fun y : MsgR => f.kind = 17 ∧ RI (S.map MsgV.d) f.of_ (bare y)) Hyk.out (fun q => h17 q.1)
                          have HX := Lib.hid hnext
                          clear hnext hcall h17
                          go_quiet (fail)
                          go_wp2
                          go_roundw
                          case rel => exact ⟨q + 1, false, by omega, by go_num, rfl, hE3.trans (by repeat with_reducible (first | exact Ext.refl _ | refine Ext.alloc ?_ _ | refine Ext.drew ?_ | refine Ext.drewN ?_ _ | refine Ext.setCell ?_ (by first | exact Nat.le_refl _ | omega | (simp; done) | (simp; omega)) _)), HX.out⟩
                          case measure => simp [intOf]; omega
                    · have hge3 : ¬ (q : Int) < v.subs.length := by omega
                      have hB5 : b3 = (b2 && eqB (∀ y ∈ v.subs, f.kind = 17 ∧ RI (S.map MsgV.d) f.of_ (bare y))) := by
                        have := hB4.out
                        rwa [List.take_of_length_le (by omega)] at this
                      have HB5 := Lib.hid hB5
                      clear hB5
                      go_wp2
                      go_ret
                      refine ⟨ret_bool ?_, XW.trans hE3⟩
                      rw [HF.out, HB5.out, HB3.out, HB1.out]
                      unfold FitR
                      rw [eqB_and, eqB_and, Bool.and_assoc]

end Go.Proofs.YtgjhglehghjoeaaGreat
