/- Contracts of layer 14: does a value fit a field, as the reference has it? -/
import Derived.Test.YtnnphodgegcddaaGreatQdW20f
import Derived.Test.YtnnphodgegcddaaGreatQdW11
import Derived.Test.YtnnphodgegcddaaGreatQdW14w
import Derived.StillTailTactics
import Derived.Test.YtnnphodgegcddaaGreatQdW20g
import Derived.Test.YtnnphodgegcddaaGreatQdOpenT

namespace Go.Proofs.YtnnphodgegcddaaGreat
open Go.RowKit Go.Shelf
set_option linter.unusedVariables false

theorem rManyW {u : ValR} {w : World} (hw : u.words.length ≤ 1000000000000) (ht : u.texts.length ≤ 1000000000000) (hs : u.subs.length ≤ 1000000000000) :
  Calls Tryz.prog 25 #[tvalV u] w fun e w' => e = .returned (.int .i64 (manyU u : Nat)) ∧ Ext w w' := by
 unfold tvalV manyU
 go_enter Tryz.func25, Tryz.ntmps25
 go_wp2
 go_ret
 exact ⟨by congr 2, (by repeat with_reducible (first | exact Ext.refl _ | refine Ext.alloc ?_ _ | refine Ext.drew ?_ | refine Ext.drewN ?_ _ | refine Ext.setCell ?_ (by first | omega | (simp <;> omega)) _))⟩

def FitR (S : List MsgD) (f : FieldD) (v : ValR) : Prop := (∀ w ∈ v.words, numberB f.kind = true ∧ canonN f.kind w = w) ∧ (∀ t ∈ v.texts, f.kind = 16 ∨ f.kind = 15 ∧ rightT t.data.toList = true) ∧ ∀ y ∈ v.subs, f.kind = 17 ∧ RI S f.of_ (bare y)

theorem swr_iff {S : List MsgD} {f : FieldD} {v : ValR} (hk : kindB f.kind = true) : SwP S f v ↔ FitR S f v := by
 have n15 : numberB 15 = false := by decide
 have n16 : numberB 16 = false := by decide
 have n17 : numberB 17 = false := by decide
 unfold SwP FitR
 constructor
 · rintro (⟨h1, h2, h3, h4⟩ | ⟨h1, h2, h3, h4, h5, h6⟩ | ⟨h1, h2, h3, h4⟩)
   · rw [h2, h3]
     exact ⟨fun w hw => ⟨h1, h4 w hw⟩, (fun t ht => by cases ht), (fun y hy => by cases hy)⟩
   · rw [h4, h5]
     refine ⟨(fun w hw => by cases hw), fun t ht => ?_, (fun y hy => by cases hy)⟩
     by_cases h15 : f.kind = 15
     · exact .inr ⟨h15, h6 h15 t ht⟩
     · left
       unfold kindB at h2
       unfold numberB at h1
       simp at h1 h2
       omega
   · rw [h2, h3]
     exact ⟨(fun w hw => by cases hw), (fun t ht => by cases ht), fun y hy => ⟨h1, h4 y hy⟩⟩
 · rintro ⟨h1, h2, h3⟩
   have e1 : numberB f.kind = false → v.words = [] := fun q => by
    rcases hw : v.words with _ | ⟨x, l⟩
    · rfl
    · have := (h1 x (by rw [hw]; simp)).1
      rw [q] at this
      cases this
   have e2 : f.kind ≠ 16 → f.kind ≠ 15 → v.texts = [] := fun q r => by
    rcases hw : v.texts with _ | ⟨x, l⟩
    · rfl
    · rcases h2 x (by rw [hw]; simp) with p | p
      · exact absurd p q
      · exact absurd p.1 r
   have e3 : f.kind ≠ 17 → v.subs = [] := fun q => by
    rcases hw : v.subs with _ | ⟨x, l⟩
    · rfl
    · exact absurd (h3 x (by rw [hw]; simp)).1 q
   rcases hn : numberB f.kind with _ | _
   · by_cases h17 : f.kind = 17
     · exact .inr (.inr ⟨h17, e1 hn, e2 (by omega) (by omega), fun y hy => (h3 y hy).2⟩)
     · refine .inr (.inl ⟨rfl, hk, h17, e1 hn, e3 h17, fun h15 t ht => ?_⟩)
       rcases h2 t ht with p | p
       · omega
       · exact p.2
   · refine .inl ⟨rfl, e2 (fun q => ?_) (fun q => ?_), e3 (fun q => ?_), fun w hw => (h1 w hw).2⟩
     · rw [q, n16] at hn
       cases hn
     · rw [q, n15] at hn
       cases hn
     · rw [q, n17] at hn
       cases hn

theorem eqB_take_yes {α : Type} {p : α → Prop} {l : List α} {k : Nat} {x : α} (h : l[k]? = some x) (hb : true = eqB (∀ y ∈ l.take k, p y)) (hx : p x) : true = eqB (∀ y ∈ l.take (k + 1), p y) := by
 symm
 refine eqB_yes ?_
 rw [take_snoc _ _ _ h]
 have hk : ∀ y ∈ l.take k, p y := by
  by_cases c : ∀ y ∈ l.take k, p y
  · exact c
  · rw [eqB_no c] at hb
    cases hb
 intro y hy
 rcases List.mem_append.1 hy with hy | hy
 · exact hk y hy
 · rw [List.mem_singleton] at hy
   subst hy
   exact hx

theorem eqB_take_no {α : Type} {p : α → Prop} {l : List α} {k : Nat} {x : α} (h : l[k]? = some x) (hx : ¬ p x) : false = eqB (∀ y ∈ l.take (k + 1), p y) := by
 symm
 refine eqB_no (fun c => hx (c x ?_))
 rw [take_snoc _ _ _ h]
 simp

theorem eqB_take_off {α : Type} {p : α → Prop} {l : List α} {k : Nat} (hb : false = eqB (∀ y ∈ l.take k, p y)) : false = eqB (∀ y ∈ l.take (k + 1), p y) := by
 symm
 refine eqB_no (fun c => ?_)
 rw [eqB_yes (fun y hy => c y (List.mem_of_mem_take (i := k) (by rw [List.take_take, Nat.min_eq_left (Nat.le_succ k)]; exact hy)))] at hb
 cases hb

theorem andT_off {α : Type} {p : α → Prop} {l : List α} {k : Nat} {b : Bool} (hb : false = (b && eqB (∀ y ∈ l.take k, p y))) : false = (b && eqB (∀ y ∈ l.take (k + 1), p y)) := by
 rcases b with _ | _
 · rfl
 · exact eqB_take_off hb

theorem andT_yes {α : Type} {p : α → Prop} {l : List α} {k : Nat} {x : α} {b : Bool} (h : l[k]? = some x) (hb : true = (b && eqB (∀ y ∈ l.take k, p y))) (hx : p x) : true = (b && eqB (∀ y ∈ l.take (k + 1), p y)) := by
 rcases b with _ | _
 · cases hb
 · exact eqB_take_yes h hb hx

theorem andT_no {α : Type} {p : α → Prop} {l : List α} {k : Nat} {x : α} {b : Bool} (h : l[k]? = some x) (hx : ¬ p x) : false = (b && eqB (∀ y ∈ l.take (k + 1), p y)) := by
 rw [← eqB_take_no h hx, Bool.and_false]

theorem eqB_and {p q : Prop} : eqB (p ∧ q) = (eqB p && eqB q) := by
 by_cases hp : p
 · by_cases hq : q
   · rw [eqB_yes hp, eqB_yes hq, eqB_yes ⟨hp, hq⟩]
     rfl
   · rw [eqB_yes hp, eqB_no hq, eqB_no (fun h => hq h.2)]
     rfl
 · rw [eqB_no hp, eqB_no (fun h => hp h.1), Bool.false_and]

set_option maxRecDepth 100000 in
set_option maxHeartbeats 4000000 in
theorem rFitsF {A : Option Addr} {n c : Nat} {S : List MsgV} {f : FieldD} {v : ValR} {w : World} (hs : SchemaAt w A n c S) (hv : ValAt w v) (hwl : v.words.length ≤ 1000000000000) (htl : v.texts.length ≤ 1000000000000) (hsl : v.subs.length ≤ 1000000000000) (htt : ∀ t ∈ v.texts, t.data.toList.length ≤ 1000000000)
  (hp : ∀ y ∈ v.subs, ∀ W : World, Ext w W → Calls Tryz.prog 70 #[.slice A n c, .int .i64 f.of_, treeV y] W fun e W' => e = .returned (.bool (eqB (RI (S.map MsgV.d) f.of_ (bare y)))) ∧ Ext W W') :
  Calls Tryz.prog 24 #[.slice A n c, fieldV f, tvalV v] w fun e w' => e = .returned (.bool (eqB (FitP (S.map MsgV.d) f (bareV v)))) ∧ Ext w w' := by
 have wcap := hv.own.words.cap
 have tcap := hv.own.texts.at_.cap
 have scap := hv.own.subs.cap
 have wmax := hv.own.words.max
 have tmax := hv.own.texts.at_.max
 have smax := hv.own.subs.max
 unfold maxLen at wmax tmax smax
 have hMB : manyU (bareV v) = manyU v := by unfold manyU bareV; simp
 have hm := fun W => rManyW (u := v) (w := W) hwl htl hsl
 have hR := fun W => kRightR f.kind W
 obtain ⟨R0, hR0⟩ : ∃ R0, R0 = eqB (FitP (S.map MsgV.d) f (bareV v)) := ⟨_, rfl⟩
 rw [← hR0]
 obtain ⟨N, hN0⟩ : ∃ N, N = manyU v := ⟨_, rfl⟩
 rw [← hN0] at hm hMB
 have hNi : (N : Int) ≤ 3000000000000 := by unfold manyU at hN0; omega
 unfold fieldV
 unfold tvalV at hm ⊢
 have Hm := Lib.hid hm
 have HR := Lib.hid hR
 clear hm hR
 have early : (N = 0 ∨ (1 < N ∧ f.rep = false) ∨ kindB f.kind = false) → R0 = false := by
  intro h
  rw [hR0]
  refine eqB_no (fun q => ?_)
  rcases h with h | ⟨h, h'⟩ | h
  · exact q.1 (by rw [hMB]; exact h)
  · have := q.2.1 h'
    omega
  · obtain ⟨_, _, q⟩ := q
    unfold kindB at h
    rcases q with ⟨q, _⟩ | ⟨_, q, _⟩ | ⟨q, _⟩
    · have := number_kind q
      simp at h
      omega
    · unfold kindB at q
      rw [h] at q
      cases q
    · rw [q] at h
      exact absurd h (by decide)
 by_cases h0 : N = 0
 · have hst := early (.inl h0)
   subst hst
   subst h0
   have q0 : (((0 : Nat) : Int) == 0) = true := rfl
   clear early hR0 hN0 hMB hp
   go_enter Tryz.func24, Tryz.ntmps24
   go_wp2_with (go_at_call 25; refine (Hm.out _).mono ?_; rintro e w1 ⟨rfl, E1⟩)
   all_goals
    go_ret
    exact ⟨rfl, Ext.trans (by repeat with_reducible (first | exact Ext.refl _ | refine Ext.alloc ?_ _ | refine Ext.drew ?_ | refine Ext.drewN ?_ _ | refine Ext.setCell ?_ (by first | omega | (simp <;> omega)) _)) E1⟩
 · have q0 : ((N : Int) == 0) = false := by rw [beq_eq_false_iff_ne]; omega
   -- GEN
   by_cases h1 : 1 < N ∧ f.rep = false
   · have hst := early (.inr (.inl h1))
     subst hst
     obtain ⟨h1, hr⟩ := h1
     have t1 : (1 : Int) < (N : Int) := by omega
     rw [hr]
     have tokA : True := trivial
     clear early hR0 hN0 hMB hp hr h0
     go_enter Tryz.func24, Tryz.ntmps24
     go_wp2_with (first
      | (go_at_call 25; have _t := tokA; refine (Hm.out _).mono ?_; rintro e w1 ⟨rfl, E1⟩; have X1 : Ext w w1 := Ext.trans (by repeat with_reducible (first | exact Ext.refl _ | refine Ext.alloc ?_ _ | refine Ext.drew ?_ | refine Ext.drewN ?_ _ | refine Ext.setCell ?_ (by first | omega | (simp <;> omega)) _)) E1; have BF := ((BlkT.new w 48 #[.string f.name, .int .i64 f.number, .int .i64 f.kind, .bool false, .bool f.packed, .int .i64 f.of_] rfl).alloc (.cells #[.int .i64 v.number, .slice v.a.1 v.words.length v.a.2, .slice v.b.1 v.texts.length v.b.2, .slice v.c.1 v.subs.length v.c.2] 57)).up E1; have BV := (BlkT.new (w.alloc (.cells #[.string f.name, .int .i64 f.number, .int .i64 f.kind, .bool false, .bool f.packed, .int .i64 f.of_] 48)) 57 #[.int .i64 v.number, .slice v.a.1 v.words.length v.a.2, .slice v.b.1 v.texts.length v.b.2, .slice v.c.1 v.subs.length v.c.2] (show w.heap.size + 1 = _ by simp)).up E1; have z3 : w1.cell? ⟨w.heap.size, 3, none⟩ = some (.bool false) := BF.cell 3; have v0 : w1.cell? ⟨w.heap.size + 1, 0, none⟩ = some (.int .i64 v.number) := BV.cell 0; have v1 : w1.cell? ⟨w.heap.size + 1, 1, none⟩ = some (.slice v.a.1 v.words.length v.a.2) := BV.cell 1; have v2 : w1.cell? ⟨w.heap.size + 1, 2, none⟩ = some (.slice v.b.1 v.texts.length v.b.2) := BV.cell 2; have v3 : w1.cell? ⟨w.heap.size + 1, 3, none⟩ = some (.slice v.c.1 v.subs.length v.c.2) := BV.cell 3; clear tokA BF BV)
      | (go_at_call 25; refine (Hm.out _).mono ?_; rintro e w2 ⟨rfl, E2⟩; have X2 : Ext w1 w2 := Ext.trans (by repeat with_reducible (first | exact Ext.refl _ | refine Ext.alloc ?_ _ | refine Ext.drew ?_ | refine Ext.drewN ?_ _ | refine Ext.setCell ?_ (by first | omega | (simp <;> omega)) _)) E2; replace z3 := X2.of_cell z3))
     all_goals
      go_ret
      exact ⟨rfl, X1.trans (X2.trans (by repeat with_reducible (first | exact Ext.refl _ | refine Ext.alloc ?_ _ | refine Ext.drew ?_ | refine Ext.drewN ?_ _ | refine Ext.setCell ?_ (by first | omega | (simp <;> omega)) _)))⟩
   · have hrN : f.rep = false → N = 1 := fun hr => by
      have : ¬ 1 < N := fun h => h1 ⟨h, hr⟩
      omega
     have hFit : FitP (S.map MsgV.d) f (bareV v) ↔ SwP (S.map MsgV.d) f v := by
      unfold FitP SwP
      rw [hMB]
      have hb : (bareV v).subs = v.subs.map bare := rfl
      have hb1 : (bareV v).words = v.words := rfl
      have hb2 : (bareV v).texts = v.texts := rfl
      rw [hb, hb1, hb2, List.map_eq_nil_iff]
      simp only [List.forall_mem_map]
      exact ⟨fun h => h.2.2, fun h => ⟨h0, hrN, h⟩⟩
     have tokA : True := trivial
     obtain ⟨rp, hrp⟩ : ∃ rp, rp = f.rep := ⟨_, rfl⟩
     have key : ((1 : Int) < (N : Int) ∧ (!rp) = false) ∨ ¬ (1 : Int) < (N : Int) := by
      by_cases h : (1 : Int) < (N : Int)
      · refine .inl ⟨h, ?_⟩
        rcases hr : f.rep with _ | _
        · exact absurd ⟨by omega, hr⟩ h1
        · rw [hrp, hr]
          rfl
      · exact .inr h
     rw [← hrp]
     clear hrp h1 hrN
     rcases key with ⟨t1, hq⟩ | t1
     all_goals
      go_enter Tryz.func24, Tryz.ntmps24
      go_wp2_with fail
      have BF := (BlkT.new w 48 #[.string f.name, .int .i64 f.number, .int .i64 f.kind, .bool rp, .bool f.packed, .int .i64 f.of_] rfl).alloc (.cells #[.int .i64 v.number, .slice v.a.1 v.words.length v.a.2, .slice v.b.1 v.texts.length v.b.2, .slice v.c.1 v.subs.length v.c.2] 57)
      have BV := BlkT.new (w.alloc (.cells #[.string f.name, .int .i64 f.number, .int .i64 f.kind, .bool rp, .bool f.packed, .int .i64 f.of_] 48)) 57 #[.int .i64 v.number, .slice v.a.1 v.words.length v.a.2, .slice v.b.1 v.texts.length v.b.2, .slice v.c.1 v.subs.length v.c.2] (show w.heap.size + 1 = _ by simp)
      have X0 : Ext w ((w.alloc (.cells #[.string f.name, .int .i64 f.number, .int .i64 f.kind, .bool rp, .bool f.packed, .int .i64 f.of_] 48)).alloc (.cells #[.int .i64 v.number, .slice v.a.1 v.words.length v.a.2, .slice v.b.1 v.texts.length v.b.2, .slice v.c.1 v.subs.length v.c.2] 57)) := ((Ext.refl w).alloc _).alloc _
      generalize (w.alloc (.cells #[.string f.name, .int .i64 f.number, .int .i64 f.kind, .bool rp, .bool f.packed, .int .i64 f.of_] 48)).alloc (.cells #[.int .i64 v.number, .slice v.a.1 v.words.length v.a.2, .slice v.b.1 v.texts.length v.b.2, .slice v.c.1 v.subs.length v.c.2] 57) = wx at *
      have z0 : wx.cell? ⟨w.heap.size, 0, none⟩ = some (.string f.name) := BF.cell 0
      have z1 : wx.cell? ⟨w.heap.size, 1, none⟩ = some (.int .i64 f.number) := BF.cell 1
      have z2 : wx.cell? ⟨w.heap.size, 2, none⟩ = some (.int .i64 f.kind) := BF.cell 2
      have z3 : wx.cell? ⟨w.heap.size, 3, none⟩ = some (.bool rp) := BF.cell 3
      have z4 : wx.cell? ⟨w.heap.size, 4, none⟩ = some (.bool f.packed) := BF.cell 4
      have z5 : wx.cell? ⟨w.heap.size, 5, none⟩ = some (.int .i64 f.of_) := BF.cell 5
      have v0 : wx.cell? ⟨w.heap.size + 1, 0, none⟩ = some (.int .i64 v.number) := BV.cell 0
      have v1 : wx.cell? ⟨w.heap.size + 1, 1, none⟩ = some (.slice v.a.1 v.words.length v.a.2) := BV.cell 1
      have v2 : wx.cell? ⟨w.heap.size + 1, 2, none⟩ = some (.slice v.b.1 v.texts.length v.b.2) := BV.cell 2
      have v3 : wx.cell? ⟨w.heap.size + 1, 3, none⟩ = some (.slice v.c.1 v.subs.length v.c.2) := BV.cell 3
      have lf := BF.lt
      have lv := BV.lt
      clear BF BV
      rcases hkb : kindB f.kind with _ | _
      · have hst := early (.inr (.inr hkb))
        have hR := HR.out
        rw [hkb] at hR
        have HR2 := Lib.hid hR
        have HS := Lib.hid hst
        clear hst hR early hR0 hN0 hMB hp hkb
        go_wp2_with (first
         | (go_at_call 25; have _t := tokA; refine (Hm.out _).mono ?_; rintro e w1 ⟨rfl, E1⟩; have X1 : Ext wx w1 := Ext.trans (by repeat with_reducible (first | exact Ext.refl _ | refine Ext.alloc ?_ _ | refine Ext.drew ?_ | refine Ext.drewN ?_ _ | refine Ext.setCell ?_ (by first | omega | (simp <;> omega)) _)) E1; replace z2 := X1.of_cell z2; replace z5 := X1.of_cell z5; replace v0 := X1.of_cell v0; replace v1 := X1.of_cell v1; replace v2 := X1.of_cell v2; replace v3 := X1.of_cell v3; replace z0 := X1.of_cell z0; replace z1 := X1.of_cell z1; replace z3 := X1.of_cell z3; replace z4 := X1.of_cell z4; replace lf := Nat.lt_of_lt_of_le lf X1.size; replace lv := Nat.lt_of_lt_of_le lv X1.size; clear tokA)
         | (go_at_call 25; refine (Hm.out _).mono ?_; rintro e w2 ⟨rfl, E2⟩; have X2 : Ext w1 w2 := Ext.trans (by repeat with_reducible (first | exact Ext.refl _ | refine Ext.alloc ?_ _ | refine Ext.drew ?_ | refine Ext.drewN ?_ _ | refine Ext.setCell ?_ (by first | omega | (simp <;> omega)) _)) E2; replace z2 := X2.of_cell z2; replace z5 := X2.of_cell z5; replace v0 := X2.of_cell v0; replace v1 := X2.of_cell v1; replace v2 := X2.of_cell v2; replace v3 := X2.of_cell v3; replace z0 := X2.of_cell z0; replace z1 := X2.of_cell z1; replace z3 := X2.of_cell z3; replace z4 := X2.of_cell z4; replace lf := Nat.lt_of_lt_of_le lf X2.size; replace lv := Nat.lt_of_lt_of_le lv X2.size)
         | (go_at_call 67; refine (HR2.out _).mono ?_; rintro e w3 ⟨rfl, hw3⟩; subst hw3))
        all_goals
         go_ret
         exact ⟨ret_bool HS.out.symm, X0.trans (X1.trans (X2.trans (by repeat with_reducible (first | exact Ext.refl _ | refine Ext.alloc ?_ _ | refine Ext.drew ?_ | refine Ext.drewN ?_ _ | refine Ext.setCell ?_ (by first | omega | (simp <;> omega)) _))))⟩
      · have hR := HR.out
        rw [hkb] at hR
        have HR2 := Lib.hid hR
        have hfin := hR0.trans (eqB_congr (hFit.trans (swr_iff hkb)))
        have HF := Lib.hid hfin
        have hN := fun W => kNumberR f.kind W
        have HN := Lib.hid hN
        have Hp := Lib.hid hp
        have Hv := Lib.hid hv
        have Htt := Lib.hid htt
        clear hR early hR0 hN0 hMB hp hkb hfin hN hv htt
        go_wp2_with (first
         | (go_at_call 25; have _t := tokA; refine (Hm.out _).mono ?_; rintro e w1 ⟨rfl, E1⟩; have X1 : Ext wx w1 := Ext.trans (by repeat with_reducible (first | exact Ext.refl _ | refine Ext.alloc ?_ _ | refine Ext.drew ?_ | refine Ext.drewN ?_ _ | refine Ext.setCell ?_ (by first | omega | (simp <;> omega)) _)) E1; replace z2 := X1.of_cell z2; replace z5 := X1.of_cell z5; replace v0 := X1.of_cell v0; replace v1 := X1.of_cell v1; replace v2 := X1.of_cell v2; replace v3 := X1.of_cell v3; replace z0 := X1.of_cell z0; replace z1 := X1.of_cell z1; replace z3 := X1.of_cell z3; replace z4 := X1.of_cell z4; replace lf := Nat.lt_of_lt_of_le lf X1.size; replace lv := Nat.lt_of_lt_of_le lv X1.size; clear tokA)
         | (go_at_call 25; refine (Hm.out _).mono ?_; rintro e w2 ⟨rfl, E2⟩; have X2 : Ext w1 w2 := Ext.trans (by repeat with_reducible (first | exact Ext.refl _ | refine Ext.alloc ?_ _ | refine Ext.drew ?_ | refine Ext.drewN ?_ _ | refine Ext.setCell ?_ (by first | omega | (simp <;> omega)) _)) E2; replace z2 := X2.of_cell z2; replace z5 := X2.of_cell z5; replace v0 := X2.of_cell v0; replace v1 := X2.of_cell v1; replace v2 := X2.of_cell v2; replace v3 := X2.of_cell v3; replace z0 := X2.of_cell z0; replace z1 := X2.of_cell z1; replace z3 := X2.of_cell z3; replace z4 := X2.of_cell z4; replace lf := Nat.lt_of_lt_of_le lf X2.size; replace lv := Nat.lt_of_lt_of_le lv X2.size)
         | (go_at_call 67; refine (HR2.out _).mono ?_; rintro e w3 ⟨rfl, hw3⟩; subst hw3))
        have XW : Ext w w2 := X0.trans (X1.trans X2)
        clear z0 z1 z3 z4 v0 X0 X1 X2
        go_loopw [7, 8] (fun ok i wr => ∃ (k : Nat) (b : Bool), k ≤ v.words.length ∧ i = .int .i64 (k : Int) ∧ ok = .bool b ∧ Ext w2 wr ∧ Hid (b = eqB (∀ x ∈ v.words.take k, numberB f.kind = true ∧ canonN f.kind x = x))) (fun _ i _ => v.words.length - (intOf i).toNat)
        case atStart => exact ⟨0, true, Nat.zero_le _, rfl, rfl, Ext.refl _, (eqB_yes (fun x hx => by cases hx)).symm⟩
        case round =>
         rename World => wr
         obtain ⟨k, b, hkk, rfl, rfl, hE, hB⟩ := hrel
         have z2r := hE.of_cell z2
         have v1r := hE.of_cell v1
         have lfr := Nat.lt_of_lt_of_le lf hE.size
         have lvr := Nat.lt_of_lt_of_le lv hE.size
         by_cases hlt : k < v.words.length
         · have hltI : (k : Int) < v.words.length := by omega
           obtain ⟨b5, off5, x, hA, hxk, hb5, e0⟩ := wordAt (Hv.out.own.words.ext (XW.trans hE)) hlt
           have hx64 := Hv.out.own.small x (List.mem_of_getElem? hxk)
           have Hxk := Lib.hid hxk
           rw [hA] at v1r
           clear hxk hA
           go_wp2
           rcases b with _ | _
           · have hnext := eqB_take_off hB.out
             have HX := Lib.hid hnext
             clear hnext
             go_quiet (fail)
             go_wp2
             go_roundw
             case rel => exact ⟨k + 1, false, by omega, by go_num, rfl, hE.trans (by repeat with_reducible (first | exact Ext.refl _ | refine Ext.alloc ?_ _ | refine Ext.drew ?_ | refine Ext.drewN ?_ _ | refine Ext.setCell ?_ (by first | omega | (simp <;> omega)) _)), HX.out⟩
             case measure => simp [intOf]; omega
           · rcases hn : numberB f.kind with _ | _
             · have hN2 := HN.out
               rw [hn] at hN2
               have HN2 := Lib.hid hN2
               have hnext := eqB_take_no (p := fun x => numberB f.kind = true ∧ canonN f.kind x = x) Hxk.out (fun q => by rw [hn] at q; cases q.1)
               have HX := Lib.hid hnext
               clear hnext hN2 hn
               go_quiet ((go_at_call 55; exact Calls.quiet_of_same ((HN2.out _).mono fun _ _ h => ⟨h.1, h.2.symm⟩)))
               go_wp2
               go_roundw
               case rel => exact ⟨k + 1, false, by omega, by go_num, rfl, hE.trans (by repeat with_reducible (first | exact Ext.refl _ | refine Ext.alloc ?_ _ | refine Ext.drew ?_ | refine Ext.drewN ?_ _ | refine Ext.setCell ?_ (by first | omega | (simp <;> omega)) _)), HX.out⟩
               case measure => simp [intOf]; omega
             · have hN2 := HN.out
               rw [hn] at hN2
               have HN2 := Lib.hid hN2
               have hcn := fun W => kCanonR f.kind x hx64 W
               by_cases hc : canonN f.kind x = x
               · rw [hc] at hcn
                 have hnext := eqB_take_yes (p := fun x => numberB f.kind = true ∧ canonN f.kind x = x) Hxk.out hB.out ⟨hn, hc⟩
                 have HX := Lib.hid hnext
                 have HCn := Lib.hid hcn
                 clear hnext hN2 hn hc hcn
                 go_quiet (first | (go_at_call 55; exact Calls.quiet_of_same ((HN2.out _).mono fun _ _ h => ⟨h.1, h.2.symm⟩)) | (go_at_call 68; exact Calls.quiet_of_same ((HCn.out _).mono fun _ _ h => ⟨h.1, h.2.symm⟩)))
                 go_wp2
                 go_roundw
                 case rel => exact ⟨k + 1, true, by omega, by go_num, by simp, hE.trans (by repeat with_reducible (first | exact Ext.refl _ | refine Ext.alloc ?_ _ | refine Ext.drew ?_ | refine Ext.drewN ?_ _ | refine Ext.setCell ?_ (by first | omega | (simp <;> omega)) _)), HX.out⟩
                 case measure => simp [intOf]; omega
               · have hnext := eqB_take_no (p := fun x => numberB f.kind = true ∧ canonN f.kind x = x) Hxk.out (fun q => hc q.2)
                 have HX := Lib.hid hnext
                 generalize canonN f.kind x = y at *
                 have q4 : ((y : Int) == (x : Int)) = false := by rw [beq_eq_false_iff_ne]; omega
                 have HCn := Lib.hid hcn
                 clear hnext hN2 hn hc hcn
                 go_quiet (first | (go_at_call 55; exact Calls.quiet_of_same ((HN2.out _).mono fun _ _ h => ⟨h.1, h.2.symm⟩)) | (go_at_call 68; exact Calls.quiet_of_same ((HCn.out _).mono fun _ _ h => ⟨h.1, h.2.symm⟩)))
                 go_wp2
                 go_roundw
                 case rel => exact ⟨k + 1, false, by omega, by go_num, by simp, hE.trans (by repeat with_reducible (first | exact Ext.refl _ | refine Ext.alloc ?_ _ | refine Ext.drew ?_ | refine Ext.drewN ?_ _ | refine Ext.setCell ?_ (by first | omega | (simp <;> omega)) _)), HX.out⟩
                 case measure => simp [intOf]; omega
         · have hge : ¬ (k : Int) < v.words.length := by omega
           have hB1 : b = eqB (∀ x ∈ v.words, numberB f.kind = true ∧ canonN f.kind x = x) := by
            have := hB.out
            rwa [List.take_of_length_le (by omega)] at this
           have HB1 := Lib.hid hB1
           clear hB1
           go_wp2
           go_loopw [7, 9] (fun ok i wq => ∃ (k : Nat) (b2 : Bool), k ≤ v.texts.length ∧ i = .int .i64 (k : Int) ∧ ok = .bool b2 ∧ Ext w2 wq ∧ Hid (b2 = (b && eqB (∀ t ∈ v.texts.take k, f.kind = 16 ∨ f.kind = 15 ∧ rightT t.data.toList = true)))) (fun _ i _ => v.texts.length - (intOf i).toNat)
           case atStart => exact ⟨0, b, Nat.zero_le _, rfl, rfl, hE, by show _ = _; rw [eqB_yes (fun x hx => by cases hx), Bool.and_true]⟩
           case round =>
            rename World => wq
            obtain ⟨j, b2, hj, rfl, rfl, hE2, hB2⟩ := hrel
            have z2q := hE2.of_cell z2
            have v2q := hE2.of_cell v2
            have lfq := Nat.lt_of_lt_of_le lf hE2.size
            have lvq := Nat.lt_of_lt_of_le lv hE2.size
            by_cases hltj : j < v.texts.length
            · have hltI : (j : Int) < v.texts.length := by omega
              obtain ⟨b5, off5, t, hA, htk, hb5, ht, e0⟩ := (Hv.out.own.texts.up (XW.trans hE2)).text hltj
              have Htk := Lib.hid htk
              have htl2 := Htt.out t (List.mem_of_getElem? htk)
              rw [hA] at v2q
              clear htk hA
              rcases b2 with _ | _
              · have hnext := andT_off hB2.out
                have HX := Lib.hid hnext
                clear hnext
                go_wp2
                go_roundw
                case rel => exact ⟨j + 1, false, by omega, by go_num, rfl, hE2.trans (by repeat with_reducible (first | exact Ext.refl _ | refine Ext.alloc ?_ _ | refine Ext.drew ?_ | refine Ext.drewN ?_ _ | refine Ext.setCell ?_ (by first | omega | (simp <;> omega)) _)), HX.out⟩
                case measure => simp [intOf]; omega
              · by_cases h16 : f.kind = 16
                · have t16 : (f.kind == 16) = true := by rw [beq_iff_eq]; exact h16
                  have hnext := andT_yes (p := fun t : ByteArray => f.kind = 16 ∨ f.kind = 15 ∧ rightT t.data.toList = true) Htk.out hB2.out (.inl h16)
                  have HX := Lib.hid hnext
                  clear hnext h16
                  go_wp2
                  go_roundw
                  case rel => exact ⟨j + 1, true, by omega, by go_num, rfl, hE2.trans (by repeat with_reducible (first | exact Ext.refl _ | refine Ext.alloc ?_ _ | refine Ext.drew ?_ | refine Ext.drewN ?_ _ | refine Ext.setCell ?_ (by first | omega | (simp <;> omega)) _)), HX.out⟩
                  case measure => simp [intOf]; omega
                · have t16 : (f.kind == 16) = false := by rw [beq_eq_false_iff_ne]; exact h16
                  by_cases h15 : f.kind = 15
                  · have t15 : (f.kind == 15) = true := by rw [beq_iff_eq]; exact h15
                    obtain ⟨A7, c7, W7, run7, X7, hb7⟩ := conv_text wq t ht
                    have hu := fun W (h : BytesAt W A7 t.data.toList.length c7 t.data.toList) => uRightR h htl2
                    rcases hq : rightT t.data.toList with _ | _
                    · have hnext := andT_no (b := b) (p := fun t : ByteArray => f.kind = 16 ∨ f.kind = 15 ∧ rightT t.data.toList = true) Htk.out (fun q => by rcases q with q | q; exact h16 q; rw [hq] at q; cases q.2)
                      rw [hq] at hu
                      have HX := Lib.hid hnext
                      have Hu := Lib.hid hu
                      have Hb7 := Lib.hid hb7
                      clear hnext h16 h15 hu hb7 hq
                      go_wp2_with (go_at_call 69; refine (Hu.out _ (Hb7.out.up (by repeat with_reducible (first | exact Ext.refl _ | refine Ext.alloc ?_ _ | refine Ext.drew ?_ | refine Ext.drewN ?_ _ | refine Ext.setCell ?_ (by first | omega | (simp <;> omega)) _)))).mono ?_; rintro e w7 ⟨rfl, E7⟩; have X8 : Ext W7 w7 := Ext.trans (by repeat with_reducible (first | exact Ext.refl _ | refine Ext.alloc ?_ _ | refine Ext.drew ?_ | refine Ext.drewN ?_ _ | refine Ext.setCell ?_ (by first | omega | (simp <;> omega)) _)) E7)
                      go_roundw
                      case rel => exact ⟨j + 1, false, by omega, by go_num, rfl, hE2.trans (X7.trans X8), HX.out⟩
                      case measure => simp [intOf]; omega
                    · have hnext := andT_yes (p := fun t : ByteArray => f.kind = 16 ∨ f.kind = 15 ∧ rightT t.data.toList = true) Htk.out hB2.out (.inr ⟨h15, hq⟩)
                      rw [hq] at hu
                      have HX := Lib.hid hnext
                      have Hu := Lib.hid hu
                      have Hb7 := Lib.hid hb7
                      clear hnext h16 h15 hu hb7 hq
                      go_wp2_with (go_at_call 69; refine (Hu.out _ (Hb7.out.up (by repeat with_reducible (first | exact Ext.refl _ | refine Ext.alloc ?_ _ | refine Ext.drew ?_ | refine Ext.drewN ?_ _ | refine Ext.setCell ?_ (by first | omega | (simp <;> omega)) _)))).mono ?_; rintro e w7 ⟨rfl, E7⟩; have X8 : Ext W7 w7 := Ext.trans (by repeat with_reducible (first | exact Ext.refl _ | refine Ext.alloc ?_ _ | refine Ext.drew ?_ | refine Ext.drewN ?_ _ | refine Ext.setCell ?_ (by first | omega | (simp <;> omega)) _)) E7)
                      go_roundw
                      case rel => exact ⟨j + 1, true, by omega, by go_num, rfl, hE2.trans (X7.trans X8), HX.out⟩
                      case measure => simp [intOf]; omega
                  · have t15 : (f.kind == 15) = false := by rw [beq_eq_false_iff_ne]; exact h15
                    have hnext := andT_no (b := b) (p := fun t : ByteArray => f.kind = 16 ∨ f.kind = 15 ∧ rightT t.data.toList = true) Htk.out (fun q => by rcases q with q | q; exact h16 q; exact h15 q.1)
                    have HX := Lib.hid hnext
                    clear hnext h16 h15
                    go_wp2
                    go_roundw
                    case rel => exact ⟨j + 1, false, by omega, by go_num, rfl, hE2.trans (by repeat with_reducible (first | exact Ext.refl _ | refine Ext.alloc ?_ _ | refine Ext.drew ?_ | refine Ext.drewN ?_ _ | refine Ext.setCell ?_ (by first | omega | (simp <;> omega)) _)), HX.out⟩
                    case measure => simp [intOf]; omega
            · have hge2 : ¬ (j : Int) < v.texts.length := by omega
              have hB3 : b2 = (b && eqB (∀ t ∈ v.texts, f.kind = 16 ∨ f.kind = 15 ∧ rightT t.data.toList = true)) := by
               have := hB2.out
               rwa [List.take_of_length_le (by omega)] at this
              have HB3 := Lib.hid hB3
              clear hB3
              go_wp2
              go_loopw [7, 10] (fun ok i wp => ∃ (k : Nat) (b3 : Bool), k ≤ v.subs.length ∧ i = .int .i64 (k : Int) ∧ ok = .bool b3 ∧ Ext w2 wp ∧ Hid (b3 = (b2 && eqB (∀ y ∈ v.subs.take k, f.kind = 17 ∧ RI (S.map MsgV.d) f.of_ (bare y))))) (fun _ i _ => v.subs.length - (intOf i).toNat)
              case atStart => exact ⟨0, b2, Nat.zero_le _, rfl, rfl, hE2, by show _ = _; rw [eqB_yes (fun x hx => by cases hx), Bool.and_true]⟩
              case round =>
               rename World => wp
               obtain ⟨q, b3, hq, rfl, rfl, hE3, hB4⟩ := hrel
               have z2p := hE3.of_cell z2
               have z5p := hE3.of_cell z5
               have v3p := hE3.of_cell v3
               have lfp := Nat.lt_of_lt_of_le lf hE3.size
               have lvp := Nat.lt_of_lt_of_le lv hE3.size
               by_cases hltq : q < v.subs.length
               · have hltI : (q : Int) < v.subs.length := by omega
                 obtain ⟨b5, off5, y, hA, hyk, hb5, e0, e1⟩ := treeCells (Hv.out.own.subs.ext (XW.trans hE3)) hltq
                 have Hyk := Lib.hid hyk
                 have hcall := Hp.out y (List.mem_of_getElem? hyk)
                 unfold treeV at hcall
                 rw [hA] at v3p
                 clear hyk hA
                 go_wp2
                 rcases b3 with _ | _
                 · have hnext := andT_off hB4.out
                   have HX := Lib.hid hnext
                   clear hnext hcall
                   go_quiet (fail)
                   go_wp2
                   go_roundw
                   case rel => exact ⟨q + 1, false, by omega, by go_num, rfl, hE3.trans (by repeat with_reducible (first | exact Ext.refl _ | refine Ext.alloc ?_ _ | refine Ext.drew ?_ | refine Ext.drewN ?_ _ | refine Ext.setCell ?_ (by first | omega | (simp <;> omega)) _)), HX.out⟩
                   case measure => simp [intOf]; omega
                 · by_cases h17 : f.kind = 17
                   · have t17 : (f.kind == 17) = true := by rw [beq_iff_eq]; exact h17
                     have Xp : Ext wp wp := Ext.refl wp
                     by_cases hr : RI (S.map MsgV.d) f.of_ (bare y)
                     · rw [eqB_yes hr] at hcall
                       have hnext := andT_yes (p := fun y : MsgR => f.kind = 17 ∧ RI (S.map MsgV.d) f.of_ (bare y)) Hyk.out hB4.out ⟨h17, hr⟩
                       have HX := Lib.hid hnext
                       have Hcall := Lib.hid hcall
                       clear hnext hcall h17 hr
                       go_region_held3 (fun W => Ext wp W ∧ ∀ b o, b < wp.heap.size → W.cell? ⟨b, o, none⟩ = wp.cell? ⟨b, o, none⟩) ((refine Ext.keep ?_; repeat with_reducible (first | assumption | exact Ext.refl _ | refine Ext.alloc ?_ _ | refine Ext.drew ?_ | refine Ext.drewN ?_ _ | refine Ext.setCell ?_ (by first | omega | (simp <;> omega)) _))) (first | (go_split_ands; go_at_call 70; refine (Hcall.out _ ((XW.trans hE3).trans (by with_reducible assumption))).mono ?_; rintro e w7 ⟨rfl, E7⟩; have q7 : Ext wp w7 := Ext.trans (by with_reducible assumption) E7))
                       go_wp2
                       go_roundw
                       case rel => exact ⟨q + 1, true, by omega, by go_num, rfl, hE3.trans q7, HX.out⟩
                       case measure => simp [intOf]; omega
                     · rw [eqB_no hr] at hcall
                       have hnext := andT_no (b := b2) (p := fun y : MsgR => f.kind = 17 ∧ RI (S.map MsgV.d) f.of_ (bare y)) Hyk.out (fun q => hr q.2)
                       have HX := Lib.hid hnext
                       have Hcall := Lib.hid hcall
                       clear hnext hcall h17 hr
                       go_region_held3 (fun W => Ext wp W ∧ ∀ b o, b < wp.heap.size → W.cell? ⟨b, o, none⟩ = wp.cell? ⟨b, o, none⟩) ((refine Ext.keep ?_; repeat with_reducible (first | assumption | exact Ext.refl _ | refine Ext.alloc ?_ _ | refine Ext.drew ?_ | refine Ext.drewN ?_ _ | refine Ext.setCell ?_ (by first | omega | (simp <;> omega)) _))) (first | (go_split_ands; go_at_call 70; refine (Hcall.out _ ((XW.trans hE3).trans (by with_reducible assumption))).mono ?_; rintro e w7 ⟨rfl, E7⟩; have q7 : Ext wp w7 := Ext.trans (by with_reducible assumption) E7))
                       go_wp2
                       go_roundw
                       case rel => exact ⟨q + 1, false, by omega, by go_num, rfl, hE3.trans q7, HX.out⟩
                       case measure => simp [intOf]; omega
                   · have t17 : (f.kind == 17) = false := by rw [beq_eq_false_iff_ne]; exact h17
                     have hnext := andT_no (b := b2) (p := fun y : MsgR => f.kind = 17 ∧ RI (S.map MsgV.d) f.of_ (bare y)) Hyk.out (fun q => h17 q.1)
                     have HX := Lib.hid hnext
                     clear hnext hcall h17
                     go_quiet (fail)
                     go_wp2
                     go_roundw
                     case rel => exact ⟨q + 1, false, by omega, by go_num, rfl, hE3.trans (by repeat with_reducible (first | exact Ext.refl _ | refine Ext.alloc ?_ _ | refine Ext.drew ?_ | refine Ext.drewN ?_ _ | refine Ext.setCell ?_ (by first | omega | (simp <;> omega)) _)), HX.out⟩
                     case measure => simp [intOf]; omega
               · have hge3 : ¬ (q : Int) < v.subs.length := by omega
                 have hB5 : b3 = (b2 && eqB (∀ y ∈ v.subs, f.kind = 17 ∧ RI (S.map MsgV.d) f.of_ (bare y))) := by
                  have := hB4.out
                  rwa [List.take_of_length_le (by omega)] at this
                 have HB5 := Lib.hid hB5
                 clear hB5
                 go_wp2
                 go_ret
                 refine ⟨ret_bool ?_, XW.trans hE3⟩
                 rw [HF.out, HB5.out, HB3.out, HB1.out]
                 unfold FitR
                 rw [eqB_and, eqB_and, Bool.and_assoc]

end Go.Proofs.YtnnphodgegcddaaGreat

/- A drawn region of the reference's Right, as laws of its own. (Printed by gen_rreg7.py.) -/


namespace Go.Proofs.YtnnphodgegcddaaGreat
open Go.RowKit Go.Shelf
set_option linter.unusedVariables false
set_option linter.unusedSimpArgs false

noncomputable def regR (n : Nat) : Code := ((Tryz.f70.body.bind (regionOf n)).getD .skip)

set_option maxRecDepth 100000 in
set_option maxHeartbeats 4000000 in
theorem rreg7a {Q0 : Exit → Act → World → Prop} {u2 u3 u4 u6 u9 u10 u11 u12 u13 u14 u15 u16 u17 u18 u19 u20 u21 u22 u23 u24 u25 u26 u27 u28 u29 u30 u31 u32 u33 u34 u35 u36 u37 u38 u39 u40 u41 u42 u43 u44 u45 u46 u47 u48 u49 u50 u51 u52 u53 u54 u55 u56 u57 u58 u59 u60 u61 u62 u63 u64 u65 u66 u67 u68 u69 u70 u71 u72 u73 u74 u75 u76 u77 u78 u79 u80 u81 u82 u83 u84 u85 u86 u87 u88 u89 u90 u91 u92 u93 u94 u95 u96 u97 u98 u99 u100 u101 u102 u103 u104 u105 u106 u107 u108 u109 u110 u111 u112 u113 u114 u115 u116 u117 : Value} {w : World} {b1 off1 n c m bx i Mn Mc b8 off8 b5 off5 xl xc k : Nat} {q : Bool} {f : FieldD} {v : ValR}
  (hm : m < n) (hi : i < Mn) (hMn : Mn ≤ 1000000) (hk : k < xl) (hk0 : k = 0) (hxl : xl ≤ 1000000000000)
  (x0 : w.cell? ⟨bx, 0, none⟩ = some (.slice (some ⟨b5, off5, none⟩) xl xc)) (s1 : w.cell? ⟨b1, off1 + m * 2 + 1, none⟩ = some (.slice (some ⟨b8, off8, none⟩) Mn Mc))
  (g0 : w.cell? ⟨b8, off8 + i * 6, none⟩ = some (.string f.name)) (g1 : w.cell? ⟨b8, off8 + i * 6 + 1, none⟩ = some (.int .i64 f.number)) (g2 : w.cell? ⟨b8, off8 + i * 6 + 2, none⟩ = some (.int .i64 f.kind)) (g3 : w.cell? ⟨b8, off8 + i * 6 + 3, none⟩ = some (.bool f.rep)) (g4 : w.cell? ⟨b8, off8 + i * 6 + 4, none⟩ = some (.bool f.packed)) (g5 : w.cell? ⟨b8, off8 + i * 6 + 5, none⟩ = some (.int .i64 f.of_))
  (e0 : w.cell? ⟨b5, off5 + k * 4, none⟩ = some (.int .i64 v.number)) (e1 : w.cell? ⟨b5, off5 + k * 4 + 1, none⟩ = some (.slice v.a.1 v.words.length v.a.2)) (e2 : w.cell? ⟨b5, off5 + k * 4 + 2, none⟩ = some (.slice v.b.1 v.texts.length v.b.2)) (e3 : w.cell? ⟨b5, off5 + k * 4 + 3, none⟩ = some (.slice v.c.1 v.subs.length v.c.2)) 
  (h1 : b1 < w.heap.size) (h8 : b8 < w.heap.size) (h5 : b5 < w.heap.size) (hx : bx < w.heap.size)
  (Hcall : Hid (∀ W, Ext w W → Calls Tryz.prog 24 #[.slice (some ⟨b1, off1, none⟩) n c, .agg #[.string f.name, .int .i64 f.number, .int .i64 f.kind, .bool f.rep, .bool f.packed, .int .i64 f.of_], .agg #[.int .i64 v.number, .slice v.a.1 v.words.length v.a.2, .slice v.b.1 v.texts.length v.b.2, .slice v.c.1 v.subs.length v.c.2]] W fun e W' => e = .returned (.bool q) ∧ Ext W W'))
  (hK : ∀ (v38 v39 v40 v41 v42 v43 v44 v45 v46 v47 v48 v49 v50 v51 v52 v53 v54 v55 v56 v57 v58 v59 v60 v61 v62 v63 v64 v65 v66 v67 v68 v69 v70 v71 v72 v73 v74 v75 v76 : Value) (wz : World), Ext w wz → Q0 .normal ⟨#[.slice (some ⟨b1, off1, none⟩) n c, .int .i64 (m : Int), u2, u3, u4, .pointer (some ⟨bx, 0, none⟩), u6, .int .i64 (k : Int), .int .i64 (i : Int), u9, u10, u11, u12, u13, u14, u15, u16, u17, u18, u19, u20, u21, u22, u23, u24, u25, u26, u27, u28, u29, u30, u31, u32, u33, u34, u35, u36, u37, v38, v39, v40, v41, v42, v43, v44, v45, v46, v47, v48, v49, v50, v51, v52, v53, v54, v55, v56, v57, v58, v59, v60, v61, v62, v63, v64, v65, v66, v67, v68, v69, v70, v71, v72, v73, v74, v75, v76, .bool (!q), u78, u79, u80, u81, u82, u83, u84, u85, u86, u87, u88, u89, u90, u91, u92, u93, u94, u95, u96, u97, u98, u99, u100, u101, u102, u103, u104, u105, u106, u107, u108, u109, u110, u111, u112, u113, u114, u115, u116, u117], []⟩ wz) :
  Code.wp Tryz.prog (regR 7) (calmQ Q0) ⟨#[.slice (some ⟨b1, off1, none⟩) n c, .int .i64 (m : Int), u2, u3, u4, .pointer (some ⟨bx, 0, none⟩), u6, .int .i64 (k : Int), .int .i64 (i : Int), u9, u10, u11, u12, u13, u14, u15, u16, u17, u18, u19, u20, u21, u22, u23, u24, u25, u26, u27, u28, u29, u30, u31, u32, u33, u34, u35, u36, u37, u38, u39, u40, u41, u42, u43, u44, u45, u46, u47, u48, u49, u50, u51, u52, u53, u54, u55, u56, u57, u58, u59, u60, u61, u62, u63, u64, u65, u66, u67, u68, u69, u70, u71, u72, u73, u74, u75, u76, u77, u78, u79, u80, u81, u82, u83, u84, u85, u86, u87, u88, u89, u90, u91, u92, u93, u94, u95, u96, u97, u98, u99, u100, u101, u102, u103, u104, u105, u106, u107, u108, u109, u110, u111, u112, u113, u114, u115, u116, u117], []⟩ w := by
 have mI : (m : Int) < n := by omega
 have iI : (i : Int) < Mn := by omega
 have iN : decide ((i : Int) < 0) = false := by rw [decide_eq_false_iff_not]; omega
 have kI : (k : Int) < xl := by omega
 have kN : decide ((0 : Int) < (k : Int)) = false := by rw [decide_eq_false_iff_not]; omega
 have kN2 : decide (0 < k) = false := by rw [decide_eq_false_iff_not]; omega
 clear hk0
 have HK := Lib.hid hK
 clear hK
 conv => arg 2; whnf
 refine wp_region_held_drew (S := fun W => Ext w W ∧ ∀ b o, b < w.heap.size → W.cell? ⟨b, o, none⟩ = w.cell? ⟨b, o, none⟩) (by kernel_rfl) ?_ (fun hHeld => ?_)
 · exact Ext.keep (Ext.drew (Ext.refl _))
 refine wpAnyH_take (i := 0) (oi := ?o0) (v := ?v0) ?i0 (by kernel_rfl) (by kernel_rfl) (by kernel_rfl) ?q0 ?y0 (by assumption) ?r0
 case i0 => simp only [List.getElem?_toArray, List.getElem?_cons_zero, List.getElem?_cons_succ]; exact rfl
 case q0 => exact fun _ _ _ h => h
 case y0 => exact Or.inl ⟨by rfl, by (intro w' hSw; (try dsimp only at hSw); go_split_ands; go_simp; with_reducible rfl)⟩
 simp only [Act.put, List.setIfInBounds_toArray, List.set_cons_zero, List.set_cons_succ]
 refine wpAnyH_take (i := 1) (oi := ?o1) (v := ?v1) ?i1 (by kernel_rfl) (by kernel_rfl) (by kernel_rfl) ?q1 ?y1 (by assumption) ?r1
 case i1 => simp only [List.getElem?_toArray, List.getElem?_cons_zero, List.getElem?_cons_succ]; exact rfl
 case q1 => exact fun _ _ _ h => h
 case y1 => exact Or.inl ⟨by rfl, by (intro w' hSw; (try dsimp only at hSw); go_split_ands; go_simp; with_reducible rfl)⟩
 simp only [Act.put, List.setIfInBounds_toArray, List.set_cons_zero, List.set_cons_succ]
 refine wpAnyH_take (i := 2) (oi := ?o2) (v := ?v2) ?i2 (by kernel_rfl) (by kernel_rfl) (by kernel_rfl) ?q2 ?y2 (by assumption) ?r2
 case i2 => simp only [List.getElem?_toArray, List.getElem?_cons_zero, List.getElem?_cons_succ]; exact rfl
 case q2 => exact fun _ _ _ h => h
 case y2 => exact Or.inl ⟨by rfl, by (intro w' hSw; (try dsimp only at hSw); go_split_ands; go_simp; with_reducible rfl)⟩
 simp only [Act.put, List.setIfInBounds_toArray, List.set_cons_zero, List.set_cons_succ]
 refine wpAnyH_take (i := 3) (oi := ?o3) (v := ?v3) ?i3 (by kernel_rfl) (by kernel_rfl) (by kernel_rfl) ?q3 ?y3 (by assumption) ?r3
 case i3 => simp only [List.getElem?_toArray, List.getElem?_cons_zero, List.getElem?_cons_succ]; exact rfl
 case q3 => exact fun _ _ _ h => h
 case y3 => exact Or.inl ⟨by rfl, by (intro w' hSw; (try dsimp only at hSw); go_split_ands; go_simp; with_reducible rfl)⟩
 simp only [Act.put, List.setIfInBounds_toArray, List.set_cons_zero, List.set_cons_succ]
 refine wpAnyH_take (i := 4) (oi := ?o4) (v := ?v4) ?i4 (by kernel_rfl) (by kernel_rfl) (by kernel_rfl) ?q4 ?y4 (by assumption) ?r4
 case i4 => simp only [List.getElem?_toArray, List.getElem?_cons_zero, List.getElem?_cons_succ]; exact rfl
 case q4 => exact fun _ _ _ h => h
 case y4 => exact Or.inl ⟨by rfl, by (intro w' hSw; (try dsimp only at hSw); go_split_ands; go_simp; with_reducible rfl)⟩
 simp only [Act.put, List.setIfInBounds_toArray, List.set_cons_zero, List.set_cons_succ]
 refine wpAnyH_take (i := 5) (oi := ?o5) (v := ?v5) ?i5 (by kernel_rfl) (by kernel_rfl) (by kernel_rfl) ?q5 ?y5 (by assumption) ?r5
 case i5 => simp only [List.getElem?_toArray, List.getElem?_cons_zero, List.getElem?_cons_succ]; exact rfl
 case q5 => exact fun _ _ _ h => h
 case y5 => exact Or.inl ⟨by rfl, by (intro w' hSw; (try dsimp only at hSw); go_split_ands; go_simp; with_reducible rfl)⟩
 simp only [Act.put, List.setIfInBounds_toArray, List.set_cons_zero, List.set_cons_succ]
 refine wpAnyH_take (i := 6) (oi := ?o6) (v := undef) ?i6 (by kernel_rfl) (by kernel_rfl) (by kernel_rfl) ?q6 ?y6 (by assumption) ?r6
 case i6 => simp only [List.getElem?_toArray, List.getElem?_cons_zero, List.getElem?_cons_succ]; exact rfl
 case q6 => exact fun _ _ _ h => h
 case y6 => exact Or.inr ⟨by rfl, rfl⟩
 simp only [Act.put, List.setIfInBounds_toArray, List.set_cons_zero, List.set_cons_succ]
 refine wpAnyH_take (i := 7) (oi := ?o7) (v := undef) ?i7 (by kernel_rfl) (by kernel_rfl) (by kernel_rfl) ?q7 ?y7 (by assumption) ?r7
 case i7 => simp only [List.getElem?_toArray, List.getElem?_cons_zero, List.getElem?_cons_succ]; exact rfl
 case q7 => exact fun _ _ _ h => h
 case y7 => exact Or.inr ⟨by rfl, rfl⟩
 simp only [Act.put, List.setIfInBounds_toArray, List.set_cons_zero, List.set_cons_succ]
 refine wpAnyH_take (i := 8) (oi := ?o8) (v := undef) ?i8 (by kernel_rfl) (by kernel_rfl) (by kernel_rfl) ?q8 ?y8 (by assumption) ?r8
 case i8 => simp only [List.getElem?_toArray, List.getElem?_cons_zero, List.getElem?_cons_succ]; exact rfl
 case q8 => exact fun _ _ _ h => h
 case y8 => exact Or.inr ⟨by rfl, rfl⟩
 simp only [Act.put, List.setIfInBounds_toArray, List.set_cons_zero, List.set_cons_succ]
 refine wpAnyH_take (i := 9) (oi := ?o9) (v := undef) ?i9 (by kernel_rfl) (by kernel_rfl) (by kernel_rfl) ?q9 ?y9 (by assumption) ?r9
 case i9 => simp only [List.getElem?_toArray, List.getElem?_cons_zero, List.getElem?_cons_succ]; exact rfl
 case q9 => exact fun _ _ _ h => h
 case y9 => exact Or.inr ⟨by rfl, rfl⟩
 simp only [Act.put, List.setIfInBounds_toArray, List.set_cons_zero, List.set_cons_succ]
 refine wpAnyH_take (i := 10) (oi := ?o10) (v := undef) ?i10 (by kernel_rfl) (by kernel_rfl) (by kernel_rfl) ?q10 ?y10 (by assumption) ?r10
 case i10 => simp only [List.getElem?_toArray, List.getElem?_cons_zero, List.getElem?_cons_succ]; exact rfl
 case q10 => exact fun _ _ _ h => h
 case y10 => exact Or.inr ⟨by rfl, rfl⟩
 simp only [Act.put, List.setIfInBounds_toArray, List.set_cons_zero, List.set_cons_succ]
 refine wpAnyH_take (i := 11) (oi := ?o11) (v := undef) ?i11 (by kernel_rfl) (by kernel_rfl) (by kernel_rfl) ?q11 ?y11 (by assumption) ?r11
 case i11 => simp only [List.getElem?_toArray, List.getElem?_cons_zero, List.getElem?_cons_succ]; exact rfl
 case q11 => exact fun _ _ _ h => h
 case y11 => exact Or.inr ⟨by rfl, rfl⟩
 simp only [Act.put, List.setIfInBounds_toArray, List.set_cons_zero, List.set_cons_succ]
 refine wpAnyH_take (i := 12) (oi := ?o12) (v := undef) ?i12 (by kernel_rfl) (by kernel_rfl) (by kernel_rfl) ?q12 ?y12 (by assumption) ?r12
 case i12 => simp only [List.getElem?_toArray, List.getElem?_cons_zero, List.getElem?_cons_succ]; exact rfl
 case q12 => exact fun _ _ _ h => h
 case y12 => exact Or.inr ⟨by rfl, rfl⟩
 simp only [Act.put, List.setIfInBounds_toArray, List.set_cons_zero, List.set_cons_succ]
 refine wpAnyH_take (i := 13) (oi := ?o13) (v := undef) ?i13 (by kernel_rfl) (by kernel_rfl) (by kernel_rfl) ?q13 ?y13 (by assumption) ?r13
 case i13 => simp only [List.getElem?_toArray, List.getElem?_cons_zero, List.getElem?_cons_succ]; exact rfl
 case q13 => exact fun _ _ _ h => h
 case y13 => exact Or.inr ⟨by rfl, rfl⟩
 simp only [Act.put, List.setIfInBounds_toArray, List.set_cons_zero, List.set_cons_succ]
 refine wpAnyH_take (i := 14) (oi := ?o14) (v := undef) ?i14 (by kernel_rfl) (by kernel_rfl) (by kernel_rfl) ?q14 ?y14 (by assumption) ?r14
 case i14 => simp only [List.getElem?_toArray, List.getElem?_cons_zero, List.getElem?_cons_succ]; exact rfl
 case q14 => exact fun _ _ _ h => h
 case y14 => exact Or.inr ⟨by rfl, rfl⟩
 simp only [Act.put, List.setIfInBounds_toArray, List.set_cons_zero, List.set_cons_succ]
 refine wpAnyH_take (i := 15) (oi := ?o15) (v := undef) ?i15 (by kernel_rfl) (by kernel_rfl) (by kernel_rfl) ?q15 ?y15 (by assumption) ?r15
 case i15 => simp only [List.getElem?_toArray, List.getElem?_cons_zero, List.getElem?_cons_succ]; exact rfl
 case q15 => exact fun _ _ _ h => h
 case y15 => exact Or.inr ⟨by rfl, rfl⟩
 simp only [Act.put, List.setIfInBounds_toArray, List.set_cons_zero, List.set_cons_succ]
 refine wpAnyH_take (i := 16) (oi := ?o16) (v := undef) ?i16 (by kernel_rfl) (by kernel_rfl) (by kernel_rfl) ?q16 ?y16 (by assumption) ?r16
 case i16 => simp only [List.getElem?_toArray, List.getElem?_cons_zero, List.getElem?_cons_succ]; exact rfl
 case q16 => exact fun _ _ _ h => h
 case y16 => exact Or.inr ⟨by rfl, rfl⟩
 simp only [Act.put, List.setIfInBounds_toArray, List.set_cons_zero, List.set_cons_succ]
 refine wpAnyH_take (i := 17) (oi := ?o17) (v := undef) ?i17 (by kernel_rfl) (by kernel_rfl) (by kernel_rfl) ?q17 ?y17 (by assumption) ?r17
 case i17 => simp only [List.getElem?_toArray, List.getElem?_cons_zero, List.getElem?_cons_succ]; exact rfl
 case q17 => exact fun _ _ _ h => h
 case y17 => exact Or.inr ⟨by rfl, rfl⟩
 simp only [Act.put, List.setIfInBounds_toArray, List.set_cons_zero, List.set_cons_succ]
 refine wpAnyH_take (i := 18) (oi := ?o18) (v := undef) ?i18 (by kernel_rfl) (by kernel_rfl) (by kernel_rfl) ?q18 ?y18 (by assumption) ?r18
 case i18 => simp only [List.getElem?_toArray, List.getElem?_cons_zero, List.getElem?_cons_succ]; exact rfl
 case q18 => exact fun _ _ _ h => h
 case y18 => exact Or.inr ⟨by rfl, rfl⟩
 simp only [Act.put, List.setIfInBounds_toArray, List.set_cons_zero, List.set_cons_succ]
 refine wpAnyH_take (i := 19) (oi := ?o19) (v := undef) ?i19 (by kernel_rfl) (by kernel_rfl) (by kernel_rfl) ?q19 ?y19 (by assumption) ?r19
 case i19 => simp only [List.getElem?_toArray, List.getElem?_cons_zero, List.getElem?_cons_succ]; exact rfl
 case q19 => exact fun _ _ _ h => h
 case y19 => exact Or.inr ⟨by rfl, rfl⟩
 simp only [Act.put, List.setIfInBounds_toArray, List.set_cons_zero, List.set_cons_succ]
 refine wpAnyH_take (i := 20) (oi := ?o20) (v := ?v20) ?i20 (by kernel_rfl) (by kernel_rfl) (by kernel_rfl) ?q20 ?y20 (by assumption) ?r20
 case i20 => simp only [List.getElem?_toArray, List.getElem?_cons_zero, List.getElem?_cons_succ]; exact rfl
 case q20 => exact fun _ _ _ h => h
 case y20 => exact Or.inl ⟨by rfl, by (intro w' hSw; (try dsimp only at hSw); go_split_ands; go_simp; with_reducible rfl)⟩
 simp only [Act.put, List.setIfInBounds_toArray, List.set_cons_zero, List.set_cons_succ]
 refine wpAnyH_take (i := 21) (oi := ?o21) (v := ?v21) ?i21 (by kernel_rfl) (by kernel_rfl) (by kernel_rfl) ?q21 ?y21 (by assumption) ?r21
 case i21 => simp only [List.getElem?_toArray, List.getElem?_cons_zero, List.getElem?_cons_succ]; exact rfl
 case q21 => exact fun _ _ _ h => h
 case y21 => exact Or.inl ⟨by rfl, by (intro w' hSw; (try dsimp only at hSw); go_split_ands; go_simp; with_reducible rfl)⟩
 simp only [Act.put, List.setIfInBounds_toArray, List.set_cons_zero, List.set_cons_succ]
 refine wpAnyH_take (i := 22) (oi := ?o22) (v := ?v22) ?i22 (by kernel_rfl) (by kernel_rfl) (by kernel_rfl) ?q22 ?y22 (by assumption) ?r22
 case i22 => simp only [List.getElem?_toArray, List.getElem?_cons_zero, List.getElem?_cons_succ]; exact rfl
 case q22 => exact fun _ _ _ h => h
 case y22 => exact Or.inl ⟨by rfl, by (intro w' hSw; (try dsimp only at hSw); go_split_ands; go_simp; with_reducible rfl)⟩
 simp only [Act.put, List.setIfInBounds_toArray, List.set_cons_zero, List.set_cons_succ]
 refine wpAnyH_take (i := 23) (oi := ?o23) (v := ?v23) ?i23 (by kernel_rfl) (by kernel_rfl) (by kernel_rfl) ?q23 ?y23 (by assumption) ?r23
 case i23 => simp only [List.getElem?_toArray, List.getElem?_cons_zero, List.getElem?_cons_succ]; exact rfl
 case q23 => exact fun _ _ _ h => h
 case y23 => exact Or.inl ⟨by rfl, by (intro w' hSw; (try dsimp only at hSw); go_split_ands; go_simp; with_reducible rfl)⟩
 simp only [Act.put, List.setIfInBounds_toArray, List.set_cons_zero, List.set_cons_succ]
 refine wpAnyH_take (i := 24) (oi := ?o24) (v := ?v24) ?i24 (by kernel_rfl) (by kernel_rfl) (by kernel_rfl) ?q24 ?y24 (by assumption) ?r24
 case i24 => simp only [List.getElem?_toArray, List.getElem?_cons_zero, List.getElem?_cons_succ]; exact rfl
 case q24 => exact fun _ _ _ h => h
 case y24 => exact Or.inl ⟨by rfl, by (intro w' hSw; (try dsimp only at hSw); go_split_ands; go_simp; with_reducible rfl)⟩
 simp only [Act.put, List.setIfInBounds_toArray, List.set_cons_zero, List.set_cons_succ]
 refine wpAnyH_take (i := 25) (oi := ?o25) (v := ?v25) ?i25 (by kernel_rfl) (by kernel_rfl) (by kernel_rfl) ?q25 ?y25 (by assumption) ?r25
 case i25 => simp only [List.getElem?_toArray, List.getElem?_cons_zero, List.getElem?_cons_succ]; exact rfl
 case q25 => exact fun _ _ _ h => h
 case y25 => exact Or.inl ⟨by rfl, by (intro w' hSw; (try dsimp only at hSw); go_split_ands; go_simp; with_reducible rfl)⟩
 simp only [Act.put, List.setIfInBounds_toArray, List.set_cons_zero, List.set_cons_succ]
 refine wpAnyH_take (i := 26) (oi := ?o26) (v := ?v26) ?i26 (by kernel_rfl) (by kernel_rfl) (by kernel_rfl) ?q26 ?y26 (by assumption) ?r26
 case i26 => simp only [List.getElem?_toArray, List.getElem?_cons_zero, List.getElem?_cons_succ]; exact rfl
 case q26 => exact fun _ _ _ h => h
 case y26 => exact Or.inl ⟨by rfl, by (intro w' hSw; (try dsimp only at hSw); go_split_ands; go_simp; with_reducible rfl)⟩
 simp only [Act.put, List.setIfInBounds_toArray, List.set_cons_zero, List.set_cons_succ]
 refine wpAnyH_take (i := 27) (oi := ?o27) (v := ?v27) ?i27 (by kernel_rfl) (by kernel_rfl) (by kernel_rfl) ?q27 ?y27 (by assumption) ?r27
 case i27 => simp only [List.getElem?_toArray, List.getElem?_cons_zero, List.getElem?_cons_succ]; exact rfl
 case q27 => exact fun _ _ _ h => h
 case y27 => exact Or.inl ⟨by rfl, by (intro w' hSw; (try dsimp only at hSw); go_split_ands; go_simp; with_reducible rfl)⟩
 simp only [Act.put, List.setIfInBounds_toArray, List.set_cons_zero, List.set_cons_succ]
 refine wpAnyH_take (i := 28) (oi := ?o28) (v := ?v28) ?i28 (by kernel_rfl) (by kernel_rfl) (by kernel_rfl) ?q28 ?y28 (by assumption) ?r28
 case i28 => simp only [List.getElem?_toArray, List.getElem?_cons_zero, List.getElem?_cons_succ]; exact rfl
 case q28 => exact fun _ _ _ h => h
 case y28 => exact Or.inl ⟨by rfl, by (intro w' hSw; (try dsimp only at hSw); go_split_ands; go_simp; with_reducible rfl)⟩
 simp only [Act.put, List.setIfInBounds_toArray, List.set_cons_zero, List.set_cons_succ]
 refine wpAnyH_take (i := 29) (oi := ?o29) (v := ?v29) ?i29 (by kernel_rfl) (by kernel_rfl) (by kernel_rfl) ?q29 ?y29 (by assumption) ?r29
 case i29 => simp only [List.getElem?_toArray, List.getElem?_cons_zero, List.getElem?_cons_succ]; exact rfl
 case q29 => exact fun _ _ _ h => h
 case y29 => exact Or.inl ⟨by rfl, by (intro w' hSw; (try dsimp only at hSw); go_split_ands; go_simp; with_reducible rfl)⟩
 simp only [Act.put, List.setIfInBounds_toArray, List.set_cons_zero, List.set_cons_succ]
 refine wpAnyH_take (i := 30) (oi := ?o30) (v := ?v30) ?i30 (by kernel_rfl) (by kernel_rfl) (by kernel_rfl) ?q30 ?y30 (by assumption) ?r30
 case i30 => simp only [List.getElem?_toArray, List.getElem?_cons_zero, List.getElem?_cons_succ]; exact rfl
 case q30 => exact fun _ _ _ h => h
 case y30 => exact Or.inl ⟨by rfl, by (intro w' hSw; (try dsimp only at hSw); go_split_ands; go_simp; with_reducible rfl)⟩
 simp only [Act.put, List.setIfInBounds_toArray, List.set_cons_zero, List.set_cons_succ]
 refine wpAnyH_take (i := 31) (oi := ?o31) (v := ?v31) ?i31 (by kernel_rfl) (by kernel_rfl) (by kernel_rfl) ?q31 ?y31 (by assumption) ?r31
 case i31 => simp only [List.getElem?_toArray, List.getElem?_cons_zero, List.getElem?_cons_succ]; exact rfl
 case q31 => exact fun _ _ _ h => h
 case y31 => exact Or.inl ⟨by rfl, by (intro w' hSw; (try dsimp only at hSw); go_split_ands; go_simp; with_reducible rfl)⟩
 simp only [Act.put, List.setIfInBounds_toArray, List.set_cons_zero, List.set_cons_succ]
 refine wpAnyH_take (i := 32) (oi := ?o32) (v := ?v32) ?i32 (by kernel_rfl) (by kernel_rfl) (by kernel_rfl) ?q32 ?y32 (by assumption) ?r32
 case i32 => simp only [List.getElem?_toArray, List.getElem?_cons_zero, List.getElem?_cons_succ]; exact rfl
 case q32 => exact fun _ _ _ h => h
 case y32 => exact Or.inl ⟨by rfl, by (intro w' hSw; (try dsimp only at hSw); go_split_ands; go_simp; with_reducible rfl)⟩
 simp only [Act.put, List.setIfInBounds_toArray, List.set_cons_zero, List.set_cons_succ]
 refine wpAnyH_take (i := 33) (oi := ?o33) (v := ?v33) ?i33 (by kernel_rfl) (by kernel_rfl) (by kernel_rfl) ?q33 ?y33 (by assumption) ?r33
 case i33 => simp only [List.getElem?_toArray, List.getElem?_cons_zero, List.getElem?_cons_succ]; exact rfl
 case q33 => exact fun _ _ _ h => h
 case y33 => exact Or.inl ⟨by rfl, by (intro w' hSw; (try dsimp only at hSw); go_split_ands; go_simp; with_reducible rfl)⟩
 simp only [Act.put, List.setIfInBounds_toArray, List.set_cons_zero, List.set_cons_succ]
 refine wpAnyH_take (i := 34) (oi := ?o34) (v := ?v34) ?i34 (by kernel_rfl) (by kernel_rfl) (by kernel_rfl) ?q34 ?y34 (by assumption) ?r34
 case i34 => simp only [List.getElem?_toArray, List.getElem?_cons_zero, List.getElem?_cons_succ]; exact rfl
 case q34 => exact fun _ _ _ h => h
 case y34 => exact Or.inl ⟨by rfl, by (intro w' hSw; (try dsimp only at hSw); go_split_ands; go_simp; with_reducible rfl)⟩
 simp only [Act.put, List.setIfInBounds_toArray, List.set_cons_zero, List.set_cons_succ]
 refine wpAnyH_take (i := 35) (oi := ?o35) (v := ?v35) ?i35 (by kernel_rfl) (by kernel_rfl) (by kernel_rfl) ?q35 ?y35 (by assumption) ?r35
 case i35 => simp only [List.getElem?_toArray, List.getElem?_cons_zero, List.getElem?_cons_succ]; exact rfl
 case q35 => exact fun _ _ _ h => h
 case y35 => exact Or.inl ⟨by rfl, by (intro w' hSw; (try dsimp only at hSw); go_split_ands; go_simp; with_reducible rfl)⟩
 simp only [Act.put, List.setIfInBounds_toArray, List.set_cons_zero, List.set_cons_succ]
 refine wpAnyH_take (i := 36) (oi := ?o36) (v := ?v36) ?i36 (by kernel_rfl) (by kernel_rfl) (by kernel_rfl) ?q36 ?y36 (by assumption) ?r36
 case i36 => simp only [List.getElem?_toArray, List.getElem?_cons_zero, List.getElem?_cons_succ]; exact rfl
 case q36 => exact fun _ _ _ h => h
 case y36 => exact Or.inl ⟨by rfl, by (intro w' hSw; (try dsimp only at hSw); go_split_ands; go_simp; with_reducible rfl)⟩
 simp only [Act.put, List.setIfInBounds_toArray, List.set_cons_zero, List.set_cons_succ]
 refine wpAnyH_ready (rs := [37]) (by kernel_rfl) (by simp) ?_
 refine AllReadyH.cons (o := ?o37) ?i37 (fun K hK => ?_) AllReadyH.nil
 case i37 => simp only [List.getElem?_toArray, List.getElem?_cons_zero, List.getElem?_cons_succ]; exact rfl
 go_simp
 have Xd : Ext w w.drew := (Ext.refl w).drew
 go_at_call 24
 refine (Hcall.out _ Xd).mono ?_
 rintro e w6 ⟨rfl, E6⟩
 have X6 : Ext w w6 := Xd.trans E6
 go_simp
 refine hK.out _ _ (Ext.keep X6) (fun hHeld2 => ?_)
 clear hK K hHeld
 (try simp only [Act.put, List.setIfInBounds_toArray, List.set_cons_zero, List.set_cons_succ])
 refine wpAnyH_take (i := 38) (oi := ?o38) (v := ?v38) ?i38 (by kernel_rfl) (by kernel_rfl) (by kernel_rfl) ?q38 ?y38 (by assumption) ?r38
 case i38 => simp only [List.getElem?_toArray, List.getElem?_cons_zero, List.getElem?_cons_succ]; exact rfl
 case q38 => exact fun _ _ _ h => h
 case y38 => exact Or.inl ⟨by rfl, by (intro w' hSw; (try dsimp only at hSw); go_split_ands; go_simp; with_reducible rfl)⟩
 simp only [Act.put, List.setIfInBounds_toArray, List.set_cons_zero, List.set_cons_succ]
 refine wpAnyH_take (i := 39) (oi := ?o39) (v := ?v39) ?i39 (by kernel_rfl) (by kernel_rfl) (by kernel_rfl) ?q39 ?y39 (by assumption) ?r39
 case i39 => simp only [List.getElem?_toArray, List.getElem?_cons_zero, List.getElem?_cons_succ]; exact rfl
 case q39 => exact fun _ _ _ h => h
 case y39 => exact Or.inl ⟨by rfl, by (intro w' hSw; (try dsimp only at hSw); go_split_ands; go_simp; with_reducible rfl)⟩
 simp only [Act.put, List.setIfInBounds_toArray, List.set_cons_zero, List.set_cons_succ]
 refine wpAnyH_done (by kernel_rfl) ?_ _
 exact HK.out _ _ _ _ _ _ _ _ _ _ _ _ _ _ _ _ _ _ _ _ _ _ _ _ _ _ _ _ _ _ _ _ _ _ _ _ _ _ _ _ X6


set_option maxRecDepth 100000 in
set_option maxHeartbeats 4000000 in
theorem rreg7b {Q0 : Exit → Act → World → Prop} {u2 u3 u4 u6 u9 u10 u11 u12 u13 u14 u15 u16 u17 u18 u19 u20 u21 u22 u23 u24 u25 u26 u27 u28 u29 u30 u31 u32 u33 u34 u35 u36 u37 u38 u39 u40 u41 u42 u43 u44 u45 u46 u47 u48 u49 u50 u51 u52 u53 u54 u55 u56 u57 u58 u59 u60 u61 u62 u63 u64 u65 u66 u67 u68 u69 u70 u71 u72 u73 u74 u75 u76 u77 u78 u79 u80 u81 u82 u83 u84 u85 u86 u87 u88 u89 u90 u91 u92 u93 u94 u95 u96 u97 u98 u99 u100 u101 u102 u103 u104 u105 u106 u107 u108 u109 u110 u111 u112 u113 u114 u115 u116 u117 : Value} {w : World} {b1 off1 n c m bx i Mn Mc b8 off8 b5 off5 xl xc k j : Nat} {pn : Int} {q : Bool} {f : FieldD} {v : ValR}
  (hm : m < n) (hi : i < Mn) (hMn : Mn ≤ 1000000) (hk : k < xl) (hj : k = j + 1) (hxl : xl ≤ 1000000000000)
  (x0 : w.cell? ⟨bx, 0, none⟩ = some (.slice (some ⟨b5, off5, none⟩) xl xc)) (s1 : w.cell? ⟨b1, off1 + m * 2 + 1, none⟩ = some (.slice (some ⟨b8, off8, none⟩) Mn Mc))
  (g0 : w.cell? ⟨b8, off8 + i * 6, none⟩ = some (.string f.name)) (g1 : w.cell? ⟨b8, off8 + i * 6 + 1, none⟩ = some (.int .i64 f.number)) (g2 : w.cell? ⟨b8, off8 + i * 6 + 2, none⟩ = some (.int .i64 f.kind)) (g3 : w.cell? ⟨b8, off8 + i * 6 + 3, none⟩ = some (.bool f.rep)) (g4 : w.cell? ⟨b8, off8 + i * 6 + 4, none⟩ = some (.bool f.packed)) (g5 : w.cell? ⟨b8, off8 + i * 6 + 5, none⟩ = some (.int .i64 f.of_))
  (e0 : w.cell? ⟨b5, off5 + k * 4, none⟩ = some (.int .i64 v.number)) (e1 : w.cell? ⟨b5, off5 + k * 4 + 1, none⟩ = some (.slice v.a.1 v.words.length v.a.2)) (e2 : w.cell? ⟨b5, off5 + k * 4 + 2, none⟩ = some (.slice v.b.1 v.texts.length v.b.2)) (e3 : w.cell? ⟨b5, off5 + k * 4 + 3, none⟩ = some (.slice v.c.1 v.subs.length v.c.2)) (p0 : w.cell? ⟨b5, off5 + j * 4, none⟩ = some (.int .i64 pn)) (hle : decide (v.number ≤ pn) = false) 
  (h1 : b1 < w.heap.size) (h8 : b8 < w.heap.size) (h5 : b5 < w.heap.size) (hx : bx < w.heap.size)
  (Hcall : Hid (∀ W, Ext w W → Calls Tryz.prog 24 #[.slice (some ⟨b1, off1, none⟩) n c, .agg #[.string f.name, .int .i64 f.number, .int .i64 f.kind, .bool f.rep, .bool f.packed, .int .i64 f.of_], .agg #[.int .i64 v.number, .slice v.a.1 v.words.length v.a.2, .slice v.b.1 v.texts.length v.b.2, .slice v.c.1 v.subs.length v.c.2]] W fun e W' => e = .returned (.bool q) ∧ Ext W W'))
  (hK : ∀ (v38 v39 v40 v41 v42 v43 v44 v45 v46 v47 v48 v49 v50 v51 v52 v53 v54 v55 v56 v57 v58 v59 v60 v61 v62 v63 v64 v65 v66 v67 v68 v69 v70 v71 v72 v73 v74 v75 v76 : Value) (wz : World), Ext w wz → Q0 .normal ⟨#[.slice (some ⟨b1, off1, none⟩) n c, .int .i64 (m : Int), u2, u3, u4, .pointer (some ⟨bx, 0, none⟩), u6, .int .i64 (k : Int), .int .i64 (i : Int), u9, u10, u11, u12, u13, u14, u15, u16, u17, u18, u19, u20, u21, u22, u23, u24, u25, u26, u27, u28, u29, u30, u31, u32, u33, u34, u35, u36, u37, v38, v39, v40, v41, v42, v43, v44, v45, v46, v47, v48, v49, v50, v51, v52, v53, v54, v55, v56, v57, v58, v59, v60, v61, v62, v63, v64, v65, v66, v67, v68, v69, v70, v71, v72, v73, v74, v75, v76, .bool (!q), u78, u79, u80, u81, u82, u83, u84, u85, u86, u87, u88, u89, u90, u91, u92, u93, u94, u95, u96, u97, u98, u99, u100, u101, u102, u103, u104, u105, u106, u107, u108, u109, u110, u111, u112, u113, u114, u115, u116, u117], []⟩ wz) :
  Code.wp Tryz.prog (regR 7) (calmQ Q0) ⟨#[.slice (some ⟨b1, off1, none⟩) n c, .int .i64 (m : Int), u2, u3, u4, .pointer (some ⟨bx, 0, none⟩), u6, .int .i64 (k : Int), .int .i64 (i : Int), u9, u10, u11, u12, u13, u14, u15, u16, u17, u18, u19, u20, u21, u22, u23, u24, u25, u26, u27, u28, u29, u30, u31, u32, u33, u34, u35, u36, u37, u38, u39, u40, u41, u42, u43, u44, u45, u46, u47, u48, u49, u50, u51, u52, u53, u54, u55, u56, u57, u58, u59, u60, u61, u62, u63, u64, u65, u66, u67, u68, u69, u70, u71, u72, u73, u74, u75, u76, u77, u78, u79, u80, u81, u82, u83, u84, u85, u86, u87, u88, u89, u90, u91, u92, u93, u94, u95, u96, u97, u98, u99, u100, u101, u102, u103, u104, u105, u106, u107, u108, u109, u110, u111, u112, u113, u114, u115, u116, u117], []⟩ w := by
 have mI : (m : Int) < n := by omega
 have iI : (i : Int) < Mn := by omega
 have iN : decide ((i : Int) < 0) = false := by rw [decide_eq_false_iff_not]; omega
 have kI : (k : Int) < xl := by omega
 have jI : (j : Int) < xl := by omega
 have kP : decide ((0 : Int) < (k : Int)) = true := by rw [decide_eq_true_iff]; omega
 have kP2 : decide (0 < k) = true := by rw [decide_eq_true_iff]; omega
 have jw : IntKind.i64.wrap ((k : Int) - 1) = (j : Int) := by rw [IntWalk.i64_in _ (by omega)]; omega
 clear hj
 have jw2 : IntKind.i64.wrap (j : Int) = (j : Int) := IntWalk.i64_in _ (by omega)
 have HK := Lib.hid hK
 clear hK
 conv => arg 2; whnf
 have Xw : Ext w w := Ext.refl w
 go_region_held3 (fun W => Ext w W ∧ ∀ b o, b < w.heap.size → W.cell? ⟨b, o, none⟩ = w.cell? ⟨b, o, none⟩) ((refine Ext.keep ?_; repeat with_reducible (first | assumption | exact Ext.refl _ | refine Ext.alloc ?_ _ | refine Ext.drew ?_ | refine Ext.drewN ?_ _ | refine Ext.setCell ?_ (by first | omega | (simp <;> omega)) _))) (first
  | (go_split_ands; go_at_call 24; refine (Hcall.out _ (by with_reducible assumption)).mono ?_; rintro e w6 ⟨rfl, E6⟩; have X6 : Ext w w6 := Ext.trans (by with_reducible assumption) E6))
 go_simp
 exact HK.out _ _ _ _ _ _ _ _ _ _ _ _ _ _ _ _ _ _ _ _ _ _ _ _ _ _ _ _ _ _ _ _ _ _ _ _ _ _ _ _ X6


end Go.Proofs.YtnnphodgegcddaaGreat

/- Contracts of layer 14: is a meaning right, as the reference has it? (Printed by gen_rright.py.) -/



namespace Go.Proofs.YtnnphodgegcddaaGreat
open Go.RowKit Go.Shelf
set_option linter.unusedVariables false

theorem next_strange {fs : List FieldD} {t : ByteArray} {r : Rec} {C : Nat} (h : nextI t.data.toList 0 = (r, C)) : StrangeP fs t ↔ C = 0 ∧ (r.t : Int) = t.data.toList.length ∧ idxB (numP (r.n : Int)) fs = -1 := by
 unfold nextI at h
 by_cases h0 : (0 : Int) < 0 ∨ (t.data.toList.length : Int) ≤ 0
 · rw [if_pos h0] at h
   injection h with e1 e2
   have hl : t.data.toList = [] := List.eq_nil_of_length_eq_zero (by omega)
   constructor
   · rintro ⟨T, V, a, q, _⟩
     have := headV_bd q
     rw [hl] at this
     simp at this
     omega
   · rintro ⟨q, _⟩
     omega
 · rw [if_neg h0] at h
   have h' : nextV t.data.toList 0 = (r, C) := h
   by_cases hC : C = 0
   · subst hC
     have q := (nextV_ok h').1
     have qf := (nextV_ok h').2.1
     rw [List.drop_zero] at q
     constructor
     · rintro ⟨T, V, a, q2, q3⟩
       rw [q] at q2
       simp only [Prod.mk.injEq, and_true] at q2
       refine ⟨rfl, by omega, ?_⟩
       rw [← q2.1] at q3
       rcases idxB_cases (numP (r.n : Int)) fs with ⟨p, _⟩ | ⟨k, f, p1, p2, _⟩
       · exact p
       · have := (find_of_idx (p := numP (r.n : Int)) (l := fs)).2 k f p1 p2
         have hf' : fs.find? (numP (r.n : Int)) = none := q3
         rw [hf'] at this
         cases this
     · rintro ⟨_, q2, q3⟩
       refine ⟨r.n, r.w, r.a, ?_, (find_of_idx (p := numP (r.n : Int)) (l := fs)).1 q3⟩
       rw [q]
       have : r.t = t.data.toList.length := by omega
       rw [this]
       simp
   · constructor
     · rintro ⟨T, V, a, q2, q3⟩
       have : nextV t.data.toList 0 = (⟨T, V, 0, a, t.data.toList.length⟩, 0) := by
        unfold nextV
        rw [List.drop_zero, q2]
        simp [shiftR]
       rw [this] at h'
       injection h' with _ e
       exact absurd e.symm hC
     · rintro ⟨q, _⟩
       exact absurd q hC

set_option maxRecDepth 100000 in
set_option maxHeartbeats 4000000 in
theorem rRightM {A : Option Addr} {n c : Nat} {S : List MsgV} {root : Int} {x : MsgR} {w : World} (hR : rightS (S.map MsgV.d) = true) (hs : SchemaAt w A n c S) (hx : TreeAt w x) (hvl : x.vals.length ≤ 1000000000000) (hul : x.unk.length ≤ 1000000000000) (hut : ∀ t ∈ x.unk, t.data.toList.length ≤ 1000000000)
  (hp : ∀ v ∈ x.vals, ∀ (f : FieldD) (W : World), Ext w W → Calls Tryz.prog 24 #[.slice A n c, fieldV f, tvalV v] W fun e W' => e = .returned (.bool (eqB (FitP (S.map MsgV.d) f (bareV v)))) ∧ Ext W W') :
  Calls Tryz.prog 70 #[.slice A n c, .int .i64 root, treeV x] w fun e w' => e = .returned (.bool (eqB (RI (S.map MsgV.d) root (bare x)))) ∧ Ext w w' := by
 have hSl := hs.length
 have hcap := hs.1.cap
 have hmax := hs.1.max
 have vcap := hx.vals.cap
 have ucap := hx.unk.at_.cap
 have vmax := hx.vals.max
 have umax := hx.unk.at_.max
 unfold maxLen at hmax vmax umax
 obtain ⟨R0, hR0⟩ : ∃ R0, R0 = eqB (RI (S.map MsgV.d) root (bare x)) := ⟨_, rfl⟩
 rw [← hR0]
 unfold treeV
 by_cases hneg : root < 0
 · have hst : R0 = false := by
    rw [hR0]
    exact eqB_no (fun h => by have := h.1; omega)
   subst hst
   clear hR0
   go_enter Tryz.func70, Tryz.ntmps70
   go_wp2
   go_ret
   exact ⟨rfl, (by repeat with_reducible (first | exact Ext.refl _ | refine Ext.alloc ?_ _ | refine Ext.drew ?_ | refine Ext.drewN ?_ _ | refine Ext.setCell ?_ (by first | omega | (simp <;> omega)) _))⟩
 · obtain ⟨m, rfl⟩ := Int.eq_ofNat_of_zero_le (show 0 ≤ root by omega)
   by_cases hml : m < n
   · obtain ⟨b1, off1, M, hSA, hM, hf, hnm, hb1, s0, s1⟩ := hs.msg (k := m) hml
     subst hSA
     have hMd : (S.map MsgV.d)[m]? = some M.d := by rw [List.getElem?_map, hM]; rfl
     have hMn : M.n ≤ 1000000 := by have := (right_msg hR hMd).2.2.1; have := hf.length; omega
     have hiff := ri_iff hR hMd (x := bare x) (by
      rw [bare_eq]
      intro v hv
      obtain ⟨u, hu, rfl⟩ := List.mem_map.1 (show v ∈ x.vals.map bareV from hv)
      exact (hx.each u hu).small)
     have hbv : (bare x).vals = x.vals.map bareV := by rw [bare_eq]; rfl
     have hbu : (bare x).unk = x.unk := by rw [bare_eq]; rfl
     rw [hbv, hbu] at hiff
     have hiff2 := hR0.trans (eqB_congr hiff)
     have HI := Lib.hid hiff2
     have hpos : ∀ (i : Nat) (f : FieldD), M.d.fields[i]? = some f → 1 ≤ f.number := fun i f hfi => (usableB_pos (faultV_inv ((right_msg hR hMd).2.2.2 i f hfi)).2.2.1).1
     have hfie := fun (W : World) (y I : Int) (h : Ext w W) (hi : idxB (numP y) M.d.fields = I) => rFieldE (s := M.d.name) (x := y) (hf.up h) (show M.n ≤ 1000000000000 by omega) hi
     have Hfie := Lib.hid hfie
     have HPos := Lib.hid hpos
     have Hp := Lib.hid hp
     have Hf := Lib.hid hf
     have Hx := Lib.hid hx
     have Hut := Lib.hid hut
     have mI : (m : Int) < n := by omega
     have mN : ¬ n ≤ m := by omega
     clear hiff hiff2 hR0 hfie hpos hp hf hx hut hbv hbu hMd hM hR hs hneg hnm
     go_enter Tryz.func70, Tryz.ntmps70
     go_wp2
     have BX := BlkT.new w 40 #[.slice x.a.1 x.vals.length x.a.2, .slice x.b.1 x.unk.length x.b.2] rfl
     have X0 : Ext w (w.alloc (.cells #[.slice x.a.1 x.vals.length x.a.2, .slice x.b.1 x.unk.length x.b.2] 40)) := (Ext.refl w).alloc _
     generalize w.alloc (.cells #[.slice x.a.1 x.vals.length x.a.2, .slice x.b.1 x.unk.length x.b.2] 40) = wx at *
     have x0 : wx.cell? ⟨w.heap.size, 0, none⟩ = some (.slice x.a.1 x.vals.length x.a.2) := BX.cell 0
     have x1 : wx.cell? ⟨w.heap.size, 1, none⟩ = some (.slice x.b.1 x.unk.length x.b.2) := BX.cell 1
     have lx := BX.lt
     have s0x := X0.of_cell s0
     have s1x := X0.of_cell s1
     have hb1x := Nat.lt_of_lt_of_le hb1 X0.size
     clear BX s0 s1 hb1
     go_loopw [6, 7, 8] (fun _ i _ wr => ∃ (k : Nat) (last : Int), k ≤ x.vals.length ∧ i = .int .i64 (k : Int) ∧ Ext wx wr ∧ Hid (valsP (OkP (S.map MsgV.d) M.d) 0 (x.vals.map bareV) ↔ valsP (OkP (S.map MsgV.d) M.d) last ((x.vals.map bareV).drop k)) ∧ (k = 0 → last = 0) ∧ (∀ (j : Nat) (p : ValR), k = j + 1 → x.vals[j]? = some p → last = p.number)) (fun _ i _ _ => x.vals.length - (intOf i).toNat)
     case atStart => exact ⟨0, 0, Nat.zero_le _, rfl, Ext.refl _, Iff.rfl, fun _ => rfl, fun j p h => by omega⟩
     case round =>
      rename World => wr
      obtain ⟨k, last, hk, rfl, hE, hV, hl0, hl1⟩ := hrel
      have HL1 := Lib.hid hl1
      clear hl1
      by_cases hlt : k < x.vals.length
      · have hltI : (k : Int) < x.vals.length := by omega
        obtain ⟨b5, off5, v, hA, hvk, hb5, e0, e1, e2, e3⟩ := valCells (Hx.out.vals.ext (X0.trans hE)) hlt
        have hvm := List.mem_of_getElem? hvk
        have hvb : (x.vals.map bareV)[k]? = some (bareV v) := by rw [List.getElem?_map, hvk]; rfl
        have hstep := valsP_drop (ok := OkP (S.map MsgV.d) M.d) (last := last) hvb
        have hnv : (bareV v).number = v.number := rfl
        rw [hnv] at hstep
        have hval := Hp.out v hvm
        unfold tvalV at hval
        have Hval := Lib.hid hval
        have Hst := Lib.hid hstep
        have Hvk : Hid (x.vals[k]? = some v) := hvk
        have x0r := hE.of_cell x0
        have s0r := hE.of_cell s0x
        have s1r := hE.of_cell s1x
        have hb1r := Nat.lt_of_lt_of_le hb1x hE.size
        have lxr := Nat.lt_of_lt_of_le lx hE.size
        rw [hA] at x0r
        have HA := Lib.hid hA
        clear hvb hstep hnv hval hvk hA
        go_wp2
        have Xr : Ext wr wr := Ext.refl wr
        rcases idxB_cases (numP v.number) M.d.fields with ⟨hi, hno⟩ | ⟨i, f, hi, hfi, hfn, _⟩
        · have hfie2 := fun (W : World) (h : Ext w W) => Hfie.out W v.number (-1) h hi
          have Hfie2 := Lib.hid hfie2
          have hst : R0 = false := by
           rw [HI.out]
           refine eqB_no ?_
           rintro ⟨h, _⟩
           rw [hV.out, Hst.out] at h
           obtain ⟨_, ⟨f, hf, _⟩, _⟩ := h
           have h1 := hno f (List.mem_of_find?_eq_some hf)
           have h2 := List.find?_some hf
           have h3 : numP v.number f = true := h2
           rw [h3] at h1
           cases h1
          have HS := Lib.hid hst
          clear hi hno hfie2 hst
          go_region_held3 (fun W => Ext wr W ∧ ∀ b o, b < wr.heap.size → W.cell? ⟨b, o, none⟩ = wr.cell? ⟨b, o, none⟩) ((refine Ext.keep ?_; repeat with_reducible (first | assumption | exact Ext.refl _ | refine Ext.alloc ?_ _ | refine Ext.drew ?_ | refine Ext.drewN ?_ _ | refine Ext.setCell ?_ (by first | omega | (simp <;> omega)) _))) (first | (go_split_ands; go_at_call 49; refine (Hfie2.out _ (X0.trans (hE.trans (by with_reducible assumption)))).mono ?_; rintro e w5 ⟨rfl, E5⟩; have q5 : Ext wr w5 := Ext.trans (by with_reducible assumption) E5))
          go_wp2
          go_quiet (fail)
          go_wp2
          go_ret
          exact ⟨ret_bool HS.out.symm, X0.trans (hE.trans (Ext.trans q5 (by repeat with_reducible (first | exact Ext.refl _ | refine Ext.alloc ?_ _ | refine Ext.drew ?_ | refine Ext.drewN ?_ _ | refine Ext.setCell ?_ (by first | omega | (simp <;> omega)) _))))⟩
        · have hfind : M.d.fields.find? (fun g => g.number == v.number) = some f := (find_of_idx (p := numP v.number) (l := M.d.fields)).2 i f hi hfi
          have Hfind := Lib.hid hfind
          have hin : i < M.n := by have := (List.getElem?_eq_some_iff.1 hfi).1; have := Hf.out.length; omega
          have iI : (i : Int) < M.n := by omega
          have iN : decide ((i : Int) < 0) = false := by rw [decide_eq_false_iff_not]; omega
          obtain ⟨b8, off8, f', hA8, hff, hok8, hb8, g0, g1, g2, g3, g4, g5⟩ := (Hf.out.up (X0.trans hE)).field hin
          rw [hfi] at hff
          cases hff
          have hnum : f.number = v.number := by unfold numP at hfn; simpa using hfn
          have hpos := HPos.out i f hfi
          rw [hnum] at hpos
          have Hpos := Lib.hid hpos
          have hfie2 := fun (W : World) (h : Ext w W) => Hfie.out W v.number (i : Int) h hi
          rw [hA8] at hfie2 s1r
          have Hfie2 := Lib.hid hfie2
          have hfit := fun (W : World) (h : Ext w W) => Hval.out f W h
          unfold fieldV at hfit
          have Hfit := Lib.hid hfit
          clear hi hfi hfn hfind hA8 hfie2 hfit hnum hpos
          by_cases hk0 : k = 0
          · have Hlast : Hid (last = 0 ∨ last < v.number) := .inl (hl0 hk0)
            have kN : decide ((0 : Int) < (k : Int)) = false := by rw [decide_eq_false_iff_not]; omega
            have kN2 : decide (0 < k) = false := by rw [decide_eq_false_iff_not]; omega
            have Hk0 := Lib.hid hk0
            clear hl0 hk0
            go_region_held3 (fun W => Ext wr W ∧ ∀ b o, b < wr.heap.size → W.cell? ⟨b, o, none⟩ = wr.cell? ⟨b, o, none⟩) ((refine Ext.keep ?_; repeat with_reducible (first | assumption | exact Ext.refl _ | refine Ext.alloc ?_ _ | refine Ext.drew ?_ | refine Ext.drewN ?_ _ | refine Ext.setCell ?_ (by first | omega | (simp <;> omega)) _))) (first | (go_split_ands; go_at_call 49; refine (Hfie2.out _ (X0.trans (hE.trans (by with_reducible assumption)))).mono ?_; rintro e w5 ⟨rfl, E5⟩; have q5 : Ext wr w5 := Ext.trans (by with_reducible assumption) E5))
            rename Ext wr w5 ∧ _ => hS5
            clear hS5
            have X5 : Ext w w5 := X0.trans (hE.trans q5)
            have x05 := q5.of_cell x0r
            have s05 := q5.of_cell s0r
            have s15 := q5.of_cell s1r
            have z05 := q5.of_cell e0
            have z15 := q5.of_cell e1
            have z25 := q5.of_cell e2
            have z35 := q5.of_cell e3
            have g05 := q5.of_cell g0
            have g15 := q5.of_cell g1
            have g25 := q5.of_cell g2
            have g35 := q5.of_cell g3
            have g45 := q5.of_cell g4
            have g55 := q5.of_cell g5
            have m0 := Nat.lt_of_lt_of_le hb1r q5.size
            have m1 := Nat.lt_of_lt_of_le lxr q5.size
            have m2 := Nat.lt_of_lt_of_le hb5 q5.size
            have m3 := Nat.lt_of_lt_of_le hb8 q5.size
            clear x0r s0r s1r e0 e1 e2 e3 g0 g1 g2 g3 g4 g5
            have Q5 : Ext w5 w5 := Ext.refl w5
            go_wp2
            rcases hq : eqB (FitP (S.map MsgV.d) f (bareV v)) with _ | _
            · have hcall := Hfit.out
              rw [hq] at hcall
              have Hcall := Lib.hid hcall
              have hst : R0 = false := by
               rw [HI.out]
               refine eqB_no ?_
               rintro ⟨h, _⟩
               rw [hV.out, Hst.out] at h
               obtain ⟨_, ⟨g, hg, hF⟩, _⟩ := h
               have hg' := Hfind.out.symm.trans hg
               cases hg'
               rw [eqB_yes hF] at hq
               cases hq
              have HS := Lib.hid hst
              clear hcall hq hst
              refine calm (fun _ _ _ hd h => ⟨hd, h.2⟩) (rreg7a (q := false) (f := f) (v := v) (by omega) hin hMn hlt Hk0.out hvl x05 s15 g05 g15 g25 g35 g45 g55 z05 z15 z25 z35 m0 m3 m2 m1 (Lib.hid (fun W h => Hcall.out W (X5.trans h))) ?_)
              intro v38 v39 v40 v41 v42 v43 v44 v45 v46 v47 v48 v49 v50 v51 v52 v53 v54 v55 v56 v57 v58 v59 v60 v61 v62 v63 v64 v65 v66 v67 v68 v69 v70 v71 v72 v73 v74 v75 v76 w6 q6
              go_wp2
              go_ret
              exact ⟨ret_bool HS.out.symm, X5.trans (Ext.trans q6 (by repeat with_reducible (first | exact Ext.refl _ | refine Ext.alloc ?_ _ | refine Ext.drew ?_ | refine Ext.drewN ?_ _ | refine Ext.setCell ?_ (by first | omega | (simp <;> omega)) _)))⟩
            · have hcall := Hfit.out
              rw [hq] at hcall
              have Hcall := Lib.hid hcall
              have hF : FitP (S.map MsgV.d) f (bareV v) := by
               by_cases c : FitP (S.map MsgV.d) f (bareV v)
               · exact c
               · rw [eqB_no c] at hq
                 cases hq
              have hnext : valsP (OkP (S.map MsgV.d) M.d) 0 (x.vals.map bareV) ↔ valsP (OkP (S.map MsgV.d) M.d) v.number ((x.vals.map bareV).drop (k + 1)) := by
               rw [hV.out, Hst.out]
               exact ⟨fun h => h.2.2, fun h => ⟨by have := Hlast.out; have := Hpos.out; omega, ⟨f, Hfind.out, hF⟩, h⟩⟩
              have HN := Lib.hid hnext
              clear hcall hq hnext hF
              refine calm (fun _ _ _ hd h => ⟨hd, h.2⟩) (rreg7a (q := true) (f := f) (v := v) (by omega) hin hMn hlt Hk0.out hvl x05 s15 g05 g15 g25 g35 g45 g55 z05 z15 z25 z35 m0 m3 m2 m1 (Lib.hid (fun W h => Hcall.out W (X5.trans h))) ?_)
              intro v38 v39 v40 v41 v42 v43 v44 v45 v46 v47 v48 v49 v50 v51 v52 v53 v54 v55 v56 v57 v58 v59 v60 v61 v62 v63 v64 v65 v66 v67 v68 v69 v70 v71 v72 v73 v74 v75 v76 w6 q6
              go_wp2
              go_roundw
              case rel => exact ⟨k + 1, v.number, by omega, by go_num, hE.trans (q5.trans (Ext.trans q6 (by repeat with_reducible (first | exact Ext.refl _ | refine Ext.alloc ?_ _ | refine Ext.drew ?_ | refine Ext.drewN ?_ _ | refine Ext.setCell ?_ (by first | omega | (simp <;> omega)) _)))), HN.out, fun h => absurd h (Nat.succ_ne_zero _), fun j p hj hp => by obtain rfl : j = k := (by omega); have := Hvk.out.symm.trans hp; cases this; rfl⟩
              case measure => simp [intOf]; omega
          · obtain ⟨j, hj⟩ : ∃ j, k = j + 1 := ⟨k - 1, by omega⟩
            have hjl : j < x.vals.length := by omega
            obtain ⟨b6, off6, p, hA6, hpk, hb6, p0, p1, p2, p3⟩ := valCells (Hx.out.vals.ext (X0.trans hE)) hjl
            rw [HA.out] at hA6
            cases hA6
            have hlp := HL1.out j p hj hpk
            have kP : decide ((0 : Int) < (k : Int)) = true := by rw [decide_eq_true_iff]; omega
            have kP2 : decide (0 < k) = true := by rw [decide_eq_true_iff]; omega
            have jI : (j : Int) < x.vals.length := by omega
            have jw : IntKind.i64.wrap ((k : Int) - 1) = (j : Int) := by rw [IntWalk.i64_in _ (by omega)]; omega
            have jw2 : IntKind.i64.wrap (j : Int) = (j : Int) := IntWalk.i64_in _ (by omega)
            by_cases hle : v.number ≤ last
            · have hst : R0 = false := by
               rw [HI.out]
               refine eqB_no ?_
               rintro ⟨h, _⟩
               rw [hV.out, Hst.out] at h
               omega
              have HS := Lib.hid hst
              rw [hlp] at hle
              have hled : decide (v.number ≤ p.number) = true := decide_eq_true hle
              clear hst hj hk0 hl0 hpk hlp p1 p2 p3 hle
              go_region_held3 (fun W => Ext wr W ∧ ∀ b o, b < wr.heap.size → W.cell? ⟨b, o, none⟩ = wr.cell? ⟨b, o, none⟩) ((refine Ext.keep ?_; repeat with_reducible (first | assumption | exact Ext.refl _ | refine Ext.alloc ?_ _ | refine Ext.drew ?_ | refine Ext.drewN ?_ _ | refine Ext.setCell ?_ (by first | omega | (simp <;> omega)) _))) (first | (go_split_ands; go_at_call 49; refine (Hfie2.out _ (X0.trans (hE.trans (by with_reducible assumption)))).mono ?_; rintro e w5 ⟨rfl, E5⟩; have q5 : Ext wr w5 := Ext.trans (by with_reducible assumption) E5))
              rename Ext wr w5 ∧ _ => hS5
              clear hS5
              have X5 : Ext w w5 := X0.trans (hE.trans q5)
              have x05 := q5.of_cell x0r
              have z05 := q5.of_cell e0
              have p05 := q5.of_cell p0
              go_wp2
              go_quiet (fail)
              go_wp2
              go_ret
              exact ⟨ret_bool HS.out.symm, X5.trans (by repeat with_reducible (first | exact Ext.refl _ | refine Ext.alloc ?_ _ | refine Ext.drew ?_ | refine Ext.drewN ?_ _ | refine Ext.setCell ?_ (by first | omega | (simp <;> omega)) _))⟩
            · have Hlast : Hid (last = 0 ∨ last < v.number) := .inr (by omega)
              rw [hlp] at hle
              have hled : decide (v.number ≤ p.number) = false := decide_eq_false hle
              have Hj := Lib.hid hj
              clear hj hk0 hl0 hpk hlp p1 p2 p3 hle
              go_region_held3 (fun W => Ext wr W ∧ ∀ b o, b < wr.heap.size → W.cell? ⟨b, o, none⟩ = wr.cell? ⟨b, o, none⟩) ((refine Ext.keep ?_; repeat with_reducible (first | assumption | exact Ext.refl _ | refine Ext.alloc ?_ _ | refine Ext.drew ?_ | refine Ext.drewN ?_ _ | refine Ext.setCell ?_ (by first | omega | (simp <;> omega)) _))) (first | (go_split_ands; go_at_call 49; refine (Hfie2.out _ (X0.trans (hE.trans (by with_reducible assumption)))).mono ?_; rintro e w5 ⟨rfl, E5⟩; have q5 : Ext wr w5 := Ext.trans (by with_reducible assumption) E5))
              have p05 := q5.of_cell p0
              clear p0
              rename Ext wr w5 ∧ _ => hS5
              clear hS5
              have X5 : Ext w w5 := X0.trans (hE.trans q5)
              have x05 := q5.of_cell x0r
              have s05 := q5.of_cell s0r
              have s15 := q5.of_cell s1r
              have z05 := q5.of_cell e0
              have z15 := q5.of_cell e1
              have z25 := q5.of_cell e2
              have z35 := q5.of_cell e3
              have g05 := q5.of_cell g0
              have g15 := q5.of_cell g1
              have g25 := q5.of_cell g2
              have g35 := q5.of_cell g3
              have g45 := q5.of_cell g4
              have g55 := q5.of_cell g5
              have m0 := Nat.lt_of_lt_of_le hb1r q5.size
              have m1 := Nat.lt_of_lt_of_le lxr q5.size
              have m2 := Nat.lt_of_lt_of_le hb5 q5.size
              have m3 := Nat.lt_of_lt_of_le hb8 q5.size
              clear x0r s0r s1r e0 e1 e2 e3 g0 g1 g2 g3 g4 g5
              have Q5 : Ext w5 w5 := Ext.refl w5
              go_wp2
              rcases hq : eqB (FitP (S.map MsgV.d) f (bareV v)) with _ | _
              · have hcall := Hfit.out
                rw [hq] at hcall
                have Hcall := Lib.hid hcall
                have hst : R0 = false := by
                 rw [HI.out]
                 refine eqB_no ?_
                 rintro ⟨h, _⟩
                 rw [hV.out, Hst.out] at h
                 obtain ⟨_, ⟨g, hg, hF⟩, _⟩ := h
                 have hg' := Hfind.out.symm.trans hg
                 cases hg'
                 rw [eqB_yes hF] at hq
                 cases hq
                have HS := Lib.hid hst
                clear hcall hq hst
                refine calm (fun _ _ _ hd h => ⟨hd, h.2⟩) (rreg7b (q := false) (f := f) (v := v) (by omega) hin hMn hlt Hj.out hvl x05 s15 g05 g15 g25 g35 g45 g55 z05 z15 z25 z35 p05 hled m0 m3 m2 m1 (Lib.hid (fun W h => Hcall.out W (X5.trans h))) ?_)
                intro v38 v39 v40 v41 v42 v43 v44 v45 v46 v47 v48 v49 v50 v51 v52 v53 v54 v55 v56 v57 v58 v59 v60 v61 v62 v63 v64 v65 v66 v67 v68 v69 v70 v71 v72 v73 v74 v75 v76 w6 q6
                go_wp2
                go_ret
                exact ⟨ret_bool HS.out.symm, X5.trans (Ext.trans q6 (by repeat with_reducible (first | exact Ext.refl _ | refine Ext.alloc ?_ _ | refine Ext.drew ?_ | refine Ext.drewN ?_ _ | refine Ext.setCell ?_ (by first | omega | (simp <;> omega)) _)))⟩
              · have hcall := Hfit.out
                rw [hq] at hcall
                have Hcall := Lib.hid hcall
                have hF : FitP (S.map MsgV.d) f (bareV v) := by
                 by_cases c : FitP (S.map MsgV.d) f (bareV v)
                 · exact c
                 · rw [eqB_no c] at hq
                   cases hq
                have hnext : valsP (OkP (S.map MsgV.d) M.d) 0 (x.vals.map bareV) ↔ valsP (OkP (S.map MsgV.d) M.d) v.number ((x.vals.map bareV).drop (k + 1)) := by
                 rw [hV.out, Hst.out]
                 exact ⟨fun h => h.2.2, fun h => ⟨by have := Hlast.out; have := Hpos.out; omega, ⟨f, Hfind.out, hF⟩, h⟩⟩
                have HN := Lib.hid hnext
                clear hcall hq hnext hF
                refine calm (fun _ _ _ hd h => ⟨hd, h.2⟩) (rreg7b (q := true) (f := f) (v := v) (by omega) hin hMn hlt Hj.out hvl x05 s15 g05 g15 g25 g35 g45 g55 z05 z15 z25 z35 p05 hled m0 m3 m2 m1 (Lib.hid (fun W h => Hcall.out W (X5.trans h))) ?_)
                intro v38 v39 v40 v41 v42 v43 v44 v45 v46 v47 v48 v49 v50 v51 v52 v53 v54 v55 v56 v57 v58 v59 v60 v61 v62 v63 v64 v65 v66 v67 v68 v69 v70 v71 v72 v73 v74 v75 v76 w6 q6
                go_wp2
                go_roundw
                case rel => exact ⟨k + 1, v.number, by omega, by go_num, hE.trans (q5.trans (Ext.trans q6 (by repeat with_reducible (first | exact Ext.refl _ | refine Ext.alloc ?_ _ | refine Ext.drew ?_ | refine Ext.drewN ?_ _ | refine Ext.setCell ?_ (by first | omega | (simp <;> omega)) _)))), HN.out, fun h => absurd h (Nat.succ_ne_zero _), fun j p hj hp => by obtain rfl : j = k := (by omega); have := Hvk.out.symm.trans hp; cases this; rfl⟩
                case measure => simp [intOf]; omega
      · have hend : (x.vals.map bareV).drop k = [] := by rw [List.drop_eq_nil_iff, List.length_map]; omega
        have hV0 : valsP (OkP (S.map MsgV.d) M.d) 0 (x.vals.map bareV) := by rw [hV.out, hend]; trivial
        have hI2 := HI.out.trans (eqB_congr ⟨fun h => h.2, fun h => ⟨hV0, h⟩⟩)
        have HI2 := Lib.hid hI2
        have hge : ¬ ((k : Int) < (x.vals.length : Int)) := by omega
        have x0r := hE.of_cell x0
        have lxr := Nat.lt_of_lt_of_le lx hE.size
        clear hend hV0 hI2 hV hl0 HL1
        go_wp2
        go_loopw [6, 9, 10, 11] (fun _ i _ _ wu => ∃ q : Nat, q ≤ x.unk.length ∧ i = .int .i64 (q : Int) ∧ Ext wx wu ∧ Hid (∀ t ∈ x.unk.take q, StrangeP M.d.fields t)) (fun _ i _ _ _ => x.unk.length - (intOf i).toNat)
        case atStart => exact ⟨0, Nat.zero_le _, rfl, hE, fun t h => by simp at h⟩
        case round =>
         rename World => wu
         obtain ⟨q, hq, rfl, hEu, hT⟩ := hrel
         have x1u := hEu.of_cell x1
         have lxu := Nat.lt_of_lt_of_le lx hEu.size
         by_cases hqt : q < x.unk.length
         · have hqI : (q : Int) < x.unk.length := by omega
           obtain ⟨b9, off9, t, hA9, ht, hb9, hmax9, t0⟩ := (Hx.out.unk.up (X0.trans hEu)).text hqt
           have htm := List.mem_of_getElem? ht
           have htl := Hut.out t htm
           have hts : t.size = t.data.toList.length := Array.length_toList.symm
           have Hts := Lib.hid hts
           rw [hA9] at x1u
           obtain ⟨A7, c7, W7, run7, X7, hb7⟩ := conv_text wu t (by unfold maxLen; omega)
           rcases hnx : nextI t.data.toList 0 with ⟨r, C⟩
           have hsg := next_strange (fs := M.d.fields) hnx
           have hnext := fun (W : World) (h : Ext W7 W) => rNextRI' (hb7.up h) (by omega) hnx
           unfold recV at hnext
           have Hnext := Lib.hid hnext
           have Hsg := Lib.hid hsg
           have Ht := Lib.hid ht
           have XW : Ext w W7 := X0.trans (hEu.trans X7)
           have x1w := X7.of_cell x1u
           have s0w := (hEu.trans X7).of_cell s0x
           have s1w := (hEu.trans X7).of_cell s1x
           have t0w := X7.of_cell t0
           have lxw := Nat.lt_of_lt_of_le lxu X7.size
           have hb9w := Nat.lt_of_lt_of_le hb9 X7.size
           have hb1w := Nat.lt_of_lt_of_le hb1x (hEu.trans X7).size
           have XwW : Ext wx W7 := hEu.trans X7
           clear hnext hsg hnx ht hts hb7 hA9
           go_wp2_with (go_at_call 129; refine (Hnext.out _ (by repeat with_reducible (first | exact Ext.refl _ | refine Ext.alloc ?_ _ | refine Ext.drew ?_ | refine Ext.drewN ?_ _ | refine Ext.setCell ?_ (by first | omega | (simp <;> omega)) _))).mono ?_; rintro e w8 ⟨rfl, E8⟩; have X8 : Ext W7 w8 := Ext.trans (by repeat with_reducible (first | exact Ext.refl _ | refine Ext.alloc ?_ _ | refine Ext.drew ?_ | refine Ext.drewN ?_ _ | refine Ext.setCell ?_ (by first | omega | (simp <;> omega)) _)) E8)
           have BR := BlkT.new w8 106 #[.int .i64 (r.n : Int), .int .i64 (r.w : Int), .int .i64 (r.f : Int), .int .i64 (r.a : Int), .int .i64 (r.t : Int)] rfl
           have XR := X8.alloc (.cells #[.int .i64 (r.n : Int), .int .i64 (r.w : Int), .int .i64 (r.f : Int), .int .i64 (r.a : Int), .int .i64 (r.t : Int)] 106)
           generalize w8.alloc (.cells #[.int .i64 (r.n : Int), .int .i64 (r.w : Int), .int .i64 (r.f : Int), .int .i64 (r.a : Int), .int .i64 (r.t : Int)] 106) = w9 at *
           generalize w8.heap.size = br at *
           have c0 : w9.cell? ⟨br, 0, none⟩ = some (.int .i64 (r.n : Int)) := BR.cell 0
           have c4 : w9.cell? ⟨br, 4, none⟩ = some (.int .i64 (r.t : Int)) := BR.cell 4
           have brl := BR.lt
           have x19 := XR.of_cell x1w
           have s09 := XR.of_cell s0w
           have s19 := XR.of_cell s1w
           have t09 := XR.of_cell t0w
           have lx9 := Nat.lt_of_lt_of_le lxw XR.size
           have hb99 := Nat.lt_of_lt_of_le hb9w XR.size
           have hb19 := Nat.lt_of_lt_of_le hb1w XR.size
           have X9 : Ext w w9 := XW.trans XR
           have bad : ¬ StrangeP M.d.fields t → R0 = false := fun h => by
            rw [HI2.out]
            exact eqB_no (fun q => h (q t (List.mem_of_getElem? Ht.out)))
           have Bad := Lib.hid bad
           clear BR E8 X8 x1w s0w s1w t0w x1u t0 bad
           by_cases hC : (C : Int) = 0
           · have hCb : ((C : Int) != 0) = false := by simp [hC]
             have hCc : ((C : Int) == 0) = true := by simp [hC]
             by_cases hrt : (r.t : Int) = (t.size : Int)
             · have rb : ((r.t : Int) != (t.size : Int)) = false := by simp [hrt]
               have rc : ((r.t : Int) == (t.size : Int)) = true := by simp [hrt]
               rcases idxB_cases (numP (r.n : Int)) M.d.fields with ⟨hi, hno⟩ | ⟨i, f, hi, hfi, hfn, _⟩
               · have hstr : StrangeP M.d.fields t := Hsg.out.2 ⟨by omega, by rw [hrt, Hts.out], hi⟩
                 have hT2 : ∀ u ∈ x.unk.take (q + 1), StrangeP M.d.fields u := by
                  rw [take_snoc _ _ _ Ht.out]
                  intro u hu
                  rcases List.mem_append.1 hu with hu | hu
                  · exact hT.out u hu
                  · rw [List.mem_singleton] at hu
                    rw [hu]
                    exact hstr
                 have HT2 := Lib.hid hT2
                 have hfie2 := fun (W : World) (h : Ext w W) => Hfie.out W (r.n : Int) (-1) h hi
                 have Hfie2 := Lib.hid hfie2
                 clear hi hno hstr hT2 hfie2 hT hC hrt
                 go_region_held3 (fun W => Ext w9 W ∧ ∀ b o, b < w9.heap.size → W.cell? ⟨b, o, none⟩ = w9.cell? ⟨b, o, none⟩) ((refine Ext.keep ?_; repeat with_reducible (first | assumption | exact Ext.refl _ | refine Ext.alloc ?_ _ | refine Ext.drew ?_ | refine Ext.drewN ?_ _ | refine Ext.setCell ?_ (by first | omega | (simp <;> omega)) _))) (first | (go_split_ands; go_at_call 49; refine (Hfie2.out _ (X9.trans (by with_reducible assumption))).mono ?_; rintro e w10 ⟨rfl, E10⟩; have q10 : Ext w9 w10 := Ext.trans (by with_reducible assumption) E10))
                 go_wp2
                 go_roundw
                 case rel => exact ⟨q + 1, by omega, by go_num, XwW.trans (XR.trans (Ext.trans q10 (by repeat with_reducible (first | exact Ext.refl _ | refine Ext.alloc ?_ _ | refine Ext.drew ?_ | refine Ext.drewN ?_ _ | refine Ext.setCell ?_ (by first | omega | (simp <;> omega)) _)))), HT2.out⟩
                 case measure => simp [intOf]; omega
               · have hst := Bad.out (fun h => by have := (Hsg.out.1 h).2.2; rw [hi] at this; omega)
                 have HS := Lib.hid hst
                 have hfie2 := fun (W : World) (h : Ext w W) => Hfie.out W (r.n : Int) (i : Int) h hi
                 have Hfie2 := Lib.hid hfie2
                 have iN : decide ((i : Int) < 0) = false := by rw [decide_eq_false_iff_not]; omega
                 clear hi hfi hfn hst hfie2 hT hC hrt
                 go_region_held3 (fun W => Ext w9 W ∧ ∀ b o, b < w9.heap.size → W.cell? ⟨b, o, none⟩ = w9.cell? ⟨b, o, none⟩) ((refine Ext.keep ?_; repeat with_reducible (first | assumption | exact Ext.refl _ | refine Ext.alloc ?_ _ | refine Ext.drew ?_ | refine Ext.drewN ?_ _ | refine Ext.setCell ?_ (by first | omega | (simp <;> omega)) _))) (first | (go_split_ands; go_at_call 49; refine (Hfie2.out _ (X9.trans (by with_reducible assumption))).mono ?_; rintro e w10 ⟨rfl, E10⟩; have q10 : Ext w9 w10 := Ext.trans (by with_reducible assumption) E10))
                 go_wp2
                 go_ret
                 exact ⟨ret_bool HS.out.symm, X9.trans (Ext.trans q10 (by repeat with_reducible (first | exact Ext.refl _ | refine Ext.alloc ?_ _ | refine Ext.drew ?_ | refine Ext.drewN ?_ _ | refine Ext.setCell ?_ (by first | omega | (simp <;> omega)) _)))⟩
             · have hst := Bad.out (fun h => hrt (by have := (Hsg.out.1 h).2.1; rw [Hts.out]; exact this))
               have HS := Lib.hid hst
               have rb : ((r.t : Int) != (t.size : Int)) = true := by simpa using hrt
               have rc : ((r.t : Int) == (t.size : Int)) = false := by simpa using hrt
               clear hst hC hrt
               go_quiet (fail)
               go_wp2
               go_ret
               exact ⟨ret_bool HS.out.symm, X9.trans (by repeat with_reducible (first | exact Ext.refl _ | refine Ext.alloc ?_ _ | refine Ext.drew ?_ | refine Ext.drewN ?_ _ | refine Ext.setCell ?_ (by first | omega | (simp <;> omega)) _))⟩
           · have hst := Bad.out (fun h => hC (by have := (Hsg.out.1 h).1; omega))
             have HS := Lib.hid hst
             have hCb : ((C : Int) != 0) = true := by simpa using hC
             have hCc : ((C : Int) == 0) = false := by simpa using hC
             clear hst
             go_quiet (fail)
             go_wp2
             go_ret
             exact ⟨ret_bool HS.out.symm, X9.trans (by repeat with_reducible (first | exact Ext.refl _ | refine Ext.alloc ?_ _ | refine Ext.drew ?_ | refine Ext.drewN ?_ _ | refine Ext.setCell ?_ (by first | omega | (simp <;> omega)) _))⟩
         · have hst : R0 = true := by
            rw [HI2.out]
            refine eqB_yes ?_
            have h := hT.out
            rw [List.take_of_length_le (by omega)] at h
            exact h
           have HS := Lib.hid hst
           have hge2 : ¬ ((q : Int) < (x.unk.length : Int)) := by omega
           clear hst
           go_wp2
           go_ret
           exact ⟨ret_bool HS.out.symm, X0.trans (hEu.trans (by repeat with_reducible (first | exact Ext.refl _ | refine Ext.alloc ?_ _ | refine Ext.drew ?_ | refine Ext.drewN ?_ _ | refine Ext.setCell ?_ (by first | omega | (simp <;> omega)) _)))⟩
   · have hst : R0 = false := by
      rw [hR0]
      refine eqB_no ?_
      rintro ⟨_, h⟩
      rw [Int.toNat_natCast, rr_iff] at h
      obtain ⟨M, hM, _⟩ := h
      have := (List.getElem?_eq_some_iff.1 hM).1
      rw [List.length_map] at this
      omega
     have mI : ¬ ((m : Int) < (n : Int)) := by omega
     subst hst
     clear hR0
     go_enter Tryz.func70, Tryz.ntmps70
     go_wp2
     go_ret
     exact ⟨rfl, (by repeat with_reducible (first | exact Ext.refl _ | refine Ext.alloc ?_ _ | refine Ext.drew ?_ | refine Ext.drewN ?_ _ | refine Ext.setCell ?_ (by first | omega | (simp <;> omega)) _))⟩

end Go.Proofs.YtnnphodgegcddaaGreat

/- Contracts of layer 14: the reference's Right and Fits, for meanings of any depth. -/


namespace Go.Proofs.YtnnphodgegcddaaGreat
open Go.RowKit Go.Shelf
set_option linter.unusedVariables false

theorem LongT.unkT {τ : Type} {B : Nat} {x : MsgX τ} (h : LongT B x) : TextsT B x := by
 induction h with
 | mk x unk texts sub ih => exact .mk x unk ih

theorem FitT.to_bare {τ : Type} {B : Nat} (x : MsgX τ) (h : FitT B x) : FitT B (bare x) := by
 refine MsgX.ind (P := fun x => FitT B x → FitT B (bare x)) (fun x ih h => ?_) x h
 rw [bare_eq]
 refine .mk _ ?_ h.unk (fun v hv => ?_) (fun v hv y hy => ?_)
 · show (x.vals.map bareV).length ≤ B
   rw [List.length_map]
   exact h.vals
 · obtain ⟨u, hu, rfl⟩ := List.mem_map.1 (show v ∈ x.vals.map bareV from hv)
   have := h.each u hu
   refine ⟨this.1, this.2.1, ?_⟩
   show (u.subs.map bare).length ≤ B
   rw [List.length_map]
   exact this.2.2
 · obtain ⟨u, hu, rfl⟩ := List.mem_map.1 (show v ∈ x.vals.map bareV from hv)
   obtain ⟨z, hz, rfl⟩ := List.mem_map.1 (show y ∈ u.subs.map bare from hy)
   exact ih u hu z hz (h.sub u hu z hz)

theorem LongT.to_bare {τ : Type} {B : Nat} (x : MsgX τ) (h : LongT B x) : LongT B (bare x) := by
 refine MsgX.ind (P := fun x => LongT B x → LongT B (bare x)) (fun x ih h => ?_) x h
 rw [bare_eq]
 refine .mk _ h.unk (fun v hv => ?_) (fun v hv y hy => ?_)
 · obtain ⟨u, hu, rfl⟩ := List.mem_map.1 (show v ∈ x.vals.map bareV from hv)
   exact h.texts u hu
 · obtain ⟨u, hu, rfl⟩ := List.mem_map.1 (show v ∈ x.vals.map bareV from hv)
   obtain ⟨z, hz, rfl⟩ := List.mem_map.1 (show y ∈ u.subs.map bare from hy)
   exact ih u hu z hz (h.sub u hu z hz)

theorem LongT.of_bare {τ : Type} {B : Nat} (x : MsgX τ) (h : LongT B (bare x)) : LongT B x := by
 refine MsgX.ind (P := fun x => LongT B (bare x) → LongT B x) (fun x ih h => ?_) x h
 rw [bare_eq] at h
 refine .mk x h.unk (fun v hv => h.texts (bareV v) (List.mem_map_of_mem hv)) (fun v hv y hy => ih v hv y hy ?_)
 exact h.sub (bareV v) (List.mem_map_of_mem hv) (bare y) (List.mem_map_of_mem hy)

def FitV (B C : Nat) (v : ValT) : Prop := (v.words.length ≤ B ∧ v.texts.length ≤ B ∧ v.subs.length ≤ B) ∧ (∀ t ∈ v.texts, t.data.toList.length ≤ C) ∧ ∀ y ∈ v.subs, FitT B y ∧ LongT C y

theorem FitV.mk' {B C : Nat} {v : ValR} (h1 : v.words.length ≤ B ∧ v.texts.length ≤ B ∧ v.subs.length ≤ B) (h2 : ∀ t ∈ v.texts, t.data.toList.length ≤ C) (h3 : ∀ y ∈ v.subs, FitT B y ∧ LongT C y) : FitV B C (bareV v) := by
 refine ⟨⟨h1.1, h1.2.1, ?_⟩, h2, fun y hy => ?_⟩
 · show (v.subs.map bare).length ≤ B
   rw [List.length_map]
   exact h1.2.2
 · obtain ⟨z, hz, rfl⟩ := List.mem_map.1 (show y ∈ v.subs.map bare from hy)
   exact ⟨(h3 z hz).1.to_bare, (h3 z hz).2.to_bare⟩

theorem FitV.lens {B C : Nat} {v : ValR} (h : FitV B C (bareV v)) : v.words.length ≤ B ∧ v.texts.length ≤ B ∧ v.subs.length ≤ B := by
 obtain ⟨⟨h1, h2, h3⟩, _⟩ := h
 refine ⟨h1, h2, ?_⟩
 have : (v.subs.map bare).length ≤ B := h3
 rwa [List.length_map] at this

theorem FitV.texts {B C : Nat} {v : ValR} (h : FitV B C (bareV v)) : ∀ t ∈ v.texts, t.data.toList.length ≤ C := h.2.1

theorem FitV.subs {B C : Nat} {v : ValR} (h : FitV B C (bareV v)) : ∀ y ∈ v.subs, FitT B y ∧ LongT C y := fun y hy => by
 have := h.2.2 (bare y) (List.mem_map_of_mem hy)
 exact ⟨FitT.of_bare y this.1, LongT.of_bare y this.2⟩

def RRight (S : List MsgV) (x : MsgR) : Prop := FitT 1000000000000 x → LongT 1000000000 x → ∀ (root : Int) (w : World) (A : Option Addr) (n c : Nat), SchemaAt w A n c S → TreeAt w x →
 Calls Tryz.prog 70 #[.slice A n c, .int .i64 root, treeV x] w fun e w' => e = .returned (.bool (eqB (RI (S.map MsgV.d) root (bare x)))) ∧ Ext w w'

theorem rRightT {S : List MsgV} (hR : rightS (S.map MsgV.d) = true) (x : MsgR) : RRight S x := by
 refine MsgX.ind (P := RRight S) (fun x ih => ?_) x
 intro hfit htx root w A n c hs hx
 refine rRightM hR hs hx hfit.vals hfit.unk htx.unk (fun v hv f W hW => ?_)
 obtain ⟨l1, l2, l3⟩ := hfit.each v hv
 exact rFitsF (hs.up hW) ((hx.val hv).up hW) l1 l2 l3 (htx.texts v hv) (fun y hy W' hW' => ih v hv y hy (hfit.sub v hv y hy) (htx.sub v hv y hy) f.of_ W' A n c (hs.up (hW.trans hW')) ((hx.sub v hv y hy).up (hW.trans hW')))

theorem rFitsT {A : Option Addr} {n c : Nat} {S : List MsgV} {f : FieldD} {v : ValR} {w : World} (hR : rightS (S.map MsgV.d) = true) (hs : SchemaAt w A n c S) (hv : ValAt w v) (h : FitV 1000000000000 1000000000 (bareV v)) :
  Calls Tryz.prog 24 #[.slice A n c, fieldV f, tvalV v] w fun e w' => e = .returned (.bool (eqB (FitP (S.map MsgV.d) f (bareV v)))) ∧ Ext w w' :=
 rFitsF hs hv h.lens.1 h.lens.2.1 h.lens.2.2 h.texts (fun y hy W hW => rRightT hR y (h.subs y hy).1 (h.subs y hy).2 f.of_ W A n c (hs.up hW) ((hv.sub y hy).up hW))

theorem tFitsT {A : Option Addr} {n c : Nat} {S : List MsgV} {f : FieldD} {v : ValR} {w : World} (hR : rightS (S.map MsgV.d) = true) (hs : SchemaAt w A n c S) (hv : ValAt w v) (h : FitV 1000000000000 1000000000 (bareV v)) :
  Calls Tryz.prog 59 #[fieldV f, .slice A n c, tvalV v] w fun e w' => e = .returned (.bool (eqB (FitP (S.map MsgV.d) f (bareV v)))) ∧ Ext w w' :=
 tFits hs hv h.lens.1 h.lens.2.1 h.lens.2.2 (fun y hy W hW => tRightT hR y (h.subs y hy).1 (h.subs y hy).2.unkT f.of_ W A n c (hs.up hW) ((hv.sub y hy).up hW))

end Go.Proofs.YtnnphodgegcddaaGreat
