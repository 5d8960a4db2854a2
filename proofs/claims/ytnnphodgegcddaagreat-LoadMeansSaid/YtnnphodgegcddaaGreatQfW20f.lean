/- Contracts of layer 14: does a value fit a field? -/
import Derived.Test.YtnnphodgegcddaaGreatQfW20i
import Derived.Test.YtnnphodgegcddaaGreatQfW14s
import Derived.Test.YtnnphodgegcddaaGreatQfW16
import Derived.Test.YtnnphodgegcddaaGreatQfW4
import Derived.Test.YtnnphodgegcddaaGreatQfS18

namespace Go.Proofs.YtnnphodgegcddaaGreat
open Go.RowKit Go.Shelf
set_option linter.unusedVariables false

theorem tFits1 {k : Int} {x b : Nat} {w : World} (hk : numberB k = true) (hx : x < 18446744073709551616) (hc : w.cell? ⟨b, 2, none⟩ = some (.int .i64 k)) :
  Calls Tryz.prog 113 #[.int .u64 (x : Int), .pointer (some ⟨b, 0, none⟩)] w fun e w' => e = .returned (.bool (decide (canonN k x ≠ x))) ∧ Ext w w' := by
 have hb := World.block_lt_of_cell? w _ hc
 simp only at hb
 have hcn := fun W => kCanonN (k := k) (x := x) (w := W) (y := (x : Int)) hk hx rfl
 generalize canonN k x = y at *
 have Hcn := Lib.hid hcn
 clear hcn
 go_enter Tryz.func113, Tryz.ntmps113
 go_wp2_with (go_at_call 114; refine (Hcn.out _).mono ?_; rintro e w1 ⟨rfl, E1⟩)
 go_ret
 exact ⟨ret_bool (by by_cases h : y = x <;> simp [h] <;> omega), Ext.trans (by repeat with_reducible (first | exact Ext.refl _ | refine Ext.alloc ?_ _ | refine Ext.drew ?_ | refine Ext.drewN ?_ _ | refine Ext.setCell ?_ (by first | omega | (simp <;> omega)) _)) E1⟩

theorem tFits3 {t : ByteArray} {w : World} (ht : t.data.toList.length ≤ maxLen) :
  Calls Tryz.prog 119 #[.string t] w fun e w' => e = .returned (.bool (!rightT t.data.toList)) ∧ Ext w w' := by
 obtain ⟨A7, c7, W7, run7, X7, hb7⟩ := conv_text w t ht
 have hu := fun W (h : BytesAt W A7 t.data.toList.length c7 t.data.toList) => uRight h
 have Hu := Lib.hid hu
 have Hb7 := Lib.hid hb7
 clear hu hb7
 go_enter Tryz.func119, Tryz.ntmps119
 go_wp2_with (go_at_call 120; refine (Hu.out _ (Hb7.out.up (by repeat with_reducible (first | exact Ext.refl _ | refine Ext.alloc ?_ _ | refine Ext.drew ?_ | refine Ext.drewN ?_ _ | refine Ext.setCell ?_ (by first | omega | (simp <;> omega)) _)))).mono ?_; rintro e w1 ⟨rfl, rfl⟩)
 all_goals
  go_ret
  exact ⟨ret_bool (by simp), Ext.trans X7 (by repeat with_reducible (first | exact Ext.refl _ | refine Ext.alloc ?_ _ | refine Ext.drew ?_ | refine Ext.drewN ?_ _ | refine Ext.setCell ?_ (by first | omega | (simp <;> omega)) _))⟩

theorem tFits2 {A : Option Addr} {n c : Nat} {y : MsgR} {o : Int} {q : Bool} {w w0 : World} {bs b : Nat} (hc : w.cell? ⟨b, 5, none⟩ = some (.int .i64 o)) (hs : w.cell? ⟨bs, 0, none⟩ = some (.slice A n c)) (h0 : Ext w0 w)
  (hp : ∀ W : World, Ext w0 W → Calls Tryz.prog 117 #[.slice A n c, .int .i64 o, treeV y] W fun e W' => e = .returned (.bool q) ∧ Ext W W') :
  Calls Tryz.prog 116 #[treeV y, .pointer (some ⟨bs, 0, none⟩), .pointer (some ⟨b, 0, none⟩)] w fun e w' => e = .returned (.bool (!q)) ∧ Ext w w' := by
 have hb := World.block_lt_of_cell? w _ hc
 have hbs := World.block_lt_of_cell? w _ hs
 simp only at hb hbs
 unfold treeV at hp ⊢
 have Hp := Lib.hid hp
 clear hp
 go_enter Tryz.func116, Tryz.ntmps116
 go_wp2_with (go_at_call 117; refine (Hp.out _ (h0.trans (by repeat with_reducible (first | exact Ext.refl _ | refine Ext.alloc ?_ _ | refine Ext.drew ?_ | refine Ext.drewN ?_ _ | refine Ext.setCell ?_ (by first | omega | (simp <;> omega)) _)))).mono ?_; rintro e w1 ⟨rfl, E1⟩)
 all_goals
  go_ret
  exact ⟨ret_bool (by simp), Ext.trans (by repeat with_reducible (first | exact Ext.refl _ | refine Ext.alloc ?_ _ | refine Ext.drew ?_ | refine Ext.drewN ?_ _ | refine Ext.setCell ?_ (by first | omega | (simp <;> omega)) _)) E1⟩

theorem eqB_of {p : Prop} {b : Bool} (h : p ↔ b = true) : eqB p = b := by
 rcases b with _ | _
 · exact eqB_no (fun q => by cases h.1 q)
 · exact eqB_yes (h.2 rfl)

def SwP (S : List MsgD) (f : FieldD) (v : ValR) : Prop := (numberB f.kind = true ∧ v.texts = [] ∧ v.subs = [] ∧ ∀ w ∈ v.words, canonN f.kind w = w) ∨
     (numberB f.kind = false ∧ kindB f.kind = true ∧ f.kind ≠ 17 ∧ v.words = [] ∧ v.subs = [] ∧ (f.kind = 15 → ∀ t ∈ v.texts, rightT t.data.toList = true)) ∨
     (f.kind = 17 ∧ v.words = [] ∧ v.texts = [] ∧ ∀ y ∈ v.subs, RI S f.of_ (bare y))

section
variable {S : List MsgD} {f : FieldD} {v : ValR}

theorem sw_number (hn : numberB f.kind = true) (h : v.texts.length + v.subs.length = 0) : eqB (SwP S f v) = !(v.words.any fun x => decide (canonN f.kind x ≠ x)) := by
 refine eqB_of ?_
 have ht : v.texts = [] := List.eq_nil_of_length_eq_zero (by omega)
 have hs : v.subs = [] := List.eq_nil_of_length_eq_zero (by omega)
 rw [Bool.not_eq_true', List.any_eq_false]
 unfold SwP
 constructor
 · rintro (⟨_, _, _, h⟩ | ⟨q, _⟩ | ⟨q, _⟩)
   · intro x hx
     simp [h x hx]
   · rw [hn] at q
     cases q
   · rw [q] at hn
     exact absurd hn (by decide)
 · intro h
   refine .inl ⟨hn, ht, hs, fun x hx => ?_⟩
   have := h x hx
   simpa using this

theorem sw_number_no (hn : numberB f.kind = true) (h : ¬ v.texts.length + v.subs.length = 0) : eqB (SwP S f v) = false := by
 refine eqB_no ?_
 unfold SwP
 rintro (⟨_, q1, q2, _⟩ | ⟨q, _⟩ | ⟨q, _⟩)
 · rw [q1, q2] at h
   exact h rfl
 · rw [hn] at q
   cases q
 · rw [q] at hn
   exact absurd hn (by decide)

theorem sw_sub (h17 : f.kind = 17) (h : v.words.length + v.texts.length = 0) : eqB (SwP S f v) = !(v.subs.any fun y => !eqB (RI S f.of_ (bare y))) := by
 refine eqB_of ?_
 have hw : v.words = [] := List.eq_nil_of_length_eq_zero (by omega)
 have ht : v.texts = [] := List.eq_nil_of_length_eq_zero (by omega)
 have hn : numberB f.kind = false := by rw [h17]; decide
 rw [Bool.not_eq_true', List.any_eq_false]
 unfold SwP
 constructor
 · rintro (⟨q, _⟩ | ⟨_, _, q, _⟩ | ⟨_, _, _, q⟩)
   · rw [hn] at q
     cases q
   · exact absurd h17 q
   · intro y hy
     rw [eqB_yes (q y hy)]
     decide
 · intro h
   refine .inr (.inr ⟨h17, hw, ht, fun y hy => ?_⟩)
   have := h y hy
   by_cases c : RI S f.of_ (bare y)
   · exact c
   · rw [eqB_no c] at this
     exact absurd rfl this

theorem sw_sub_no (h17 : f.kind = 17) (h : ¬ v.words.length + v.texts.length = 0) : eqB (SwP S f v) = false := by
 refine eqB_no ?_
 have hn : numberB f.kind = false := by rw [h17]; decide
 unfold SwP
 rintro (⟨q, _⟩ | ⟨_, _, q, _⟩ | ⟨_, q1, q2, _⟩)
 · rw [hn] at q
   cases q
 · exact absurd h17 q
 · rw [q1, q2] at h
   exact h rfl

theorem sw_text (h15 : f.kind = 15) (h : v.words.length + v.subs.length = 0) : eqB (SwP S f v) = !(v.texts.any fun t => !rightT t.data.toList) := by
 refine eqB_of ?_
 have hw : v.words = [] := List.eq_nil_of_length_eq_zero (by omega)
 have hs : v.subs = [] := List.eq_nil_of_length_eq_zero (by omega)
 have hn : numberB f.kind = false := by rw [h15]; decide
 rw [Bool.not_eq_true', List.any_eq_false]
 unfold SwP
 constructor
 · rintro (⟨q, _⟩ | ⟨_, _, _, _, _, q⟩ | ⟨q, _⟩)
   · rw [hn] at q
     cases q
   · intro t ht
     simp [q h15 t ht]
   · omega
 · intro h
   refine .inr (.inl ⟨hn, by rw [h15]; decide, by omega, hw, hs, fun _ t ht => ?_⟩)
   have := h t ht
   simpa using this

theorem sw_text_no (h15 : f.kind = 15) (h : ¬ v.words.length + v.subs.length = 0) : eqB (SwP S f v) = false := by
 refine eqB_no ?_
 have hn : numberB f.kind = false := by rw [h15]; decide
 unfold SwP
 rintro (⟨q, _⟩ | ⟨_, _, _, q1, q2, _⟩ | ⟨q, _⟩)
 · rw [hn] at q
   cases q
 · rw [q1, q2] at h
   exact h rfl
 · omega

theorem sw_bytes (h16 : f.kind = 16) : eqB (SwP S f v) = decide (v.words.length + v.subs.length = 0) := by
 refine eqB_of ?_
 have hn : numberB f.kind = false := by rw [h16]; decide
 rw [decide_eq_true_iff]
 unfold SwP
 constructor
 · rintro (⟨q, _⟩ | ⟨_, _, _, q1, q2, _⟩ | ⟨q, _⟩)
   · rw [hn] at q
     cases q
   · rw [q1, q2]
     rfl
   · omega
 · intro h
   exact .inr (.inl ⟨hn, by rw [h16]; decide, by omega, List.eq_nil_of_length_eq_zero (by omega), List.eq_nil_of_length_eq_zero (by omega), fun q => absurd q (by omega)⟩)

theorem sw_none (hn : numberB f.kind = false) (h17 : ¬ f.kind = 17) (h15 : ¬ f.kind = 15) (h16 : ¬ f.kind = 16) : eqB (SwP S f v) = false := by
 refine eqB_no ?_
 unfold SwP
 rintro (⟨q, _⟩ | ⟨_, q, _⟩ | ⟨q, _⟩)
 · rw [hn] at q
   cases q
 · unfold kindB at q
   unfold numberB at hn
   simp at q hn
   omega
 · exact h17 q
end

set_option maxRecDepth 100000 in
set_option maxHeartbeats 4000000 in
theorem tFitsS {A : Option Addr} {n c : Nat} {S : List MsgV} {f : FieldD} {v : ValR} {w : World} (hs : SchemaAt w A n c S) (hv : ValAt w v) (hwl : v.words.length ≤ 1000000000000) (htl : v.texts.length ≤ 1000000000000) (hsl : v.subs.length ≤ 1000000000000)
  (h0 : ¬ v.words.length + v.texts.length + v.subs.length = 0) (h1 : ¬ (1 < v.words.length + v.texts.length + v.subs.length ∧ f.rep = false))
  (hp : ∀ y ∈ v.subs, ∀ W : World, Ext w W → Calls Tryz.prog 117 #[.slice A n c, .int .i64 f.of_, treeV y] W fun e W' => e = .returned (.bool (eqB (RI (S.map MsgV.d) f.of_ (bare y)))) ∧ Ext W W') :
  Calls Tryz.prog 59 #[.agg #[.string f.name, .int .i64 f.number, .int .i64 f.kind, .bool f.rep, .bool f.packed, .int .i64 f.of_], .slice A n c, .agg #[.int .i64 v.number, .slice v.a.1 v.words.length v.a.2, .slice v.b.1 v.texts.length v.b.2, .slice v.c.1 v.subs.length v.c.2]] w fun e w' => e = .returned (.bool (eqB (SwP (S.map MsgV.d) f v))) ∧ Ext w w' := by
 have wcap := hv.own.words.cap
 have tcap := hv.own.texts.at_.cap
 have scap := hv.own.subs.cap
 have wmax := hv.own.words.max
 have tmax := hv.own.texts.at_.max
 have smax := hv.own.subs.max
 unfold maxLen at wmax tmax smax
 have q0 : (((v.words.length : Int) + (v.texts.length : Int) + (v.subs.length : Int)) == 0) = false := by rw [beq_eq_false_iff_ne]; omega
 have Hp := Lib.hid hp
 have hN := fun W => kNumber f.kind W
 have HN := Lib.hid hN
 have Hv := Lib.hid hv
 have eg1 : ∀ args w, (callFunc 113 args).run Tryz.prog w = .ok (.enter 113 args) w := enters_of Tryz.func113 (by kernel_rfl) rfl
 have eg2 : ∀ args w, (callFunc 116 args).run Tryz.prog w = .ok (.enter 116 args) w := enters_of Tryz.func116 (by kernel_rfl) rfl
 have eg3 : ∀ args w, (callFunc 119 args).run Tryz.prog w = .ok (.enter 119 args) w := enters_of Tryz.func119 (by kernel_rfl) rfl
 obtain ⟨R0, hR0⟩ : ∃ R0, R0 = eqB (SwP (S.map MsgV.d) f v) := ⟨_, rfl⟩
 rw [← hR0]
 have Eg := Lib.hid (And.intro eg1 (And.intro eg2 eg3))
 clear hp hN eg1 eg2 eg3 hv hs
 have key : (1 : Int) < (v.words.length : Int) + (v.texts.length : Int) + (v.subs.length : Int) ∧ f.rep = true ∨ ¬ (1 : Int) < (v.words.length : Int) + (v.texts.length : Int) + (v.subs.length : Int) := by
  by_cases h : (1 : Int) < (v.words.length : Int) + (v.texts.length : Int) + (v.subs.length : Int)
  · refine .inl ⟨h, ?_⟩
    rcases hr : f.rep with _ | _
    · exact absurd ⟨by omega, hr⟩ h1
    · rfl
  · exact .inr h
 clear h1
 rcases key with ⟨t1, hr⟩ | t1
 · rw [hr]
   clear hr
   go_enter Tryz.func59, Tryz.ntmps59
   go_wp2_with fail
   have BF := ((BlkT.new w 48 #[.string f.name, .int .i64 f.number, .int .i64 f.kind, .bool true, .bool f.packed, .int .i64 f.of_] rfl).alloc (.cells #[.slice A n c] 23)).alloc (.cells #[.int .i64 v.number, .slice v.a.1 v.words.length v.a.2, .slice v.b.1 v.texts.length v.b.2, .slice v.c.1 v.subs.length v.c.2] 52)
   have BS := (BlkT.new (w.alloc (.cells #[.string f.name, .int .i64 f.number, .int .i64 f.kind, .bool true, .bool f.packed, .int .i64 f.of_] 48)) 23 #[.slice A n c] (show w.heap.size + 1 = _ by simp)).alloc (.cells #[.int .i64 v.number, .slice v.a.1 v.words.length v.a.2, .slice v.b.1 v.texts.length v.b.2, .slice v.c.1 v.subs.length v.c.2] 52)
   have BV := BlkT.new ((w.alloc (.cells #[.string f.name, .int .i64 f.number, .int .i64 f.kind, .bool true, .bool f.packed, .int .i64 f.of_] 48)).alloc (.cells #[.slice A n c] 23)) 52 #[.int .i64 v.number, .slice v.a.1 v.words.length v.a.2, .slice v.b.1 v.texts.length v.b.2, .slice v.c.1 v.subs.length v.c.2] (show w.heap.size + 1 + 1 = _ by simp)
   have X0 : Ext w (((w.alloc (.cells #[.string f.name, .int .i64 f.number, .int .i64 f.kind, .bool true, .bool f.packed, .int .i64 f.of_] 48)).alloc (.cells #[.slice A n c] 23)).alloc (.cells #[.int .i64 v.number, .slice v.a.1 v.words.length v.a.2, .slice v.b.1 v.texts.length v.b.2, .slice v.c.1 v.subs.length v.c.2] 52)) := (((Ext.refl w).alloc _).alloc _).alloc _
   generalize ((w.alloc (.cells #[.string f.name, .int .i64 f.number, .int .i64 f.kind, .bool true, .bool f.packed, .int .i64 f.of_] 48)).alloc (.cells #[.slice A n c] 23)).alloc (.cells #[.int .i64 v.number, .slice v.a.1 v.words.length v.a.2, .slice v.b.1 v.texts.length v.b.2, .slice v.c.1 v.subs.length v.c.2] 52) = wx at *
   have z2 : wx.cell? ⟨w.heap.size, 2, none⟩ = some (.int .i64 f.kind) := BF.cell 2
   have z5 : wx.cell? ⟨w.heap.size, 5, none⟩ = some (.int .i64 f.of_) := BF.cell 5
   have y0 : wx.cell? ⟨w.heap.size + 1, 0, none⟩ = some (.slice A n c) := BS.cell 0
   have x1 : wx.cell? ⟨w.heap.size + 1 + 1, 1, none⟩ = some (.slice v.a.1 v.words.length v.a.2) := BV.cell 1
   have x2 : wx.cell? ⟨w.heap.size + 1 + 1, 2, none⟩ = some (.slice v.b.1 v.texts.length v.b.2) := BV.cell 2
   have x3 : wx.cell? ⟨w.heap.size + 1 + 1, 3, none⟩ = some (.slice v.c.1 v.subs.length v.c.2) := BV.cell 3
   have l0 := BF.lt
   have l1 := BS.lt
   have l2 := BV.lt
   clear BF BS BV
   rcases hn : numberB f.kind with _ | _
   · have H0 := HN.out
     rw [hn] at H0
     have H1 := Lib.hid H0
     have Hn := Lib.hid hn
     clear H0 hn
     by_cases h17 : f.kind = 17
     · have t17 : (f.kind == 17) = true := by rw [beq_iff_eq]; exact h17
       by_cases hx : v.words.length + v.texts.length = 0
       · have hS := hR0.trans (sw_sub h17 hx)
         have q3 : ((v.subs.length : Int) == (v.words.length : Int) + (v.texts.length : Int) + (v.subs.length : Int)) = true := by rw [beq_iff_eq]; omega
         have hc := fun (W : World) (E : Ext wx W) => hasTree (w := W) (p := fun y => !eqB (RI (S.map MsgV.d) f.of_ (bare y))) (lb := #[.pointer (some ⟨w.heap.size + 1, 0, none⟩), .pointer (some ⟨w.heap.size, 0, none⟩)]) Eg.out.2.1 (Hv.out.own.subs.ext (X0.trans E)) (by omega) (fun W' y hy hE => tFits2 ((E.trans hE).of_cell z5) ((E.trans hE).of_cell y0) (X0.trans (E.trans hE)) (Hp.out y hy))
         generalize (v.subs.any fun y => !eqB (RI (S.map MsgV.d) f.of_ (bare y))) = R at *
         have Hc := Lib.hid hc
         clear hc h17 hx
         have HS := Lib.hid hS
         clear hS hR0
         go_wp2_with (first
          | (go_at_call 62; refine (H1.out _).mono ?_; rintro e w1 ⟨rfl, E1⟩; have X1 : Ext wx w1 := Ext.trans (by repeat with_reducible (first | exact Ext.refl _ | refine Ext.alloc ?_ _ | refine Ext.drew ?_ | refine Ext.drewN ?_ _ | refine Ext.setCell ?_ (by first | omega | (simp <;> omega)) _)) E1; replace z2 := X1.of_cell z2; replace x1 := X1.of_cell x1; replace x2 := X1.of_cell x2; replace x3 := X1.of_cell x3)
          | (go_at_call 115; refine (Hc.out _ (X1.trans (by repeat with_reducible (first | exact Ext.refl _ | refine Ext.alloc ?_ _ | refine Ext.drew ?_ | refine Ext.drewN ?_ _ | refine Ext.setCell ?_ (by first | omega | (simp <;> omega)) _)))).mono ?_; rintro e w2 ⟨rfl, E2⟩; have X2 : Ext w1 w2 := Ext.trans (by repeat with_reducible (first | exact Ext.refl _ | refine Ext.alloc ?_ _ | refine Ext.drew ?_ | refine Ext.drewN ?_ _ | refine Ext.setCell ?_ (by first | omega | (simp <;> omega)) _)) E2))
         all_goals
          go_ret
          exact ⟨ret_bool (by rw [HS.out]), X0.trans (X1.trans (X2.trans (by repeat with_reducible (first | exact Ext.refl _ | refine Ext.alloc ?_ _ | refine Ext.drew ?_ | refine Ext.drewN ?_ _ | refine Ext.setCell ?_ (by first | omega | (simp <;> omega)) _))))⟩
       · have hS := hR0.trans (sw_sub_no h17 hx)
         have q3 : ((v.subs.length : Int) == (v.words.length : Int) + (v.texts.length : Int) + (v.subs.length : Int)) = false := by rw [beq_eq_false_iff_ne]; omega
         clear h17 hx
         have HS := Lib.hid hS
         clear hS hR0
         go_wp2_with (first
          | (go_at_call 62; refine (H1.out _).mono ?_; rintro e w1 ⟨rfl, E1⟩; have X1 : Ext wx w1 := Ext.trans (by repeat with_reducible (first | exact Ext.refl _ | refine Ext.alloc ?_ _ | refine Ext.drew ?_ | refine Ext.drewN ?_ _ | refine Ext.setCell ?_ (by first | omega | (simp <;> omega)) _)) E1; replace z2 := X1.of_cell z2; replace x1 := X1.of_cell x1; replace x2 := X1.of_cell x2; replace x3 := X1.of_cell x3))
         all_goals
          go_ret
          exact ⟨ret_bool (by rw [HS.out]), X0.trans (X1.trans (by repeat with_reducible (first | exact Ext.refl _ | refine Ext.alloc ?_ _ | refine Ext.drew ?_ | refine Ext.drewN ?_ _ | refine Ext.setCell ?_ (by first | omega | (simp <;> omega)) _)))⟩
     · have t17 : (f.kind == 17) = false := by rw [beq_eq_false_iff_ne]; exact h17
       by_cases h15 : f.kind = 15
       · have t15 : (f.kind == 15) = true := by rw [beq_iff_eq]; exact h15
         by_cases hx : v.words.length + v.subs.length = 0
         · have hS := hR0.trans (sw_text h15 hx)
           have q3 : ((v.texts.length : Int) == (v.words.length : Int) + (v.texts.length : Int) + (v.subs.length : Int)) = true := by rw [beq_iff_eq]; omega
           have hc := fun (W : World) (E : Ext wx W) => hasText (w := W) (p := fun t => !rightT t.data.toList) (lb := #[]) Eg.out.2.2 (Hv.out.own.texts.up (X0.trans E)) (by omega) (fun W' t ht hE => tFits3 ht.2)
           generalize (v.texts.any fun t => !rightT t.data.toList) = R at *
           have Hc := Lib.hid hc
           clear hc h17 h15 hx
           have HS := Lib.hid hS
           clear hS hR0
           go_wp2_with (first
            | (go_at_call 62; refine (H1.out _).mono ?_; rintro e w1 ⟨rfl, E1⟩; have X1 : Ext wx w1 := Ext.trans (by repeat with_reducible (first | exact Ext.refl _ | refine Ext.alloc ?_ _ | refine Ext.drew ?_ | refine Ext.drewN ?_ _ | refine Ext.setCell ?_ (by first | omega | (simp <;> omega)) _)) E1; replace z2 := X1.of_cell z2; replace x1 := X1.of_cell x1; replace x2 := X1.of_cell x2; replace x3 := X1.of_cell x3)
            | (go_at_call 118; refine (Hc.out _ (X1.trans (by repeat with_reducible (first | exact Ext.refl _ | refine Ext.alloc ?_ _ | refine Ext.drew ?_ | refine Ext.drewN ?_ _ | refine Ext.setCell ?_ (by first | omega | (simp <;> omega)) _)))).mono ?_; rintro e w2 ⟨rfl, E2⟩; have X2 : Ext w1 w2 := Ext.trans (by repeat with_reducible (first | exact Ext.refl _ | refine Ext.alloc ?_ _ | refine Ext.drew ?_ | refine Ext.drewN ?_ _ | refine Ext.setCell ?_ (by first | omega | (simp <;> omega)) _)) E2))
           all_goals
            go_ret
            exact ⟨ret_bool (by rw [HS.out]), X0.trans (X1.trans (X2.trans (by repeat with_reducible (first | exact Ext.refl _ | refine Ext.alloc ?_ _ | refine Ext.drew ?_ | refine Ext.drewN ?_ _ | refine Ext.setCell ?_ (by first | omega | (simp <;> omega)) _))))⟩
         · have hS := hR0.trans (sw_text_no h15 hx)
           have q3 : ((v.texts.length : Int) == (v.words.length : Int) + (v.texts.length : Int) + (v.subs.length : Int)) = false := by rw [beq_eq_false_iff_ne]; omega
           clear h17 h15 hx
           have HS := Lib.hid hS
           clear hS hR0
           go_wp2_with (first
            | (go_at_call 62; refine (H1.out _).mono ?_; rintro e w1 ⟨rfl, E1⟩; have X1 : Ext wx w1 := Ext.trans (by repeat with_reducible (first | exact Ext.refl _ | refine Ext.alloc ?_ _ | refine Ext.drew ?_ | refine Ext.drewN ?_ _ | refine Ext.setCell ?_ (by first | omega | (simp <;> omega)) _)) E1; replace z2 := X1.of_cell z2; replace x1 := X1.of_cell x1; replace x2 := X1.of_cell x2; replace x3 := X1.of_cell x3))
           all_goals
            go_ret
            exact ⟨ret_bool (by rw [HS.out]), X0.trans (X1.trans (by repeat with_reducible (first | exact Ext.refl _ | refine Ext.alloc ?_ _ | refine Ext.drew ?_ | refine Ext.drewN ?_ _ | refine Ext.setCell ?_ (by first | omega | (simp <;> omega)) _)))⟩
       · have t15 : (f.kind == 15) = false := by rw [beq_eq_false_iff_ne]; exact h15
         by_cases h16 : f.kind = 16
         · have t16 : (f.kind == 16) = true := by rw [beq_iff_eq]; exact h16
           have hS := hR0.trans (sw_bytes h16)
           clear h17 h15 h16
           by_cases hx : v.words.length + v.subs.length = 0
           · have q3 : ((v.texts.length : Int) == (v.words.length : Int) + (v.texts.length : Int) + (v.subs.length : Int)) = true := by rw [beq_iff_eq]; omega
             rw [decide_eq_true hx] at hS
             clear hx
             have HS := Lib.hid hS
             clear hS hR0
             go_wp2_with (first
              | (go_at_call 62; refine (H1.out _).mono ?_; rintro e w1 ⟨rfl, E1⟩; have X1 : Ext wx w1 := Ext.trans (by repeat with_reducible (first | exact Ext.refl _ | refine Ext.alloc ?_ _ | refine Ext.drew ?_ | refine Ext.drewN ?_ _ | refine Ext.setCell ?_ (by first | omega | (simp <;> omega)) _)) E1; replace z2 := X1.of_cell z2; replace x1 := X1.of_cell x1; replace x2 := X1.of_cell x2; replace x3 := X1.of_cell x3))
             all_goals
              go_ret
              exact ⟨ret_bool (by rw [HS.out]), X0.trans (X1.trans (by repeat with_reducible (first | exact Ext.refl _ | refine Ext.alloc ?_ _ | refine Ext.drew ?_ | refine Ext.drewN ?_ _ | refine Ext.setCell ?_ (by first | omega | (simp <;> omega)) _)))⟩
           · have q3 : ((v.texts.length : Int) == (v.words.length : Int) + (v.texts.length : Int) + (v.subs.length : Int)) = false := by rw [beq_eq_false_iff_ne]; omega
             rw [decide_eq_false hx] at hS
             clear hx
             have HS := Lib.hid hS
             clear hS hR0
             go_wp2_with (first
              | (go_at_call 62; refine (H1.out _).mono ?_; rintro e w1 ⟨rfl, E1⟩; have X1 : Ext wx w1 := Ext.trans (by repeat with_reducible (first | exact Ext.refl _ | refine Ext.alloc ?_ _ | refine Ext.drew ?_ | refine Ext.drewN ?_ _ | refine Ext.setCell ?_ (by first | omega | (simp <;> omega)) _)) E1; replace z2 := X1.of_cell z2; replace x1 := X1.of_cell x1; replace x2 := X1.of_cell x2; replace x3 := X1.of_cell x3))
             all_goals
              go_ret
              exact ⟨ret_bool (by rw [HS.out]), X0.trans (X1.trans (by repeat with_reducible (first | exact Ext.refl _ | refine Ext.alloc ?_ _ | refine Ext.drew ?_ | refine Ext.drewN ?_ _ | refine Ext.setCell ?_ (by first | omega | (simp <;> omega)) _)))⟩
         · have t16 : (f.kind == 16) = false := by rw [beq_eq_false_iff_ne]; exact h16
           have hS := hR0.trans (sw_none Hn.out h17 h15 h16)
           clear h17 h15 h16
           have HS := Lib.hid hS
           clear hS hR0
           go_wp2_with (first
            | (go_at_call 62; refine (H1.out _).mono ?_; rintro e w1 ⟨rfl, E1⟩; have X1 : Ext wx w1 := Ext.trans (by repeat with_reducible (first | exact Ext.refl _ | refine Ext.alloc ?_ _ | refine Ext.drew ?_ | refine Ext.drewN ?_ _ | refine Ext.setCell ?_ (by first | omega | (simp <;> omega)) _)) E1; replace z2 := X1.of_cell z2; replace x1 := X1.of_cell x1; replace x2 := X1.of_cell x2; replace x3 := X1.of_cell x3))
           all_goals
            go_ret
            exact ⟨ret_bool (by rw [HS.out]), X0.trans (X1.trans (by repeat with_reducible (first | exact Ext.refl _ | refine Ext.alloc ?_ _ | refine Ext.drew ?_ | refine Ext.drewN ?_ _ | refine Ext.setCell ?_ (by first | omega | (simp <;> omega)) _)))⟩
   · have H0 := HN.out
     rw [hn] at H0
     have H1 := Lib.hid H0
     clear H0
     by_cases hx : v.texts.length + v.subs.length = 0
     · have hS := hR0.trans (sw_number hn hx)
       have q3 : ((v.words.length : Int) == (v.words.length : Int) + (v.texts.length : Int) + (v.subs.length : Int)) = true := by rw [beq_iff_eq]; omega
       have hc := fun (W : World) (E : Ext wx W) => hasWord (w := W) (p := fun x => decide (canonN f.kind x ≠ x)) (lb := #[.pointer (some ⟨w.heap.size, 0, none⟩)]) Eg.out.1 (Hv.out.own.words.ext (X0.trans E)) Hv.out.own.small (by omega) (fun W' x hx hE => tFits1 hn hx ((E.trans hE).of_cell z2))
       generalize (v.words.any fun x => decide (canonN f.kind x ≠ x)) = R at *
       have Hc := Lib.hid hc
       clear hc hn hx
       have HS := Lib.hid hS
       clear hS hR0
       go_wp2_with (first
        | (go_at_call 62; refine (H1.out _).mono ?_; rintro e w1 ⟨rfl, E1⟩; have X1 : Ext wx w1 := Ext.trans (by repeat with_reducible (first | exact Ext.refl _ | refine Ext.alloc ?_ _ | refine Ext.drew ?_ | refine Ext.drewN ?_ _ | refine Ext.setCell ?_ (by first | omega | (simp <;> omega)) _)) E1; replace z2 := X1.of_cell z2; replace x1 := X1.of_cell x1; replace x2 := X1.of_cell x2; replace x3 := X1.of_cell x3)
        | (go_at_call 112; refine (Hc.out _ (X1.trans (by repeat with_reducible (first | exact Ext.refl _ | refine Ext.alloc ?_ _ | refine Ext.drew ?_ | refine Ext.drewN ?_ _ | refine Ext.setCell ?_ (by first | omega | (simp <;> omega)) _)))).mono ?_; rintro e w2 ⟨rfl, E2⟩; have X2 : Ext w1 w2 := Ext.trans (by repeat with_reducible (first | exact Ext.refl _ | refine Ext.alloc ?_ _ | refine Ext.drew ?_ | refine Ext.drewN ?_ _ | refine Ext.setCell ?_ (by first | omega | (simp <;> omega)) _)) E2))
       all_goals
        go_ret
        exact ⟨ret_bool (by rw [HS.out]), X0.trans (X1.trans (X2.trans (by repeat with_reducible (first | exact Ext.refl _ | refine Ext.alloc ?_ _ | refine Ext.drew ?_ | refine Ext.drewN ?_ _ | refine Ext.setCell ?_ (by first | omega | (simp <;> omega)) _))))⟩
     · have hS := hR0.trans (sw_number_no hn hx)
       have q3 : ((v.words.length : Int) == (v.words.length : Int) + (v.texts.length : Int) + (v.subs.length : Int)) = false := by rw [beq_eq_false_iff_ne]; omega
       clear hn hx
       have HS := Lib.hid hS
       clear hS hR0
       go_wp2_with (first
        | (go_at_call 62; refine (H1.out _).mono ?_; rintro e w1 ⟨rfl, E1⟩; have X1 : Ext wx w1 := Ext.trans (by repeat with_reducible (first | exact Ext.refl _ | refine Ext.alloc ?_ _ | refine Ext.drew ?_ | refine Ext.drewN ?_ _ | refine Ext.setCell ?_ (by first | omega | (simp <;> omega)) _)) E1; replace z2 := X1.of_cell z2; replace x1 := X1.of_cell x1; replace x2 := X1.of_cell x2; replace x3 := X1.of_cell x3))
       all_goals
        go_ret
        exact ⟨ret_bool (by rw [HS.out]), X0.trans (X1.trans (by repeat with_reducible (first | exact Ext.refl _ | refine Ext.alloc ?_ _ | refine Ext.drew ?_ | refine Ext.drewN ?_ _ | refine Ext.setCell ?_ (by first | omega | (simp <;> omega)) _)))⟩
 · obtain ⟨rp, hrp⟩ : ∃ rp, rp = f.rep := ⟨_, rfl⟩
   rw [← hrp]
   clear hrp
   go_enter Tryz.func59, Tryz.ntmps59
   go_wp2_with fail
   have BF := ((BlkT.new w 48 #[.string f.name, .int .i64 f.number, .int .i64 f.kind, .bool rp, .bool f.packed, .int .i64 f.of_] rfl).alloc (.cells #[.slice A n c] 23)).alloc (.cells #[.int .i64 v.number, .slice v.a.1 v.words.length v.a.2, .slice v.b.1 v.texts.length v.b.2, .slice v.c.1 v.subs.length v.c.2] 52)
   have BS := (BlkT.new (w.alloc (.cells #[.string f.name, .int .i64 f.number, .int .i64 f.kind, .bool rp, .bool f.packed, .int .i64 f.of_] 48)) 23 #[.slice A n c] (show w.heap.size + 1 = _ by simp)).alloc (.cells #[.int .i64 v.number, .slice v.a.1 v.words.length v.a.2, .slice v.b.1 v.texts.length v.b.2, .slice v.c.1 v.subs.length v.c.2] 52)
   have BV := BlkT.new ((w.alloc (.cells #[.string f.name, .int .i64 f.number, .int .i64 f.kind, .bool rp, .bool f.packed, .int .i64 f.of_] 48)).alloc (.cells #[.slice A n c] 23)) 52 #[.int .i64 v.number, .slice v.a.1 v.words.length v.a.2, .slice v.b.1 v.texts.length v.b.2, .slice v.c.1 v.subs.length v.c.2] (show w.heap.size + 1 + 1 = _ by simp)
   have X0 : Ext w (((w.alloc (.cells #[.string f.name, .int .i64 f.number, .int .i64 f.kind, .bool rp, .bool f.packed, .int .i64 f.of_] 48)).alloc (.cells #[.slice A n c] 23)).alloc (.cells #[.int .i64 v.number, .slice v.a.1 v.words.length v.a.2, .slice v.b.1 v.texts.length v.b.2, .slice v.c.1 v.subs.length v.c.2] 52)) := (((Ext.refl w).alloc _).alloc _).alloc _
   generalize ((w.alloc (.cells #[.string f.name, .int .i64 f.number, .int .i64 f.kind, .bool rp, .bool f.packed, .int .i64 f.of_] 48)).alloc (.cells #[.slice A n c] 23)).alloc (.cells #[.int .i64 v.number, .slice v.a.1 v.words.length v.a.2, .slice v.b.1 v.texts.length v.b.2, .slice v.c.1 v.subs.length v.c.2] 52) = wx at *
   have z2 : wx.cell? ⟨w.heap.size, 2, none⟩ = some (.int .i64 f.kind) := BF.cell 2
   have z5 : wx.cell? ⟨w.heap.size, 5, none⟩ = some (.int .i64 f.of_) := BF.cell 5
   have y0 : wx.cell? ⟨w.heap.size + 1, 0, none⟩ = some (.slice A n c) := BS.cell 0
   have x1 : wx.cell? ⟨w.heap.size + 1 + 1, 1, none⟩ = some (.slice v.a.1 v.words.length v.a.2) := BV.cell 1
   have x2 : wx.cell? ⟨w.heap.size + 1 + 1, 2, none⟩ = some (.slice v.b.1 v.texts.length v.b.2) := BV.cell 2
   have x3 : wx.cell? ⟨w.heap.size + 1 + 1, 3, none⟩ = some (.slice v.c.1 v.subs.length v.c.2) := BV.cell 3
   have l0 := BF.lt
   have l1 := BS.lt
   have l2 := BV.lt
   clear BF BS BV
   rcases hn : numberB f.kind with _ | _
   · have H0 := HN.out
     rw [hn] at H0
     have H1 := Lib.hid H0
     have Hn := Lib.hid hn
     clear H0 hn
     by_cases h17 : f.kind = 17
     · have t17 : (f.kind == 17) = true := by rw [beq_iff_eq]; exact h17
       by_cases hx : v.words.length + v.texts.length = 0
       · have hS := hR0.trans (sw_sub h17 hx)
         have q3 : ((v.subs.length : Int) == (v.words.length : Int) + (v.texts.length : Int) + (v.subs.length : Int)) = true := by rw [beq_iff_eq]; omega
         have hc := fun (W : World) (E : Ext wx W) => hasTree (w := W) (p := fun y => !eqB (RI (S.map MsgV.d) f.of_ (bare y))) (lb := #[.pointer (some ⟨w.heap.size + 1, 0, none⟩), .pointer (some ⟨w.heap.size, 0, none⟩)]) Eg.out.2.1 (Hv.out.own.subs.ext (X0.trans E)) (by omega) (fun W' y hy hE => tFits2 ((E.trans hE).of_cell z5) ((E.trans hE).of_cell y0) (X0.trans (E.trans hE)) (Hp.out y hy))
         generalize (v.subs.any fun y => !eqB (RI (S.map MsgV.d) f.of_ (bare y))) = R at *
         have Hc := Lib.hid hc
         clear hc h17 hx
         have HS := Lib.hid hS
         clear hS hR0
         go_wp2_with (first
          | (go_at_call 62; refine (H1.out _).mono ?_; rintro e w1 ⟨rfl, E1⟩; have X1 : Ext wx w1 := Ext.trans (by repeat with_reducible (first | exact Ext.refl _ | refine Ext.alloc ?_ _ | refine Ext.drew ?_ | refine Ext.drewN ?_ _ | refine Ext.setCell ?_ (by first | omega | (simp <;> omega)) _)) E1; replace z2 := X1.of_cell z2; replace x1 := X1.of_cell x1; replace x2 := X1.of_cell x2; replace x3 := X1.of_cell x3)
          | (go_at_call 115; refine (Hc.out _ (X1.trans (by repeat with_reducible (first | exact Ext.refl _ | refine Ext.alloc ?_ _ | refine Ext.drew ?_ | refine Ext.drewN ?_ _ | refine Ext.setCell ?_ (by first | omega | (simp <;> omega)) _)))).mono ?_; rintro e w2 ⟨rfl, E2⟩; have X2 : Ext w1 w2 := Ext.trans (by repeat with_reducible (first | exact Ext.refl _ | refine Ext.alloc ?_ _ | refine Ext.drew ?_ | refine Ext.drewN ?_ _ | refine Ext.setCell ?_ (by first | omega | (simp <;> omega)) _)) E2))
         all_goals
          go_ret
          exact ⟨ret_bool (by rw [HS.out]), X0.trans (X1.trans (X2.trans (by repeat with_reducible (first | exact Ext.refl _ | refine Ext.alloc ?_ _ | refine Ext.drew ?_ | refine Ext.drewN ?_ _ | refine Ext.setCell ?_ (by first | omega | (simp <;> omega)) _))))⟩
       · have hS := hR0.trans (sw_sub_no h17 hx)
         have q3 : ((v.subs.length : Int) == (v.words.length : Int) + (v.texts.length : Int) + (v.subs.length : Int)) = false := by rw [beq_eq_false_iff_ne]; omega
         clear h17 hx
         have HS := Lib.hid hS
         clear hS hR0
         go_wp2_with (first
          | (go_at_call 62; refine (H1.out _).mono ?_; rintro e w1 ⟨rfl, E1⟩; have X1 : Ext wx w1 := Ext.trans (by repeat with_reducible (first | exact Ext.refl _ | refine Ext.alloc ?_ _ | refine Ext.drew ?_ | refine Ext.drewN ?_ _ | refine Ext.setCell ?_ (by first | omega | (simp <;> omega)) _)) E1; replace z2 := X1.of_cell z2; replace x1 := X1.of_cell x1; replace x2 := X1.of_cell x2; replace x3 := X1.of_cell x3))
         all_goals
          go_ret
          exact ⟨ret_bool (by rw [HS.out]), X0.trans (X1.trans (by repeat with_reducible (first | exact Ext.refl _ | refine Ext.alloc ?_ _ | refine Ext.drew ?_ | refine Ext.drewN ?_ _ | refine Ext.setCell ?_ (by first | omega | (simp <;> omega)) _)))⟩
     · have t17 : (f.kind == 17) = false := by rw [beq_eq_false_iff_ne]; exact h17
       by_cases h15 : f.kind = 15
       · have t15 : (f.kind == 15) = true := by rw [beq_iff_eq]; exact h15
         by_cases hx : v.words.length + v.subs.length = 0
         · have hS := hR0.trans (sw_text h15 hx)
           have q3 : ((v.texts.length : Int) == (v.words.length : Int) + (v.texts.length : Int) + (v.subs.length : Int)) = true := by rw [beq_iff_eq]; omega
           have hc := fun (W : World) (E : Ext wx W) => hasText (w := W) (p := fun t => !rightT t.data.toList) (lb := #[]) Eg.out.2.2 (Hv.out.own.texts.up (X0.trans E)) (by omega) (fun W' t ht hE => tFits3 ht.2)
           generalize (v.texts.any fun t => !rightT t.data.toList) = R at *
           have Hc := Lib.hid hc
           clear hc h17 h15 hx
           have HS := Lib.hid hS
           clear hS hR0
           go_wp2_with (first
            | (go_at_call 62; refine (H1.out _).mono ?_; rintro e w1 ⟨rfl, E1⟩; have X1 : Ext wx w1 := Ext.trans (by repeat with_reducible (first | exact Ext.refl _ | refine Ext.alloc ?_ _ | refine Ext.drew ?_ | refine Ext.drewN ?_ _ | refine Ext.setCell ?_ (by first | omega | (simp <;> omega)) _)) E1; replace z2 := X1.of_cell z2; replace x1 := X1.of_cell x1; replace x2 := X1.of_cell x2; replace x3 := X1.of_cell x3)
            | (go_at_call 118; refine (Hc.out _ (X1.trans (by repeat with_reducible (first | exact Ext.refl _ | refine Ext.alloc ?_ _ | refine Ext.drew ?_ | refine Ext.drewN ?_ _ | refine Ext.setCell ?_ (by first | omega | (simp <;> omega)) _)))).mono ?_; rintro e w2 ⟨rfl, E2⟩; have X2 : Ext w1 w2 := Ext.trans (by repeat with_reducible (first | exact Ext.refl _ | refine Ext.alloc ?_ _ | refine Ext.drew ?_ | refine Ext.drewN ?_ _ | refine Ext.setCell ?_ (by first | omega | (simp <;> omega)) _)) E2))
           all_goals
            go_ret
            exact ⟨ret_bool (by rw [HS.out]), X0.trans (X1.trans (X2.trans (by repeat with_reducible (first | exact Ext.refl _ | refine Ext.alloc ?_ _ | refine Ext.drew ?_ | refine Ext.drewN ?_ _ | refine Ext.setCell ?_ (by first | omega | (simp <;> omega)) _))))⟩
         · have hS := hR0.trans (sw_text_no h15 hx)
           have q3 : ((v.texts.length : Int) == (v.words.length : Int) + (v.texts.length : Int) + (v.subs.length : Int)) = false := by rw [beq_eq_false_iff_ne]; omega
           clear h17 h15 hx
           have HS := Lib.hid hS
           clear hS hR0
           go_wp2_with (first
            | (go_at_call 62; refine (H1.out _).mono ?_; rintro e w1 ⟨rfl, E1⟩; have X1 : Ext wx w1 := Ext.trans (by repeat with_reducible (first | exact Ext.refl _ | refine Ext.alloc ?_ _ | refine Ext.drew ?_ | refine Ext.drewN ?_ _ | refine Ext.setCell ?_ (by first | omega | (simp <;> omega)) _)) E1; replace z2 := X1.of_cell z2; replace x1 := X1.of_cell x1; replace x2 := X1.of_cell x2; replace x3 := X1.of_cell x3))
           all_goals
            go_ret
            exact ⟨ret_bool (by rw [HS.out]), X0.trans (X1.trans (by repeat with_reducible (first | exact Ext.refl _ | refine Ext.alloc ?_ _ | refine Ext.drew ?_ | refine Ext.drewN ?_ _ | refine Ext.setCell ?_ (by first | omega | (simp <;> omega)) _)))⟩
       · have t15 : (f.kind == 15) = false := by rw [beq_eq_false_iff_ne]; exact h15
         by_cases h16 : f.kind = 16
         · have t16 : (f.kind == 16) = true := by rw [beq_iff_eq]; exact h16
           have hS := hR0.trans (sw_bytes h16)
           clear h17 h15 h16
           by_cases hx : v.words.length + v.subs.length = 0
           · have q3 : ((v.texts.length : Int) == (v.words.length : Int) + (v.texts.length : Int) + (v.subs.length : Int)) = true := by rw [beq_iff_eq]; omega
             rw [decide_eq_true hx] at hS
             clear hx
             have HS := Lib.hid hS
             clear hS hR0
             go_wp2_with (first
              | (go_at_call 62; refine (H1.out _).mono ?_; rintro e w1 ⟨rfl, E1⟩; have X1 : Ext wx w1 := Ext.trans (by repeat with_reducible (first | exact Ext.refl _ | refine Ext.alloc ?_ _ | refine Ext.drew ?_ | refine Ext.drewN ?_ _ | refine Ext.setCell ?_ (by first | omega | (simp <;> omega)) _)) E1; replace z2 := X1.of_cell z2; replace x1 := X1.of_cell x1; replace x2 := X1.of_cell x2; replace x3 := X1.of_cell x3))
             all_goals
              go_ret
              exact ⟨ret_bool (by rw [HS.out]), X0.trans (X1.trans (by repeat with_reducible (first | exact Ext.refl _ | refine Ext.alloc ?_ _ | refine Ext.drew ?_ | refine Ext.drewN ?_ _ | refine Ext.setCell ?_ (by first | omega | (simp <;> omega)) _)))⟩
           · have q3 : ((v.texts.length : Int) == (v.words.length : Int) + (v.texts.length : Int) + (v.subs.length : Int)) = false := by rw [beq_eq_false_iff_ne]; omega
             rw [decide_eq_false hx] at hS
             clear hx
             have HS := Lib.hid hS
             clear hS hR0
             go_wp2_with (first
              | (go_at_call 62; refine (H1.out _).mono ?_; rintro e w1 ⟨rfl, E1⟩; have X1 : Ext wx w1 := Ext.trans (by repeat with_reducible (first | exact Ext.refl _ | refine Ext.alloc ?_ _ | refine Ext.drew ?_ | refine Ext.drewN ?_ _ | refine Ext.setCell ?_ (by first | omega | (simp <;> omega)) _)) E1; replace z2 := X1.of_cell z2; replace x1 := X1.of_cell x1; replace x2 := X1.of_cell x2; replace x3 := X1.of_cell x3))
             all_goals
              go_ret
              exact ⟨ret_bool (by rw [HS.out]), X0.trans (X1.trans (by repeat with_reducible (first | exact Ext.refl _ | refine Ext.alloc ?_ _ | refine Ext.drew ?_ | refine Ext.drewN ?_ _ | refine Ext.setCell ?_ (by first | omega | (simp <;> omega)) _)))⟩
         · have t16 : (f.kind == 16) = false := by rw [beq_eq_false_iff_ne]; exact h16
           have hS := hR0.trans (sw_none Hn.out h17 h15 h16)
           clear h17 h15 h16
           have HS := Lib.hid hS
           clear hS hR0
           go_wp2_with (first
            | (go_at_call 62; refine (H1.out _).mono ?_; rintro e w1 ⟨rfl, E1⟩; have X1 : Ext wx w1 := Ext.trans (by repeat with_reducible (first | exact Ext.refl _ | refine Ext.alloc ?_ _ | refine Ext.drew ?_ | refine Ext.drewN ?_ _ | refine Ext.setCell ?_ (by first | omega | (simp <;> omega)) _)) E1; replace z2 := X1.of_cell z2; replace x1 := X1.of_cell x1; replace x2 := X1.of_cell x2; replace x3 := X1.of_cell x3))
           all_goals
            go_ret
            exact ⟨ret_bool (by rw [HS.out]), X0.trans (X1.trans (by repeat with_reducible (first | exact Ext.refl _ | refine Ext.alloc ?_ _ | refine Ext.drew ?_ | refine Ext.drewN ?_ _ | refine Ext.setCell ?_ (by first | omega | (simp <;> omega)) _)))⟩
   · have H0 := HN.out
     rw [hn] at H0
     have H1 := Lib.hid H0
     clear H0
     by_cases hx : v.texts.length + v.subs.length = 0
     · have hS := hR0.trans (sw_number hn hx)
       have q3 : ((v.words.length : Int) == (v.words.length : Int) + (v.texts.length : Int) + (v.subs.length : Int)) = true := by rw [beq_iff_eq]; omega
       have hc := fun (W : World) (E : Ext wx W) => hasWord (w := W) (p := fun x => decide (canonN f.kind x ≠ x)) (lb := #[.pointer (some ⟨w.heap.size, 0, none⟩)]) Eg.out.1 (Hv.out.own.words.ext (X0.trans E)) Hv.out.own.small (by omega) (fun W' x hx hE => tFits1 hn hx ((E.trans hE).of_cell z2))
       generalize (v.words.any fun x => decide (canonN f.kind x ≠ x)) = R at *
       have Hc := Lib.hid hc
       clear hc hn hx
       have HS := Lib.hid hS
       clear hS hR0
       go_wp2_with (first
        | (go_at_call 62; refine (H1.out _).mono ?_; rintro e w1 ⟨rfl, E1⟩; have X1 : Ext wx w1 := Ext.trans (by repeat with_reducible (first | exact Ext.refl _ | refine Ext.alloc ?_ _ | refine Ext.drew ?_ | refine Ext.drewN ?_ _ | refine Ext.setCell ?_ (by first | omega | (simp <;> omega)) _)) E1; replace z2 := X1.of_cell z2; replace x1 := X1.of_cell x1; replace x2 := X1.of_cell x2; replace x3 := X1.of_cell x3)
        | (go_at_call 112; refine (Hc.out _ (X1.trans (by repeat with_reducible (first | exact Ext.refl _ | refine Ext.alloc ?_ _ | refine Ext.drew ?_ | refine Ext.drewN ?_ _ | refine Ext.setCell ?_ (by first | omega | (simp <;> omega)) _)))).mono ?_; rintro e w2 ⟨rfl, E2⟩; have X2 : Ext w1 w2 := Ext.trans (by repeat with_reducible (first | exact Ext.refl _ | refine Ext.alloc ?_ _ | refine Ext.drew ?_ | refine Ext.drewN ?_ _ | refine Ext.setCell ?_ (by first | omega | (simp <;> omega)) _)) E2))
       all_goals
        go_ret
        exact ⟨ret_bool (by rw [HS.out]), X0.trans (X1.trans (X2.trans (by repeat with_reducible (first | exact Ext.refl _ | refine Ext.alloc ?_ _ | refine Ext.drew ?_ | refine Ext.drewN ?_ _ | refine Ext.setCell ?_ (by first | omega | (simp <;> omega)) _))))⟩
     · have hS := hR0.trans (sw_number_no hn hx)
       have q3 : ((v.words.length : Int) == (v.words.length : Int) + (v.texts.length : Int) + (v.subs.length : Int)) = false := by rw [beq_eq_false_iff_ne]; omega
       clear hn hx
       have HS := Lib.hid hS
       clear hS hR0
       go_wp2_with (first
        | (go_at_call 62; refine (H1.out _).mono ?_; rintro e w1 ⟨rfl, E1⟩; have X1 : Ext wx w1 := Ext.trans (by repeat with_reducible (first | exact Ext.refl _ | refine Ext.alloc ?_ _ | refine Ext.drew ?_ | refine Ext.drewN ?_ _ | refine Ext.setCell ?_ (by first | omega | (simp <;> omega)) _)) E1; replace z2 := X1.of_cell z2; replace x1 := X1.of_cell x1; replace x2 := X1.of_cell x2; replace x3 := X1.of_cell x3))
       all_goals
        go_ret
        exact ⟨ret_bool (by rw [HS.out]), X0.trans (X1.trans (by repeat with_reducible (first | exact Ext.refl _ | refine Ext.alloc ?_ _ | refine Ext.drew ?_ | refine Ext.drewN ?_ _ | refine Ext.setCell ?_ (by first | omega | (simp <;> omega)) _)))⟩

set_option maxRecDepth 100000 in
set_option maxHeartbeats 4000000 in
theorem tFits {A : Option Addr} {n c : Nat} {S : List MsgV} {f : FieldD} {v : ValR} {w : World} (hs : SchemaAt w A n c S) (hv : ValAt w v) (hwl : v.words.length ≤ 1000000000000) (htl : v.texts.length ≤ 1000000000000) (hsl : v.subs.length ≤ 1000000000000)
  (hp : ∀ y ∈ v.subs, ∀ W : World, Ext w W → Calls Tryz.prog 117 #[.slice A n c, .int .i64 f.of_, treeV y] W fun e W' => e = .returned (.bool (eqB (RI (S.map MsgV.d) f.of_ (bare y)))) ∧ Ext W W') :
  Calls Tryz.prog 59 #[fieldV f, .slice A n c, tvalV v] w fun e w' => e = .returned (.bool (eqB (FitP (S.map MsgV.d) f (bareV v)))) ∧ Ext w w' := by
 have wcap := hv.own.words.cap
 have tcap := hv.own.texts.at_.cap
 have scap := hv.own.subs.cap
 have wmax := hv.own.words.max
 have tmax := hv.own.texts.at_.max
 have smax := hv.own.subs.max
 unfold maxLen at wmax tmax smax
 have hMB : manyU (bareV v) = v.words.length + v.texts.length + v.subs.length := by unfold manyU bareV; simp
 unfold fieldV tvalV
 by_cases h0 : v.words.length + v.texts.length + v.subs.length = 0
 · have q0 : (((v.words.length : Int) + (v.texts.length : Int) + (v.subs.length : Int)) == 0) = true := by rw [beq_iff_eq]; omega
   have hF : ¬ FitP (S.map MsgV.d) f (bareV v) := fun h => h.1 (by rw [hMB]; exact h0)
   rw [eqB_no hF]
   clear hF hp hMB h0
   go_enter Tryz.func59, Tryz.ntmps59
   go_wp2
   go_ret
   exact ⟨rfl, (by repeat with_reducible (first | exact Ext.refl _ | refine Ext.alloc ?_ _ | refine Ext.drew ?_ | refine Ext.drewN ?_ _ | refine Ext.setCell ?_ (by first | omega | (simp <;> omega)) _))⟩
 · have q0 : (((v.words.length : Int) + (v.texts.length : Int) + (v.subs.length : Int)) == 0) = false := by rw [beq_eq_false_iff_ne]; omega
   by_cases h1 : 1 < v.words.length + v.texts.length + v.subs.length ∧ f.rep = false
   · obtain ⟨h1, hr⟩ := h1
     have hF : ¬ FitP (S.map MsgV.d) f (bareV v) := fun h => by have := h.2.1 hr; rw [hMB] at this; omega
     have t1 : (1 : Int) < (v.words.length : Int) + (v.texts.length : Int) + (v.subs.length : Int) := by omega
     rw [eqB_no hF, hr]
     clear hF hp hMB h0 hr h1
     go_enter Tryz.func59, Tryz.ntmps59
     go_wp2
     go_ret
     exact ⟨rfl, (by repeat with_reducible (first | exact Ext.refl _ | refine Ext.alloc ?_ _ | refine Ext.drew ?_ | refine Ext.drewN ?_ _ | refine Ext.setCell ?_ (by first | omega | (simp <;> omega)) _))⟩
   · have hrN : f.rep = false → v.words.length + v.texts.length + v.subs.length = 1 := fun hr => by
      have : ¬ 1 < v.words.length + v.texts.length + v.subs.length := fun h => h1 ⟨h, hr⟩
      omega
     have hFit : FitP (S.map MsgV.d) f (bareV v) ↔ SwP (S.map MsgV.d) f v := by
      unfold FitP SwP
      rw [hMB]
      have hb : (bareV v).subs = v.subs.map bare := rfl
      have hb1 : (bareV v).words = v.words := rfl
      have hb2 : (bareV v).texts = v.texts := rfl
      rw [hb, hb1, hb2, List.map_eq_nil_iff]
      simp only [List.forall_mem_map]
      exact ⟨fun h => h.2.2, fun h => ⟨h0, hrN, h⟩⟩
     rw [eqB_congr hFit]
     exact tFitsS hs hv hwl htl hsl h0 h1 hp

end Go.Proofs.YtnnphodgegcddaaGreat
