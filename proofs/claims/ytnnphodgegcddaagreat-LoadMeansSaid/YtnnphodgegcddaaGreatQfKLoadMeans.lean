/- The chapter's example of layer 20. -/
import Derived.Test.YtnnphodgegcddaaGreatQfW38
import Derived.Test.YtnnphodgegcddaaGreatQfW47
import Derived.Test.YtnnphodgegcddaaGreatQfW14w
import Derived.Test.YtnnphodgegcddaaGreatQfW14s
import Derived.Test.YtnnphodgegcddaaGreatQfKSchemaChecks

namespace Go.Proofs.YtnnphodgegcddaaGreat
open Go.RowKit Go.Shelf
set_option linter.unusedVariables false

theorem lValue_plain {SA B : Option Addr} {sn sc m k : Nat} {S : List MsgV} {f : FieldD} {d : Int} {bs : List UInt8} {w : World} (hs : SchemaAt w SA sn sc S) (hb : BytesAt w B m k bs) (hm : m ≤ 1000000000) (h0 : codeL (S.map MsgV.d) f bs d = 0) (hr : runL f = false) (hk : numberB f.kind = false) (h17 : f.kind ≠ 17) (hnum : -9223372036854775808 ≤ f.number ∧ f.number < 9223372036854775808) {l : List (List UInt8)} (hl : (itemsL f.rep bs).map (fun x => x.1) = l) :
  Calls Tryz.prog 38 #[.slice SA sn sc, fieldV f, .slice B m k, .int .i64 d] w (ValTold (S.map MsgV.d) ⟨(), (), (), f.number, [], l.map (fun b => (⟨b.toArray⟩ : ByteArray)), []⟩ 0 w) := by
 have h := lValue_texts hs hb hm h0 hr hk h17 hnum
 rw [← hl, List.map_map]
 exact h

theorem load_a : codeL [⟨⟨#[109]⟩, []⟩] ⟨⟨#[]⟩, 1, 15, true, false, 0⟩ [1, 97, 0] 0 = 0 ∧ (itemsL true [1, 97, 0]).map (fun x => x.1) = [[97], []] := by decide +kernel

set_option maxRecDepth 100000 in
set_option maxHeartbeats 4000000 in
theorem alive20 (w : World) : Calls Tryz.prog 19 #[] w fun e w' => e = .returned (.bool true) ∧ Ext w w' := by
 have hs : SchemaAt (w.alloc (.cells #[.string ⟨#[109]⟩, .slice none 0 0] 82)) (some ⟨w.heap.size, 0, none⟩) 1 1 [⟨⟨⟨#[109]⟩, []⟩, none, 0, 0⟩] := by
  refine ⟨(Own.made (Ext.refl w) 82 2 (cs := msgC ⟨⟨⟨#[109]⟩, []⟩, none, 0, 0⟩) (n := 1) (by simp [maxLen]) rfl).reads, fun m hm => ?_⟩
  simp only [List.mem_singleton] at hm
  subst hm
  exact ⟨⟨reads_nil _ _, fun g hg => by cases hg⟩, by simp; decide⟩
 have hv := fun (W : World) (A B : Option Addr) (h : SchemaAt W A 1 1 [⟨⟨⟨#[109]⟩, []⟩, none, 0, 0⟩]) (hb : BytesAt W B 3 3 [1, 97, 0]) => lValue_plain (f := ⟨⟨#[]⟩, 1, 15, true, false, 0⟩) (d := 0) h hb (by omega) load_a.1 (by decide) (by decide) (by decide) ⟨by decide, by decide⟩ load_a.2
 have Hs := Lib.hid hs
 have Hv := Lib.hid hv
 clear hs hv
 go_enter Tryz.func19, Tryz.ntmps19
 go_wp2_with fail
 refine (Hv.out _ _ _ (Hs.out.up (by repeat with_reducible (first | exact Ext.refl _ | refine Ext.alloc ?_ _ | refine Ext.drew ?_ | refine Ext.drewN ?_ _ | refine Ext.setCell ?_ (by first | omega | (simp <;> omega)) _))) (bytes_lit _ _ _ [1, 97, 0] 3 (by simp) (by simp [bv]) rfl (by simp [maxLen]))).mono ?_
 rintro e w1 ⟨y, rfl, hy, hat, hu, E1⟩
 obtain ⟨ya, ⟨yb1, yb2⟩, yc, yn, yw, yt, ys⟩ := y
 obtain rfl : yn = 1 := congrArg ValG.number hy
 obtain rfl : yw = [] := congrArg ValG.words hy
 obtain rfl : yt = [⟨#[97]⟩, ⟨#[]⟩] := congrArg ValG.texts hy
 obtain rfl : ys = [] := by
  have := congrArg ValG.subs hy
  exact List.map_eq_nil_iff.1 this
 obtain ⟨b, off, t0, hA, ht0, hb, _, c0⟩ := hat.own.texts.text (k := 0) (by simp)
 obtain ⟨b', off', t1, hA', ht1, hb', _, c1⟩ := hat.own.texts.text (k := 1) (by simp)
 have hA1 : yb1 = some ⟨b, off, none⟩ := hA
 have hA2 : yb1 = some ⟨b', off', none⟩ := hA'
 rw [hA1] at hA2
 cases hA2
 subst hA1
 simp only [List.getElem?_cons_zero, List.getElem?_cons_succ, Option.some.injEq] at ht0 ht1
 subst ht0 ht1
 rw [Nat.add_zero] at c0
 have X1 : Ext w w1 := Ext.trans (by repeat with_reducible (first | exact Ext.refl _ | refine Ext.alloc ?_ _ | refine Ext.drew ?_ | refine Ext.drewN ?_ _ | refine Ext.setCell ?_ (by first | omega | (simp <;> omega)) _)) E1
 clear hy hat hu hA hA' Hs Hv
 unfold tvalV
 go_wp2
 go_ret
 exact ⟨rfl, Ext.trans X1 (by repeat with_reducible (first | exact Ext.refl _ | refine Ext.alloc ?_ _ | refine Ext.drew ?_ | refine Ext.drewN ?_ _ | refine Ext.setCell ?_ (by first | omega | (simp <;> omega)) _))⟩

end Go.Proofs.YtnnphodgegcddaaGreat

/- The walk of the law LoadMeans, out of its callees' contracts. (Printed by gen_kloadmeans.py.) -/





namespace Go.Proofs.YtnnphodgegcddaaGreat
open Go.RowKit Go.Shelf
set_option linter.unusedVariables false


theorem itemsF_codes2 : ∀ (f : Nat) (bs : List UInt8), ∀ x ∈ itemsF f bs, x.2 ≤ 4
 | 0, bs, x, h => by simp [itemsF] at h
 | f + 1, bs, x, h => by
   unfold itemsF at h
   split at h
   · cases h
   · split at h
     · rcases List.mem_cons.1 h with rfl | h
       · exact Nat.zero_le _
       · exact itemsF_codes2 f _ x h
     · simp only [List.mem_singleton] at h
       subst h
       rcases itemN_bd bs with h | h
       · exact absurd h.1 ‹_›
       · exact h.2

theorem firstL_le2 {g : List UInt8 → Nat} {K : Nat} (hg : ∀ b, g b ≤ K) : ∀ {l : List (List UInt8 × Nat)}, (∀ x ∈ l, x.2 ≤ K) → firstL g l ≤ K
 | [], _ => Nat.zero_le _
 | x :: l, h => by
   unfold firstL
   split
   · exact h x List.mem_cons_self
   · split
     · exact hg _
     · exact firstL_le2 hg (fun y hy => h y (List.mem_cons_of_mem _ hy))

theorem codeL_le2 (S : List MsgD) (f : FieldD) (bs : List UInt8) (d : Int) : codeL S f bs d ≤ 255 := by
 unfold codeL
 split
 · unfold argsL
   repeat' split
   all_goals decide
 · split
   · have := codeV_le' f.kind bs
     omega
   · refine firstL_le2 (fun b => ?_) (fun x hx => ?_)
     · unfold oneL
       split
       · rename_i hk
         rw [sRead_0 hk b]
         split <;> omega
       · split
         · split <;> omega
         · split
           · have := checkB_le S f.of_ b d
             omega
           · omega
     · unfold itemsL at hx
       split at hx
       · have := itemsF_codes2 _ _ x hx
         omega
       · simp only [List.mem_singleton] at hx
         subst hx
         exact Nat.zero_le _


set_option maxRecDepth 100000 in
set_option maxHeartbeats 4000000 in
theorem loadMeans_off1 {A : Option Addr} {n c : Nat} {S : List MsgV} {B : Option Addr} {n3 c3 : Nat} {bs : List UInt8} {d : Int} {w : World} (hs : SchemaAt w A n c S) {root at_ : Int} (g1 : (n : Int) ≤ 140737488351232) (g3 : (n3 : Int) ≤ 140737488351232) (h1 : (1000 : Int) < n3) :
  Calls Tryz.prog 7 #[.slice A n c, .int .i64 root, .int .i64 at_, .slice B n3 c3, .int .i64 d] w fun e w' => e = .returned (.bool true) ∧ Ext w w' := by
 have hX := Ext.refl w
 go_enter Tryz.func7, Tryz.ntmps7
 go_wp2_with (first
  | (go_at_call 19; refine (alive20 _).mono ?_; rintro e w1 ⟨rfl, E1⟩; have X_ : Ext w w1 := Ext.trans (by repeat with_reducible (first | exact Ext.refl _ | refine Ext.alloc ?_ _ | refine Ext.drew ?_ | refine Ext.drewN ?_ _ | refine Ext.setCell ?_ (by first | omega | (simp <;> omega)) _)) E1; replace hX := hX.up X_; replace hs := hs.up X_; clear X_)
  | (go_at_call 10; refine (few07 hs).mono ?_; rintro e w2 ⟨x, rfl, E2⟩; have X_ : Ext w1 w2 := Ext.trans (by repeat with_reducible (first | exact Ext.refl _ | refine Ext.alloc ?_ _ | refine Ext.drew ?_ | refine Ext.drewN ?_ _ | refine Ext.setCell ?_ (by first | omega | (simp <;> omega)) _)) E2; replace hX := hX.up X_; replace hs := hs.up X_; clear X_))
 all_goals
  go_ret
  exact ⟨rfl, hX⟩


set_option maxRecDepth 100000 in
set_option maxHeartbeats 4000000 in
theorem loadMeans_off2 {A : Option Addr} {n c : Nat} {S : List MsgV} {B : Option Addr} {n3 c3 : Nat} {bs : List UInt8} {d : Int} {w : World} (hs : SchemaAt w A n c S) {root at_ : Int} (g1 : (n : Int) ≤ 140737488351232) (g3 : (n3 : Int) ≤ 140737488351232) (h1 : ¬ (1000 : Int) < n3) (h2 : root < 0) :
  Calls Tryz.prog 7 #[.slice A n c, .int .i64 root, .int .i64 at_, .slice B n3 c3, .int .i64 d] w fun e w' => e = .returned (.bool true) ∧ Ext w w' := by
 have hX := Ext.refl w
 go_enter Tryz.func7, Tryz.ntmps7
 go_wp2_with (first
  | (go_at_call 19; refine (alive20 _).mono ?_; rintro e w1 ⟨rfl, E1⟩; have X_ : Ext w w1 := Ext.trans (by repeat with_reducible (first | exact Ext.refl _ | refine Ext.alloc ?_ _ | refine Ext.drew ?_ | refine Ext.drewN ?_ _ | refine Ext.setCell ?_ (by first | omega | (simp <;> omega)) _)) E1; replace hX := hX.up X_; replace hs := hs.up X_; clear X_)
  | (go_at_call 10; refine (few07 hs).mono ?_; rintro e w2 ⟨x, rfl, E2⟩; have X_ : Ext w1 w2 := Ext.trans (by repeat with_reducible (first | exact Ext.refl _ | refine Ext.alloc ?_ _ | refine Ext.drew ?_ | refine Ext.drewN ?_ _ | refine Ext.setCell ?_ (by first | omega | (simp <;> omega)) _)) E2; replace hX := hX.up X_; replace hs := hs.up X_; clear X_))
 all_goals
  go_ret
  exact ⟨rfl, hX⟩


set_option maxRecDepth 100000 in
set_option maxHeartbeats 4000000 in
theorem loadMeans_off3 {A : Option Addr} {n c : Nat} {S : List MsgV} {B : Option Addr} {n3 c3 : Nat} {bs : List UInt8} {d : Int} {w : World} (hs : SchemaAt w A n c S) {root at_ : Int} (g1 : (n : Int) ≤ 140737488351232) (g3 : (n3 : Int) ≤ 140737488351232) (h1 : ¬ (1000 : Int) < n3) (h2 : ¬ root < 0) (h3 : (n : Int) ≤ root) :
  Calls Tryz.prog 7 #[.slice A n c, .int .i64 root, .int .i64 at_, .slice B n3 c3, .int .i64 d] w fun e w' => e = .returned (.bool true) ∧ Ext w w' := by
 have hX := Ext.refl w
 go_enter Tryz.func7, Tryz.ntmps7
 go_wp2_with (first
  | (go_at_call 19; refine (alive20 _).mono ?_; rintro e w1 ⟨rfl, E1⟩; have X_ : Ext w w1 := Ext.trans (by repeat with_reducible (first | exact Ext.refl _ | refine Ext.alloc ?_ _ | refine Ext.drew ?_ | refine Ext.drewN ?_ _ | refine Ext.setCell ?_ (by first | omega | (simp <;> omega)) _)) E1; replace hX := hX.up X_; replace hs := hs.up X_; clear X_)
  | (go_at_call 10; refine (few07 hs).mono ?_; rintro e w2 ⟨x, rfl, E2⟩; have X_ : Ext w1 w2 := Ext.trans (by repeat with_reducible (first | exact Ext.refl _ | refine Ext.alloc ?_ _ | refine Ext.drew ?_ | refine Ext.drewN ?_ _ | refine Ext.setCell ?_ (by first | omega | (simp <;> omega)) _)) E2; replace hX := hX.up X_; replace hs := hs.up X_; clear X_))
 all_goals
  go_ret
  exact ⟨rfl, hX⟩


set_option maxRecDepth 100000 in
set_option maxHeartbeats 4000000 in
theorem loadMeans_off4 {A : Option Addr} {n c : Nat} {S : List MsgV} {B : Option Addr} {n3 c3 : Nat} {bs : List UInt8} {d : Int} {w : World} (hs : SchemaAt w A n c S) {m : Nat} {at_ : Int} (g1 : (n : Int) ≤ 140737488351232) (g3 : (n3 : Int) ≤ 140737488351232) (h1 : ¬ (1000 : Int) < n3) (hm : m < n) (h4 : at_ < 0) :
  Calls Tryz.prog 7 #[.slice A n c, .int .i64 (m : Int), .int .i64 at_, .slice B n3 c3, .int .i64 d] w fun e w' => e = .returned (.bool true) ∧ Ext w w' := by
 have h2 : ¬ (m : Int) < 0 := by omega
 have h3 : ¬ (n : Int) ≤ m := by omega
 have hX := Ext.refl w
 go_enter Tryz.func7, Tryz.ntmps7
 go_wp2_with (first
  | (go_at_call 19; refine (alive20 _).mono ?_; rintro e w1 ⟨rfl, E1⟩; have X_ : Ext w w1 := Ext.trans (by repeat with_reducible (first | exact Ext.refl _ | refine Ext.alloc ?_ _ | refine Ext.drew ?_ | refine Ext.drewN ?_ _ | refine Ext.setCell ?_ (by first | omega | (simp <;> omega)) _)) E1; replace hX := hX.up X_; replace hs := hs.up X_; clear X_)
  | (go_at_call 10; refine (few07 hs).mono ?_; rintro e w2 ⟨x, rfl, E2⟩; have X_ : Ext w1 w2 := Ext.trans (by repeat with_reducible (first | exact Ext.refl _ | refine Ext.alloc ?_ _ | refine Ext.drew ?_ | refine Ext.drewN ?_ _ | refine Ext.setCell ?_ (by first | omega | (simp <;> omega)) _)) E2; replace hX := hX.up X_; replace hs := hs.up X_; clear X_))
 all_goals
  go_ret
  exact ⟨rfl, hX⟩


set_option maxRecDepth 100000 in
set_option maxHeartbeats 4000000 in
theorem loadMeans_off5 {A : Option Addr} {n c : Nat} {S : List MsgV} {B : Option Addr} {n3 c3 : Nat} {bs : List UInt8} {d : Int} {w : World} (hs : SchemaAt w A n c S) {m p : Nat} {M : MsgV} (g1 : (n : Int) ≤ 140737488351232) (g3 : (n3 : Int) ≤ 140737488351232) (h1 : ¬ (1000 : Int) < n3) (hm : m < n) (hM : S[m]? = some M) (h5 : M.n ≤ p) :
  Calls Tryz.prog 7 #[.slice A n c, .int .i64 (m : Int), .int .i64 (p : Int), .slice B n3 c3, .int .i64 d] w fun e w' => e = .returned (.bool true) ∧ Ext w w' := by
 have h2 : ¬ (m : Int) < 0 := by omega
 have h3 : ¬ (n : Int) ≤ m := by omega
 have h3' : (m : Int) < n := by omega
 have h4 : ¬ (p : Int) < 0 := by omega
 have h5I : (M.n : Int) ≤ p := by omega
 obtain ⟨b1, o1, M', hA, hM', hf, _, l1, d0, d1⟩ := hs.msg hm
 rw [hM] at hM'
 cases hM'
 subst hA
 have hX := Ext.refl w
 go_enter Tryz.func7, Tryz.ntmps7
 go_wp2_with (first
  | (go_at_call 19; refine (alive20 _).mono ?_; rintro e w1 ⟨rfl, E1⟩; have X_ : Ext w w1 := Ext.trans (by repeat with_reducible (first | exact Ext.refl _ | refine Ext.alloc ?_ _ | refine Ext.drew ?_ | refine Ext.drewN ?_ _ | refine Ext.setCell ?_ (by first | omega | (simp <;> omega)) _)) E1; replace hX := hX.up X_; replace hs := hs.up X_; replace d0 := X_.of_cell d0; replace d1 := X_.of_cell d1; clear X_)
  | (go_at_call 10; refine (few07 hs).mono ?_; rintro e w2 ⟨x, rfl, E2⟩; have X_ : Ext w1 w2 := Ext.trans (by repeat with_reducible (first | exact Ext.refl _ | refine Ext.alloc ?_ _ | refine Ext.drew ?_ | refine Ext.drewN ?_ _ | refine Ext.setCell ?_ (by first | omega | (simp <;> omega)) _)) E2; replace hX := hX.up X_; replace hs := hs.up X_; replace d0 := X_.of_cell d0; replace d1 := X_.of_cell d1; clear X_))
 all_goals
  go_ret
  exact ⟨rfl, hX⟩


set_option maxRecDepth 100000 in
set_option maxHeartbeats 4000000 in
theorem loadMeans_off6 {A : Option Addr} {n c : Nat} {S : List MsgV} {B : Option Addr} {n3 c3 : Nat} {bs : List UInt8} {d : Int} {w : World} (hs : SchemaAt w A n c S) {m p : Nat} {M : MsgV} (g1 : (n : Int) ≤ 140737488351232) (g3 : (n3 : Int) ≤ 140737488351232) (h1 : ¬ (1000 : Int) < n3) (hm : m < n) (hM : S[m]? = some M) (hp : p < M.n) (h6 : (64 : Int) ≤ d) :
  Calls Tryz.prog 7 #[.slice A n c, .int .i64 (m : Int), .int .i64 (p : Int), .slice B n3 c3, .int .i64 d] w fun e w' => e = .returned (.bool true) ∧ Ext w w' := by
 have h2 : ¬ (m : Int) < 0 := by omega
 have h3 : ¬ (n : Int) ≤ m := by omega
 have h3' : (m : Int) < n := by omega
 have h4 : ¬ (p : Int) < 0 := by omega
 have h5 : ¬ (M.n : Int) ≤ p := by omega
 have h5' : (p : Int) < M.n := by omega
 obtain ⟨b1, o1, M', hA, hM', hf, _, l1, d0, d1⟩ := hs.msg hm
 rw [hM] at hM'
 cases hM'
 subst hA
 have hX := Ext.refl w
 go_enter Tryz.func7, Tryz.ntmps7
 go_wp2_with (first
  | (go_at_call 19; refine (alive20 _).mono ?_; rintro e w1 ⟨rfl, E1⟩; have X_ : Ext w w1 := Ext.trans (by repeat with_reducible (first | exact Ext.refl _ | refine Ext.alloc ?_ _ | refine Ext.drew ?_ | refine Ext.drewN ?_ _ | refine Ext.setCell ?_ (by first | omega | (simp <;> omega)) _)) E1; replace hX := hX.up X_; replace hs := hs.up X_; replace d0 := X_.of_cell d0; replace d1 := X_.of_cell d1; clear X_)
  | (go_at_call 10; refine (few07 hs).mono ?_; rintro e w2 ⟨x, rfl, E2⟩; have X_ : Ext w1 w2 := Ext.trans (by repeat with_reducible (first | exact Ext.refl _ | refine Ext.alloc ?_ _ | refine Ext.drew ?_ | refine Ext.drewN ?_ _ | refine Ext.setCell ?_ (by first | omega | (simp <;> omega)) _)) E2; replace hX := hX.up X_; replace hs := hs.up X_; replace d0 := X_.of_cell d0; replace d1 := X_.of_cell d1; clear X_))
 all_goals
  go_ret
  exact ⟨rfl, hX⟩


set_option maxRecDepth 100000 in
set_option maxHeartbeats 4000000 in
theorem loadMeans_bad {A : Option Addr} {n c : Nat} {S : List MsgV} {B : Option Addr} {n3 c3 : Nat} {bs : List UInt8} {d : Int} {w : World} (hs : SchemaAt w A n c S) {m p : Nat} {M : MsgV} {f : FieldD} (g1 : (n : Int) ≤ 140737488351232) (hb : BytesAt w B n3 c3 bs) (hl : n3 ≤ 1000) (hm : m < n) (hM : S[m]? = some M) (hp : p < M.n) (hfx : M.d.fields[p]? = some f) (h6 : ¬ (64 : Int) ≤ d) (hd : -9223372036854775808 ≤ d) (hc : codeL (S.map MsgV.d) f bs d ≠ 0) :
  Calls Tryz.prog 7 #[.slice A n c, .int .i64 (m : Int), .int .i64 (p : Int), .slice B n3 c3, .int .i64 d] w fun e w' => e = .returned (.bool true) ∧ Ext w w' := by
 have c1 := fun W (h : SchemaAt W A n c S) (q : BytesAt W B n3 c3 bs) => lValue (f := f) (d := d) h q (by omega)
 have c2 := fun W (h : SchemaAt W A n c S) (q : BytesAt W B n3 c3 bs) => lCheck (f := f) (d := d) h q (by omega)
 have hle := codeL_le2 (S.map MsgV.d) f bs d
 generalize codeL (S.map MsgV.d) f bs d = K at *
 unfold ValTold at c1
 unfold fieldV tvalV at *
 have hK : (((K : Nat) : Int) != 0) = true := by rw [bne_iff_ne]; omega
 have hKK : (((K : Nat) : Int) == (K : Int)) = true := by simp
 have hKI : ¬ ((K : Int) = 0) := by omega
 have h2 : ¬ (m : Int) < 0 := by omega
 have h3 : ¬ (n : Int) ≤ m := by omega
 have h3' : (m : Int) < n := by omega
 have h4 : ¬ (p : Int) < 0 := by omega
 have h5 : ¬ (M.n : Int) ≤ p := by omega
 have h5' : (p : Int) < M.n := by omega
 obtain ⟨b1, o1, M', hA, hM', hf, _, l1, d0, d1⟩ := hs.msg hm
 rw [hM] at hM'
 cases hM'
 subst hA
 obtain ⟨b8, o8, f', hA8, hff, _, l8, g0, g1f, g2, g3f, g4, g5⟩ := hf.field hp
 rw [hfx] at hff
 cases hff
 obtain ⟨md, mA, mn, mc⟩ := M
 simp only at hA8 d1 h5 h5' hp hfx
 subst hA8
 have hX := Ext.refl w
 have C1 := Lib.hid c1
 have C2 := Lib.hid c2
 clear c1 c2 hM hfx
 have h1 : ¬ (1000 : Int) < n3 := by omega
 go_enter Tryz.func7, Tryz.ntmps7
 go_wp2_with (first
  | (go_at_call 19; refine (alive20 _).mono ?_; rintro e w1 ⟨rfl, E1⟩; have X_ : Ext w w1 := Ext.trans (by repeat with_reducible (first | exact Ext.refl _ | refine Ext.alloc ?_ _ | refine Ext.drew ?_ | refine Ext.drewN ?_ _ | refine Ext.setCell ?_ (by first | omega | (simp <;> omega)) _)) E1; replace hX := hX.up X_; replace hs := hs.up X_; replace hb := hb.up X_; replace d0 := X_.of_cell d0; replace d1 := X_.of_cell d1; replace g0 := X_.of_cell g0; replace g1f := X_.of_cell g1f; replace g2 := X_.of_cell g2; replace g3f := X_.of_cell g3f; replace g4 := X_.of_cell g4; replace g5 := X_.of_cell g5; clear X_)
  | (go_at_call 10; refine (few07 hs).mono ?_; rintro e w2 ⟨x, rfl, E2⟩; have X_ : Ext w1 w2 := Ext.trans (by repeat with_reducible (first | exact Ext.refl _ | refine Ext.alloc ?_ _ | refine Ext.drew ?_ | refine Ext.drewN ?_ _ | refine Ext.setCell ?_ (by first | omega | (simp <;> omega)) _)) E2; replace hX := hX.up X_; replace hs := hs.up X_; replace hb := hb.up X_; replace d0 := X_.of_cell d0; replace d1 := X_.of_cell d1; replace g0 := X_.of_cell g0; replace g1f := X_.of_cell g1f; replace g2 := X_.of_cell g2; replace g3f := X_.of_cell g3f; replace g4 := X_.of_cell g4; replace g5 := X_.of_cell g5; clear X_)
  | (go_at_call 38; (with_reducible refine (C1.out _ (hs.up (by repeat with_reducible (first | exact Ext.refl _ | refine Ext.alloc ?_ _ | refine Ext.drew ?_ | refine Ext.drewN ?_ _ | refine Ext.setCell ?_ (by first | omega | (simp <;> omega)) _))) (hb.up (by repeat with_reducible (first | exact Ext.refl _ | refine Ext.alloc ?_ _ | refine Ext.drew ?_ | refine Ext.drewN ?_ _ | refine Ext.setCell ?_ (by first | omega | (simp <;> omega)) _)))).mono ?_); rintro e w3 ⟨y, rfl, q1, q2, q3, E3⟩; have X_ : Ext w2 w3 := Ext.trans (by repeat with_reducible (first | exact Ext.refl _ | refine Ext.alloc ?_ _ | refine Ext.drew ?_ | refine Ext.drewN ?_ _ | refine Ext.setCell ?_ (by first | omega | (simp <;> omega)) _)) E3; replace hX := hX.up X_; replace hs := hs.up X_; replace hb := hb.up X_; clear X_; clear q1 q2 q3;  have BF := (BlkT.new w2 48 #[.string f.name, .int .i64 f.number, .int .i64 f.kind, .bool f.rep, .bool f.packed, .int .i64 f.of_] rfl).up E3;  have zf0 : w3.cell? ⟨w2.heap.size, 0, none⟩ = some (.string f.name) := BF.cell 0;  have zf1 : w3.cell? ⟨w2.heap.size, 1, none⟩ = some (.int .i64 f.number) := BF.cell 1;  have zf2 : w3.cell? ⟨w2.heap.size, 2, none⟩ = some (.int .i64 f.kind) := BF.cell 2;  have zf3 : w3.cell? ⟨w2.heap.size, 3, none⟩ = some (.bool f.rep) := BF.cell 3;  have zf4 : w3.cell? ⟨w2.heap.size, 4, none⟩ = some (.bool f.packed) := BF.cell 4;  have zf5 : w3.cell? ⟨w2.heap.size, 5, none⟩ = some (.int .i64 f.of_) := BF.cell 5;  have lf := BF.lt)
  | (go_at_call 39; refine (C2.out _ (hs.up (by repeat with_reducible (first | exact Ext.refl _ | refine Ext.alloc ?_ _ | refine Ext.drew ?_ | refine Ext.drewN ?_ _ | refine Ext.setCell ?_ (by first | omega | (simp <;> omega)) _))) (hb.up (by repeat with_reducible (first | exact Ext.refl _ | refine Ext.alloc ?_ _ | refine Ext.drew ?_ | refine Ext.drewN ?_ _ | refine Ext.setCell ?_ (by first | omega | (simp <;> omega)) _)))).mono ?_; rintro e w4 ⟨rfl, E4⟩; have X_ : Ext w3 w4 := Ext.trans (by repeat with_reducible (first | exact Ext.refl _ | refine Ext.alloc ?_ _ | refine Ext.drew ?_ | refine Ext.drewN ?_ _ | refine Ext.setCell ?_ (by first | omega | (simp <;> omega)) _)) E4; replace hX := hX.up X_; clear X_))
 all_goals
  go_ret
  exact ⟨rfl, hX⟩

theorem bare_parts {t : MsgR} {vs : List ValT} {us : List ByteArray} (h : bare t = .mk () () vs us) : t.vals.map bareV = vs ∧ t.unk = us := by
 rw [bare_eq] at h
 injection h with _ _ h1 h2
 exact ⟨h1, h2⟩

theorem load_none {S : List MsgD} {f : FieldD} {bs : List UInt8} {d : Int} (hc : codeL S f bs d = 0) (hm : manyU (valueL S f bs d) = 0) : recordsL f bs = [] := by
 unfold recordsL chunksL
 rcases hr : runL f with _ | _
 · have hi : itemsL f.rep bs = [] := by
    unfold valueL at hm
    rw [if_neg (by rw [hr]; decide)] at hm
    split at hm
    · unfold manyU at hm
      simpa using hm
    · split at hm
      · unfold manyU at hm
        simpa using hm
      · unfold manyU at hm
        simpa using hm
   rw [if_neg (by decide), hi]
   rfl
 · have hv : valsV f.kind bs = [] := by
    unfold valueL at hm
    rw [if_pos hr] at hm
    unfold manyU at hm
    simpa using hm
   have hb : bs = [] := by
    rcases bs with _ | ⟨b, r⟩
    · rfl
    · unfold valsV at hv
      split at hv
      · cases hv
      · rw [List.length_cons] at hv
        unfold valsF at hv
        rw [if_neg (by simp)] at hv
        split at hv <;> cases hv
   rw [if_pos rfl, if_pos hb]
   rfl

theorem one_at {W : World} {k : Nat} {v : ValR} (h : BlkT W k 52 #[.int .i64 v.number, .slice v.a.1 v.words.length v.a.2, .slice v.b.1 v.texts.length v.b.2, .slice v.c.1 v.subs.length v.c.2]) (hv : ValAt W v) : TreeAt W (.mk (some ⟨k, 0, none⟩, 1) (none, 0) [v] []) := by
 refine TreeAt.of ⟨rfl, Nat.le_refl _, by show 1 ≤ maxLen; unfold maxLen; omega, fun _ => ⟨k, 0, rfl, h.lt, fun j u hj => ?_⟩⟩ ⟨⟨rfl, Nat.le_refl _, Nat.zero_le _, fun q => absurd q (Nat.lt_irrefl 0)⟩, fun t ht => by cases ht⟩ (fun u hu => ?_)
 · rw [Nat.zero_add, h.cell]
   have hj : (tvalC v ++ [])[j]? = some u := hj
   rw [List.append_nil] at hj
   simpa [tvalC] using hj
 · rw [List.mem_singleton.1 hu]
   exact hv

set_option maxRecDepth 100000 in
set_option maxHeartbeats 4000000 in
theorem loadMeans_none {A : Option Addr} {n c : Nat} {S : List MsgV} {B : Option Addr} {n3 c3 : Nat} {bs : List UInt8} {d : Int} {w : World} (hs : SchemaAt w A n c S) {m p : Nat} {M : MsgV} {f : FieldD} (g1 : (n : Int) ≤ 140737488351232) (hb : BytesAt w B n3 c3 bs) (hl : n3 ≤ 1000) (hm : m < n) (hM : S[m]? = some M) (hp : p < M.n) (hfx : M.d.fields[p]? = some f) (h6 : ¬ (64 : Int) ≤ d) (hc : codeL (S.map MsgV.d) f bs d = 0) (hmany : manyU (valueL (S.map MsgV.d) f bs d) = 0) :
  Calls Tryz.prog 7 #[.slice A n c, .int .i64 (m : Int), .int .i64 (p : Int), .slice B n3 c3, .int .i64 d] w fun e w' => e = .returned (.bool true) ∧ Ext w w' := by
 have hlen := hb.length
 have h0 := load_args hc
 have hR : rightS (S.map MsgV.d) = true := by
  rcases hR : rightS (S.map MsgV.d) with _ | _
  · rw [argsL_ill hR] at h0
    cases h0
  · rfl
 have hM2 : (S.map MsgV.d)[m]? = some M.d := by rw [List.getElem?_map, hM]; rfl
 have hd0 : 0 ≤ d := by
  have := args_not_bad hR h0
  unfold badL at this
  omega
 obtain ⟨m1, m2⟩ := records_mean hR hM2 hfx hc (by omega)
 have hrl := records_length hR hM2 hfx hc (by omega)
 have hml : m < (S.map MsgV.d).length := (List.getElem?_eq_some_iff.1 hM2).1
 have hchk : (checkB (S.map MsgV.d) (m : Int) (recordsL f bs) (d + 1)).2 = 0 := by
  unfold checkB
  have ha : argsV (S.map MsgV.d) (m : Int) (d + 1) = 0 := by
   unfold argsV
   rw [if_neg (by rw [hR]; decide), if_neg (by omega)]
  rw [if_pos ha]
  have e1 : (d + 1).toNat = d.toNat + 1 := by omega
  rw [e1, Int.toNat_natCast]
  exact m1
 have hOf : OfT (S.map MsgV.d) (m : Int) (recordsL f bs) (d + 1) = .mk () () (if manyU (valueL (S.map MsgV.d) f bs d) = 0 then [] else [valueL (S.map MsgV.d) f bs d]) [] := by
  unfold OfT
  rw [if_pos hchk, Int.toNat_natCast]
  exact m2 _ (Nat.le_refl _)
 have kc1 := fun W (h : SchemaAt W A n c S) (q : BytesAt W B n3 c3 bs) => lValue (f := f) (d := d) h q (by omega)
 have hto : toldL (S.map MsgV.d) f bs d = valueL (S.map MsgV.d) f bs d := if_pos hc
 rw [hto, hc] at kc1
 unfold ValTold at kc1
 have kc2 := fun W (h : SchemaAt W A n c S) (q : BytesAt W B n3 c3 bs) => lRecords (f := f) (d := d) h q hR hM2 hfx hl hc
 have hlw := load_lens (S := S.map MsgV.d) (f := f) (d := d) hR (bs := bs) (by omega)
 rw [if_pos hmany] at hOf
 have hrec := load_none hc hmany
 rw [hrec] at kc2 hchk hOf
 have kc3 : ∀ W (A4 : Option Addr) (c4 : Nat), SchemaAt W A n c S → BytesAt W A4 0 c4 [] → Calls Tryz.prog 13 #[.slice A n c, .int .i64 (m : Int), .slice A4 0 c4, .int .i64 (d + 1)] W fun e w' => ∃ t : MsgR, e = .returned (.tuple #[.agg #[.slice t.a.1 0 t.a.2, .slice t.b.1 0 t.b.2], .int .u8 0]) ∧ Ext W w' := fun W A4 c4 h q => by
  refine (tOfB (root := (m : Int)) (d := d + 1) h q (by omega)).mono ?_
  rintro e w' ⟨t, rfl, t1, t2, _, t4⟩
  rw [hOf] at t1
  rw [hchk]
  obtain ⟨v1, v2⟩ := bare_parts t1
  refine ⟨t, ?_, t4⟩
  unfold treeV
  rw [show t.vals.length = 0 by have := congrArg List.length v1; simpa using this, show t.unk.length = 0 by rw [v2]; rfl]
  rfl
 have kc2' : ∀ W, SchemaAt W A n c S → BytesAt W B n3 c3 bs → Calls Tryz.prog 40 #[.slice A n c, fieldV f, .slice B n3 c3, .int .i64 d] W fun e w' => ∃ A' c2, e = .returned (.tuple #[.slice A' 0 c2, .int .u8 0]) ∧ BytesAt w' A' 0 c2 [] ∧ Ext W w' := fun W h q => by
  refine (kc2 W h q).mono ?_
  rintro e w' ⟨A', n2, c2, rfl, q1, q2, q3⟩
  have q1 : n2 = 0 := q1.out
  subst q1
  exact ⟨A', c2, rfl, q2, q3⟩
 clear kc2
 have hVl : (valueL (S.map MsgV.d) f bs d).words.length = 0 ∧ (valueL (S.map MsgV.d) f bs d).texts.length = 0 ∧ (valueL (S.map MsgV.d) f bs d).subs.length = 0 := by
  unfold manyU at hmany
  omega
 generalize valueL (S.map MsgV.d) f bs d = V at *
 have kc1' : ∀ W, SchemaAt W A n c S → BytesAt W B n3 c3 bs → Calls Tryz.prog 38 #[.slice A n c, fieldV f, .slice B n3 c3, .int .i64 d] W fun e w' => ∃ y : ValR, e = .returned (.tuple #[.agg #[.int .i64 y.number, .slice y.a.1 0 y.a.2, .slice y.b.1 0 y.b.2, .slice y.c.1 0 y.c.2], .int .u8 0]) ∧ Ext W w' := fun W h q => by
  refine (kc1 W h q).mono ?_
  rintro e w' ⟨y, rfl, q1, q2, q3, q4⟩
  refine ⟨y, ?_, q4⟩
  subst q1
  obtain ⟨k1, k2, k3⟩ := hVl
  have k1 : y.words.length = 0 := k1
  have k2 : y.texts.length = 0 := k2
  have k3 : y.subs.length = 0 := by
   have : (y.subs.map bare).length = 0 := k3
   rwa [List.length_map] at this
  unfold tvalV
  rw [k1, k2, k3]
  rfl
 clear kc1
 unfold fieldV at *
 have C1 := Lib.hid kc1'
 have C2 := Lib.hid kc2'
 have C3 := Lib.hid kc3
 have h2 : ¬ (m : Int) < 0 := by omega
 have h3 : ¬ (n : Int) ≤ m := by omega
 have h3' : (m : Int) < n := by omega
 have h4 : ¬ (p : Int) < 0 := by omega
 have h5 : ¬ (M.n : Int) ≤ p := by omega
 have h5' : (p : Int) < M.n := by omega
 obtain ⟨b1, o1, M', hA, hM', hf, _, l1, d0, d1⟩ := hs.msg hm
 rw [hM] at hM'
 cases hM'
 subst hA
 obtain ⟨b8, o8, f', hA8, hff, _, l8, g0, g1f, g2, g3f, g4, g5⟩ := hf.field hp
 rw [hfx] at hff
 cases hff
 obtain ⟨md, mA, mn, mc⟩ := M
 simp only at hA8 d1 h5 h5' hp hfx
 subst hA8
 have hX := Ext.refl w
 clear kc1' kc2' kc3 hM hfx hR hM2 hOf hchk hrec m1 m2 hrl hVl hlw h0 hmany hto
 have h1 : ¬ (1000 : Int) < n3 := by omega
 go_enter Tryz.func7, Tryz.ntmps7
 go_wp2_with (first
  | (go_at_call 19; refine (alive20 _).mono ?_; rintro e w1 ⟨rfl, E1⟩; have X_ : Ext w w1 := Ext.trans (by repeat with_reducible (first | exact Ext.refl _ | refine Ext.alloc ?_ _ | refine Ext.drew ?_ | refine Ext.drewN ?_ _ | refine Ext.setCell ?_ (by first | omega | (simp <;> omega)) _)) E1; replace hX := hX.up X_; replace hs := hs.up X_; replace hb := hb.up X_; replace d0 := X_.of_cell d0; replace d1 := X_.of_cell d1; replace g0 := X_.of_cell g0; replace g1f := X_.of_cell g1f; replace g2 := X_.of_cell g2; replace g3f := X_.of_cell g3f; replace g4 := X_.of_cell g4; replace g5 := X_.of_cell g5; clear X_)
  | (go_at_call 10; refine (few07 hs).mono ?_; rintro e w2 ⟨x, rfl, E2⟩; have X_ : Ext w1 w2 := Ext.trans (by repeat with_reducible (first | exact Ext.refl _ | refine Ext.alloc ?_ _ | refine Ext.drew ?_ | refine Ext.drewN ?_ _ | refine Ext.setCell ?_ (by first | omega | (simp <;> omega)) _)) E2; replace hX := hX.up X_; replace hs := hs.up X_; replace hb := hb.up X_; replace d0 := X_.of_cell d0; replace d1 := X_.of_cell d1; replace g0 := X_.of_cell g0; replace g1f := X_.of_cell g1f; replace g2 := X_.of_cell g2; replace g3f := X_.of_cell g3f; replace g4 := X_.of_cell g4; replace g5 := X_.of_cell g5; clear X_)
  | (go_at_call 38; (with_reducible refine (C1.out _ (hs.up (by repeat with_reducible (first | exact Ext.refl _ | refine Ext.alloc ?_ _ | refine Ext.drew ?_ | refine Ext.drewN ?_ _ | refine Ext.setCell ?_ (by first | omega | (simp <;> omega)) _))) (hb.up (by repeat with_reducible (first | exact Ext.refl _ | refine Ext.alloc ?_ _ | refine Ext.drew ?_ | refine Ext.drewN ?_ _ | refine Ext.setCell ?_ (by first | omega | (simp <;> omega)) _)))).mono ?_); rintro e w3 ⟨y, rfl, E3⟩; have X_ : Ext w2 w3 := Ext.trans (by repeat with_reducible (first | exact Ext.refl _ | refine Ext.alloc ?_ _ | refine Ext.drew ?_ | refine Ext.drewN ?_ _ | refine Ext.setCell ?_ (by first | omega | (simp <;> omega)) _)) E3; replace hX := hX.up X_; replace hs := hs.up X_; replace hb := hb.up X_; clear X_; have BF := (BlkT.new w2 48 #[.string f.name, .int .i64 f.number, .int .i64 f.kind, .bool f.rep, .bool f.packed, .int .i64 f.of_] rfl).up E3;  have zf0 : w3.cell? ⟨w2.heap.size, 0, none⟩ = some (.string f.name) := BF.cell 0;  have zf1 : w3.cell? ⟨w2.heap.size, 1, none⟩ = some (.int .i64 f.number) := BF.cell 1;  have zf2 : w3.cell? ⟨w2.heap.size, 2, none⟩ = some (.int .i64 f.kind) := BF.cell 2;  have zf3 : w3.cell? ⟨w2.heap.size, 3, none⟩ = some (.bool f.rep) := BF.cell 3;  have zf4 : w3.cell? ⟨w2.heap.size, 4, none⟩ = some (.bool f.packed) := BF.cell 4;  have zf5 : w3.cell? ⟨w2.heap.size, 5, none⟩ = some (.int .i64 f.of_) := BF.cell 5;  have lf := BF.lt)
  | (go_at_call 40; refine (C2.out _ (hs.up (by repeat with_reducible (first | exact Ext.refl _ | refine Ext.alloc ?_ _ | refine Ext.drew ?_ | refine Ext.drewN ?_ _ | refine Ext.setCell ?_ (by first | omega | (simp <;> omega)) _))) (hb.up (by repeat with_reducible (first | exact Ext.refl _ | refine Ext.alloc ?_ _ | refine Ext.drew ?_ | refine Ext.drewN ?_ _ | refine Ext.setCell ?_ (by first | omega | (simp <;> omega)) _)))).mono ?_; rintro e w4 ⟨A4, c4, rfl, q2, E4⟩; have X_ : Ext w3 w4 := Ext.trans (by repeat with_reducible (first | exact Ext.refl _ | refine Ext.alloc ?_ _ | refine Ext.drew ?_ | refine Ext.drewN ?_ _ | refine Ext.setCell ?_ (by first | omega | (simp <;> omega)) _)) E4; replace hX := hX.up X_; replace hs := hs.up X_; clear X_; have BX := (BlkT.new w3 52 #[.int .i64 y.number, .slice y.a.1 0 y.a.2, .slice y.b.1 0 y.b.2, .slice y.c.1 0 y.c.2] rfl).up E4)
  | (go_at_call 13; refine (C3.out _ A4 c4 (hs.up (by repeat with_reducible (first | exact Ext.refl _ | refine Ext.alloc ?_ _ | refine Ext.drew ?_ | refine Ext.drewN ?_ _ | refine Ext.setCell ?_ (by first | omega | (simp <;> omega)) _))) (q2.up (by repeat with_reducible (first | exact Ext.refl _ | refine Ext.alloc ?_ _ | refine Ext.drew ?_ | refine Ext.drewN ?_ _ | refine Ext.setCell ?_ (by first | omega | (simp <;> omega)) _)))).mono ?_; rintro e w5 ⟨t, rfl, E5⟩; have X_ : Ext w4 w5 := Ext.trans (by repeat with_reducible (first | exact Ext.refl _ | refine Ext.alloc ?_ _ | refine Ext.drew ?_ | refine Ext.drewN ?_ _ | refine Ext.setCell ?_ (by first | omega | (simp <;> omega)) _)) E5; replace hX := hX.up X_; replace BX := BX.up X_; clear X_; have x1 : w5.cell? ⟨w3.heap.size, 1, none⟩ = some (.slice y.a.1 0 y.a.2) := BX.cell 1;  have x2 : w5.cell? ⟨w3.heap.size, 2, none⟩ = some (.slice y.b.1 0 y.b.2) := BX.cell 2;  have x3 : w5.cell? ⟨w3.heap.size, 3, none⟩ = some (.slice y.c.1 0 y.c.2) := BX.cell 3;  have lx := BX.lt))
 all_goals
  go_ret
  exact ⟨rfl, Ext.trans hX (by with_reducible first | exact Ext.refl _ | exact (Ext.refl _).alloc _)⟩

set_option maxRecDepth 100000 in
set_option maxHeartbeats 4000000 in
theorem loadMeans_some {A : Option Addr} {n c : Nat} {S : List MsgV} {B : Option Addr} {n3 c3 : Nat} {bs : List UInt8} {d : Int} {w : World} (hs : SchemaAt w A n c S) {m p : Nat} {M : MsgV} {f : FieldD} (g1 : (n : Int) ≤ 140737488351232) (hb : BytesAt w B n3 c3 bs) (hl : n3 ≤ 1000) (hm : m < n) (hM : S[m]? = some M) (hp : p < M.n) (hfx : M.d.fields[p]? = some f) (h6 : ¬ (64 : Int) ≤ d) (hc : codeL (S.map MsgV.d) f bs d = 0) (hmany : manyU (valueL (S.map MsgV.d) f bs d) ≠ 0) :
  Calls Tryz.prog 7 #[.slice A n c, .int .i64 (m : Int), .int .i64 (p : Int), .slice B n3 c3, .int .i64 d] w fun e w' => e = .returned (.bool true) ∧ Ext w w' := by
 have hlen := hb.length
 have h0 := load_args hc
 have hR : rightS (S.map MsgV.d) = true := by
  rcases hR : rightS (S.map MsgV.d) with _ | _
  · rw [argsL_ill hR] at h0
    cases h0
  · rfl
 have hM2 : (S.map MsgV.d)[m]? = some M.d := by rw [List.getElem?_map, hM]; rfl
 have hd0 : 0 ≤ d := by
  have := args_not_bad hR h0
  unfold badL at this
  omega
 obtain ⟨m1, m2⟩ := records_mean hR hM2 hfx hc (by omega)
 have hrl := records_length hR hM2 hfx hc (by omega)
 have hml : m < (S.map MsgV.d).length := (List.getElem?_eq_some_iff.1 hM2).1
 have hchk : (checkB (S.map MsgV.d) (m : Int) (recordsL f bs) (d + 1)).2 = 0 := by
  unfold checkB
  have ha : argsV (S.map MsgV.d) (m : Int) (d + 1) = 0 := by
   unfold argsV
   rw [if_neg (by rw [hR]; decide), if_neg (by omega)]
  rw [if_pos ha]
  have e1 : (d + 1).toNat = d.toNat + 1 := by omega
  rw [e1, Int.toNat_natCast]
  exact m1
 have hOf : OfT (S.map MsgV.d) (m : Int) (recordsL f bs) (d + 1) = .mk () () (if manyU (valueL (S.map MsgV.d) f bs d) = 0 then [] else [valueL (S.map MsgV.d) f bs d]) [] := by
  unfold OfT
  rw [if_pos hchk, Int.toNat_natCast]
  exact m2 _ (Nat.le_refl _)
 have kc1 := fun W (h : SchemaAt W A n c S) (q : BytesAt W B n3 c3 bs) => lValue (f := f) (d := d) h q (by omega)
 have hto : toldL (S.map MsgV.d) f bs d = valueL (S.map MsgV.d) f bs d := if_pos hc
 rw [hto, hc] at kc1
 unfold ValTold at kc1
 have kc2 := fun W (h : SchemaAt W A n c S) (q : BytesAt W B n3 c3 bs) => lRecords (f := f) (d := d) h q hR hM2 hfx hl hc
 have hlw := load_lens (S := S.map MsgV.d) (f := f) (d := d) hR (bs := bs) (by omega)
 rw [if_neg hmany] at hOf
 obtain ⟨b1c, b2c⟩ := load_back hR hM2 hfx hc (by omega) hmany
 have hcode := load_code hR hM2 hfx hc (by omega) hmany
 have hfits := load_fits hR hM2 hfx hc (by omega) hmany
 have hbs := load_back_size (f := f) hR hc (by omega)
 have hparts := fun hn => load_parts_size (f := f) hR hc (by omega) hn
 have hsubs : ∀ y ∈ (valueL (S.map MsgV.d) f bs d).subs, RightV (S.map MsgV.d) d.toNat f.of_.toNat y := by
  intro y hy
  obtain ⟨_, _, _, q | q | q⟩ := hfits
  · rw [q.2.2.1] at hy
    cases hy
  · rw [q.2.2.2.2.1] at hy
    cases hy
  · exact q.2.2.2 y hy
 have kc5 : ∀ W (y : ValR), bareV y = valueL (S.map MsgV.d) f bs d → SchemaAt W A n c S → ValAt W y → Calls Tryz.prog 21 #[.slice A n c, fieldV f, tvalV y] W fun e w' => ∃ A' n2 c2, e = .returned (.tuple #[.slice A' n2 c2, .int .u8 0]) ∧ n2 ≤ 100000 ∧ BytesAt w' A' n2 c2 (fromL (S.map MsgV.d) d.toNat f (valueL (S.map MsgV.d) f bs d)) ∧ Ext W w' := fun W y e h q => by
  have := lFrom_okB (D := d.toNat) h q (by rw [e]; exact hlw) (by
   have h1 := hlw.1.1
   have : y.words = (valueL (S.map MsgV.d) f bs d).words := by rw [← e]; rfl
   rw [this]
   have := (load_words (S.map MsgV.d) f bs d).1
   omega) (by
   rw [e]
   intro hn
   obtain ⟨p1, p2, p3⟩ := hparts hn
   exact ⟨fun b hb => Nat.le_trans (p1 b hb) (by decide), Nat.le_trans p2 (by decide), Nat.le_trans p3 (by decide)⟩) (by rw [e]; exact hcode) (by rw [e]; exact hsubs)
  refine this.mono ?_
  rintro e2 w' ⟨A', n2, c2, rfl, q1, q2, q3⟩
  rw [e] at q1 q2
  have q1 : n2 = _ := q1.out
  exact ⟨A', n2, c2, rfl, by omega, q2, q3⟩
 have kc6 : ∀ W A' n2 c2, n2 ≤ 100000 → SchemaAt W A n c S → BytesAt W A' n2 c2 (fromL (S.map MsgV.d) d.toNat f (valueL (S.map MsgV.d) f bs d)) → Calls Tryz.prog 38 #[.slice A n c, fieldV f, .slice A' n2 c2, .int .i64 d] W fun e w' => ∃ y : ValR, e = .returned (.tuple #[tvalV y, .int .u8 0]) ∧ bareV y = valueL (S.map MsgV.d) f bs d ∧ ValAt w' y ∧ Ext W w' := fun W A' n2 c2 hn h q => by
  have := lValue (f := f) (d := d) h q hn
  have e : toldL (S.map MsgV.d) f (fromL (S.map MsgV.d) d.toNat f (valueL (S.map MsgV.d) f bs d)) d = valueL (S.map MsgV.d) f bs d := (if_pos b1c).trans b2c
  rw [e, b1c] at this
  refine this.mono ?_
  rintro e w' ⟨y, rfl, q1, q2, q3, q4⟩
  exact ⟨y, rfl, q1, q2, q4⟩
 have kc3 : ∀ W (A4 : Option Addr) (n4 c4 : Nat), SchemaAt W A n c S → BytesAt W A4 n4 c4 (recordsL f bs) → Calls Tryz.prog 13 #[.slice A n c, .int .i64 (m : Int), .slice A4 n4 c4, .int .i64 (d + 1)] W fun e w' => ∃ t : MsgR, e = .returned (.tuple #[.agg #[.slice t.a.1 1 t.a.2, .slice t.b.1 0 t.b.2], .int .u8 0]) ∧ bare t = .mk () () [valueL (S.map MsgV.d) f bs d] [] ∧ TreeAt w' t ∧ Ext W w' := fun W A4 n4 c4 h q => by
  have := q.length
  refine (tOfB (root := (m : Int)) (d := d + 1) h q (by omega)).mono ?_
  rintro e w' ⟨t, rfl, t1, t2, _, t4⟩
  rw [hOf] at t1
  rw [hchk]
  obtain ⟨v1, v2⟩ := bare_parts t1
  refine ⟨t, ?_, t1, t2, t4⟩
  unfold treeV
  rw [show t.vals.length = 1 by have := congrArg List.length v1; simpa using this, show t.unk.length = 0 by rw [v2]; rfl]
  rfl
 generalize valueL (S.map MsgV.d) f bs d = V at *
 have kc1' : ∀ W, SchemaAt W A n c S → BytesAt W B n3 c3 bs → Calls Tryz.prog 38 #[.slice A n c, fieldV f, .slice B n3 c3, .int .i64 d] W fun e w' => ∃ y : ValR, e = .returned (.tuple #[tvalV y, .int .u8 0]) ∧ bareV y = V ∧ ValAt w' y ∧ ((y.words.length : Int) ≤ 1000000000000 ∧ (y.texts.length : Int) ≤ 1000000000000 ∧ (y.subs.length : Int) ≤ 1000000000000 ∧ ¬ ((y.words.length : Int) + (y.texts.length : Int) + (y.subs.length : Int) = 0)) ∧ Ext W w' := fun W h q => by
  refine (kc1 W h q).mono ?_
  rintro e w' ⟨y, rfl, q1, q2, q3, q4⟩
  subst q1
  have hl := FitV.lens hlw
  rw [manyU_bare] at hmany
  unfold manyU at hmany
  exact ⟨y, rfl, rfl, q2, by omega, q4⟩
 have same : ∀ W (a b : MsgR), bare a = .mk () () [V] [] → bare b = .mk () () [V] [] → TreeAt W a → TreeAt W b → Calls Tryz.prog 41 #[treeV a, treeV b] W fun e w' => e = .returned (.bool true) ∧ Ext W w' := fun W a b q1 q2 k1 k2 => by
  have := tSame a b W k1 k2
  rwa [q1, q2, eqB_yes rfl] at this
 have lens : ∀ t : MsgR, bare t = .mk () () [V] [] → t.vals.length = 1 ∧ t.unk.length = 0 := fun t t1 => by
  obtain ⟨v1, v2⟩ := bare_parts t1
  exact ⟨by have := congrArg List.length v1; simpa using this, by rw [v2]; rfl⟩
 have ones : ∀ (k : Nat) (y : ValR), bareV y = V → bare (.mk (some ⟨k, 0, none⟩, 1) (none, 0) [y] [] : MsgR) = .mk () () [V] [] := fun k y e => by
  rw [bare_eq, ← e]
  rfl
 have kc4 : ∀ W (t : MsgR) (y : ValR) (k : Nat), bare t = .mk () () [V] [] → bareV y = V → TreeAt W t → ValAt W y → BlkT W k 52 #[.int .i64 y.number, .slice y.a.1 y.words.length y.a.2, .slice y.b.1 y.texts.length y.b.2, .slice y.c.1 y.subs.length y.c.2] → Calls Tryz.prog 41 #[.agg #[.slice t.a.1 1 t.a.2, .slice t.b.1 0 t.b.2], .agg #[.slice (some ⟨k, 0, none⟩) 1 1, .slice none 0 0]] W fun e w' => e = .returned (.bool true) ∧ Ext W w' := fun W t y k q1 q2 k1 k2 k3 => by
  have := same W t _ q1 (ones k y q2) k1 (one_at k3 k2)
  unfold treeV at this
  rw [(lens t q1).1, (lens t q1).2] at this
  exact this
 have kc7 : ∀ W (t : MsgR) (y : ValR) (k : Nat), bare t = .mk () () [V] [] → bareV y = V → TreeAt W t → ValAt W y → BlkT W k 52 #[.int .i64 y.number, .slice y.a.1 y.words.length y.a.2, .slice y.b.1 y.texts.length y.b.2, .slice y.c.1 y.subs.length y.c.2] → Calls Tryz.prog 41 #[.agg #[.slice (some ⟨k, 0, none⟩) 1 1, .slice none 0 0], .agg #[.slice t.a.1 1 t.a.2, .slice t.b.1 0 t.b.2]] W fun e w' => e = .returned (.bool true) ∧ Ext W w' := fun W t y k q1 q2 k1 k2 k3 => by
  have := same W _ t (ones k y q2) q1 (one_at k3 k2) k1
  unfold treeV at this
  rw [(lens t q1).1, (lens t q1).2] at this
  exact this
 clear kc1 same lens ones hlw hfits hsubs hparts hcode b1c b2c
 generalize fromL (S.map MsgV.d) d.toNat f V = BK at *
 generalize recordsL f bs = RC at *
 unfold fieldV at *
 unfold tvalV at *
 have C1 := Lib.hid kc1'
 have C2 := Lib.hid kc2
 have C3 := Lib.hid kc3
 have C4 := Lib.hid kc4
 have C5 := Lib.hid kc5
 have C6 := Lib.hid kc6
 have C7 := Lib.hid kc7
 have h2 : ¬ (m : Int) < 0 := by omega
 have h3 : ¬ (n : Int) ≤ m := by omega
 have h3' : (m : Int) < n := by omega
 have h4 : ¬ (p : Int) < 0 := by omega
 have h5 : ¬ (M.n : Int) ≤ p := by omega
 have h5' : (p : Int) < M.n := by omega
 obtain ⟨b1, o1, M', hA, hM', hf, _, l1, d0, d1⟩ := hs.msg hm
 rw [hM] at hM'
 cases hM'
 subst hA
 obtain ⟨b8, o8, f', hA8, hff, _, l8, g0, g1f, g2, g3f, g4, g5⟩ := hf.field hp
 rw [hfx] at hff
 cases hff
 obtain ⟨md, mA, mn, mc⟩ := M
 simp only at hA8 d1 h5 h5' hp hfx
 subst hA8
 have hX := Ext.refl w
 clear kc1' kc2 kc3 kc4 kc5 kc6 kc7 hM hfx hR hM2 hOf hchk m1 m2 h0 hmany hto
 have h1 : ¬ (1000 : Int) < n3 := by omega
 go_enter Tryz.func7, Tryz.ntmps7
 go_wp2_with (first
  | (go_at_call 19; refine (alive20 _).mono ?_; rintro e w1 ⟨rfl, E1⟩; have X_ : Ext w w1 := Ext.trans (by repeat with_reducible (first | exact Ext.refl _ | refine Ext.alloc ?_ _ | refine Ext.drew ?_ | refine Ext.drewN ?_ _ | refine Ext.setCell ?_ (by first | omega | (simp <;> omega)) _)) E1; replace hX := hX.up X_; replace hs := hs.up X_; replace hb := hb.up X_; replace d0 := X_.of_cell d0; replace d1 := X_.of_cell d1; replace g0 := X_.of_cell g0; replace g1f := X_.of_cell g1f; replace g2 := X_.of_cell g2; replace g3f := X_.of_cell g3f; replace g4 := X_.of_cell g4; replace g5 := X_.of_cell g5; clear X_)
  | (go_at_call 10; refine (few07 hs).mono ?_; rintro e w2 ⟨x, rfl, E2⟩; have X_ : Ext w1 w2 := Ext.trans (by repeat with_reducible (first | exact Ext.refl _ | refine Ext.alloc ?_ _ | refine Ext.drew ?_ | refine Ext.drewN ?_ _ | refine Ext.setCell ?_ (by first | omega | (simp <;> omega)) _)) E2; replace hX := hX.up X_; replace hs := hs.up X_; replace hb := hb.up X_; replace d0 := X_.of_cell d0; replace d1 := X_.of_cell d1; replace g0 := X_.of_cell g0; replace g1f := X_.of_cell g1f; replace g2 := X_.of_cell g2; replace g3f := X_.of_cell g3f; replace g4 := X_.of_cell g4; replace g5 := X_.of_cell g5; clear X_)
  | (go_at_call 38; (with_reducible refine (C1.out _ (hs.up (by repeat with_reducible (first | exact Ext.refl _ | refine Ext.alloc ?_ _ | refine Ext.drew ?_ | refine Ext.drewN ?_ _ | refine Ext.setCell ?_ (by first | omega | (simp <;> omega)) _))) (hb.up (by repeat with_reducible (first | exact Ext.refl _ | refine Ext.alloc ?_ _ | refine Ext.drew ?_ | refine Ext.drewN ?_ _ | refine Ext.setCell ?_ (by first | omega | (simp <;> omega)) _)))).mono ?_); rintro e w3 ⟨y, rfl, y1, y2, ⟨y3, y4, y5, y6⟩, E3⟩; have X_ : Ext w2 w3 := Ext.trans (by repeat with_reducible (first | exact Ext.refl _ | refine Ext.alloc ?_ _ | refine Ext.drew ?_ | refine Ext.drewN ?_ _ | refine Ext.setCell ?_ (by first | omega | (simp <;> omega)) _)) E3; replace hX := hX.up X_; replace hs := hs.up X_; replace hb := hb.up X_; clear X_; have BF := (BlkT.new w2 48 #[.string f.name, .int .i64 f.number, .int .i64 f.kind, .bool f.rep, .bool f.packed, .int .i64 f.of_] rfl).up E3;  have zf0 : w3.cell? ⟨w2.heap.size, 0, none⟩ = some (.string f.name) := BF.cell 0;  have zf1 : w3.cell? ⟨w2.heap.size, 1, none⟩ = some (.int .i64 f.number) := BF.cell 1;  have zf2 : w3.cell? ⟨w2.heap.size, 2, none⟩ = some (.int .i64 f.kind) := BF.cell 2;  have zf3 : w3.cell? ⟨w2.heap.size, 3, none⟩ = some (.bool f.rep) := BF.cell 3;  have zf4 : w3.cell? ⟨w2.heap.size, 4, none⟩ = some (.bool f.packed) := BF.cell 4;  have zf5 : w3.cell? ⟨w2.heap.size, 5, none⟩ = some (.int .i64 f.of_) := BF.cell 5;  have lf := BF.lt;  replace y1 := Lib.hid y1)
  | (go_at_call 40; refine (C2.out _ (hs.up (by repeat with_reducible (first | exact Ext.refl _ | refine Ext.alloc ?_ _ | refine Ext.drew ?_ | refine Ext.drewN ?_ _ | refine Ext.setCell ?_ (by first | omega | (simp <;> omega)) _))) (hb.up (by repeat with_reducible (first | exact Ext.refl _ | refine Ext.alloc ?_ _ | refine Ext.drew ?_ | refine Ext.drewN ?_ _ | refine Ext.setCell ?_ (by first | omega | (simp <;> omega)) _)))).mono ?_; rintro e w4 ⟨A4, n4, c4, rfl, _, q2, E4⟩; have X_ : Ext w3 w4 := Ext.trans (by repeat with_reducible (first | exact Ext.refl _ | refine Ext.alloc ?_ _ | refine Ext.drew ?_ | refine Ext.drewN ?_ _ | refine Ext.setCell ?_ (by first | omega | (simp <;> omega)) _)) E4; replace hX := hX.up X_; replace hs := hs.up X_; replace y2 := y2.up X_; replace zf0 := X_.of_cell zf0; replace zf1 := X_.of_cell zf1; replace zf2 := X_.of_cell zf2; replace zf3 := X_.of_cell zf3; replace zf4 := X_.of_cell zf4; replace zf5 := X_.of_cell zf5; clear X_; have BX := (BlkT.new w3 52 #[.int .i64 y.number, .slice y.a.1 y.words.length y.a.2, .slice y.b.1 y.texts.length y.b.2, .slice y.c.1 y.subs.length y.c.2] rfl).up E4)
  | (go_at_call 13; refine (C3.out _ A4 n4 c4 (hs.up (by repeat with_reducible (first | exact Ext.refl _ | refine Ext.alloc ?_ _ | refine Ext.drew ?_ | refine Ext.drewN ?_ _ | refine Ext.setCell ?_ (by first | omega | (simp <;> omega)) _))) (q2.up (by repeat with_reducible (first | exact Ext.refl _ | refine Ext.alloc ?_ _ | refine Ext.drew ?_ | refine Ext.drewN ?_ _ | refine Ext.setCell ?_ (by first | omega | (simp <;> omega)) _)))).mono ?_; rintro e w5 ⟨t, rfl, t1, t2, E5⟩; have X_ : Ext w4 w5 := Ext.trans (by repeat with_reducible (first | exact Ext.refl _ | refine Ext.alloc ?_ _ | refine Ext.drew ?_ | refine Ext.drewN ?_ _ | refine Ext.setCell ?_ (by first | omega | (simp <;> omega)) _)) E5; replace hX := hX.up X_; replace hs := hs.up X_; replace y2 := y2.up X_; replace BX := BX.up X_; replace zf0 := X_.of_cell zf0; replace zf1 := X_.of_cell zf1; replace zf2 := X_.of_cell zf2; replace zf3 := X_.of_cell zf3; replace zf4 := X_.of_cell zf4; replace zf5 := X_.of_cell zf5; clear X_; have x0 : w5.cell? ⟨w3.heap.size, 0, none⟩ = some (.int .i64 y.number) := BX.cell 0;  have x1 : w5.cell? ⟨w3.heap.size, 1, none⟩ = some (.slice y.a.1 y.words.length y.a.2) := BX.cell 1;  have x2 : w5.cell? ⟨w3.heap.size, 2, none⟩ = some (.slice y.b.1 y.texts.length y.b.2) := BX.cell 2;  have x3 : w5.cell? ⟨w3.heap.size, 3, none⟩ = some (.slice y.c.1 y.subs.length y.c.2) := BX.cell 3;  have lx := BX.lt;  replace t1 := Lib.hid t1)
  | (go_at_call 41; (with_reducible refine (C4.out _ t y _ t1.out y1.out (t2.up (by repeat with_reducible (first | exact Ext.refl _ | refine Ext.alloc ?_ _ | refine Ext.drew ?_ | refine Ext.drewN ?_ _ | refine Ext.setCell ?_ (by first | omega | (simp <;> omega)) _))) (y2.up (by repeat with_reducible (first | exact Ext.refl _ | refine Ext.alloc ?_ _ | refine Ext.drew ?_ | refine Ext.drewN ?_ _ | refine Ext.setCell ?_ (by first | omega | (simp <;> omega)) _))) (BlkT.new _ _ _ (by simp [go_sem]))).mono ?_); rintro e w6 ⟨rfl, E6⟩; have X_ : Ext w5 w6 := Ext.trans (by repeat with_reducible (first | exact Ext.refl _ | refine Ext.alloc ?_ _ | refine Ext.drew ?_ | refine Ext.drewN ?_ _ | refine Ext.setCell ?_ (by first | omega | (simp <;> omega)) _)) E6; replace hX := hX.up X_; replace hs := hs.up X_; replace y2 := y2.up X_; replace t2 := t2.up X_; replace BX := BX.up X_; replace zf0 := X_.of_cell zf0; replace zf1 := X_.of_cell zf1; replace zf2 := X_.of_cell zf2; replace zf3 := X_.of_cell zf3; replace zf4 := X_.of_cell zf4; replace zf5 := X_.of_cell zf5; replace x0 := X_.of_cell x0; replace x1 := X_.of_cell x1; replace x2 := X_.of_cell x2; replace x3 := X_.of_cell x3; clear X_; have BT := ((BlkT.new w5 35 #[.slice t.a.1 1 t.a.2, .slice t.b.1 0 t.b.2] rfl).alloc _).up E6;  have s0 : w6.cell? ⟨w5.heap.size, 0, none⟩ = some (.slice t.a.1 1 t.a.2) := BT.cell 0;  have s1 : w6.cell? ⟨w5.heap.size, 1, none⟩ = some (.slice t.b.1 0 t.b.2) := BT.cell 1;  have lt := BT.lt)
  | (go_at_call 21; refine (C5.out _ y y1.out (hs.up (by repeat with_reducible (first | exact Ext.refl _ | refine Ext.alloc ?_ _ | refine Ext.drew ?_ | refine Ext.drewN ?_ _ | refine Ext.setCell ?_ (by first | omega | (simp <;> omega)) _))) (y2.up (by repeat with_reducible (first | exact Ext.refl _ | refine Ext.alloc ?_ _ | refine Ext.drew ?_ | refine Ext.drewN ?_ _ | refine Ext.setCell ?_ (by first | omega | (simp <;> omega)) _)))).mono ?_; rintro e w7 ⟨A7, n7, c7, rfl, r1, r2, E7⟩; have X_ : Ext w6 w7 := Ext.trans (by repeat with_reducible (first | exact Ext.refl _ | refine Ext.alloc ?_ _ | refine Ext.drew ?_ | refine Ext.drewN ?_ _ | refine Ext.setCell ?_ (by first | omega | (simp <;> omega)) _)) E7; replace hX := hX.up X_; replace hs := hs.up X_; replace t2 := t2.up X_; replace zf0 := X_.of_cell zf0; replace zf1 := X_.of_cell zf1; replace zf2 := X_.of_cell zf2; replace zf3 := X_.of_cell zf3; replace zf4 := X_.of_cell zf4; replace zf5 := X_.of_cell zf5; replace s0 := X_.of_cell s0; replace s1 := X_.of_cell s1; clear X_)
  | (go_at_call 38; (with_reducible refine (C6.out _ A7 n7 c7 r1 (hs.up (by repeat with_reducible (first | exact Ext.refl _ | refine Ext.alloc ?_ _ | refine Ext.drew ?_ | refine Ext.drewN ?_ _ | refine Ext.setCell ?_ (by first | omega | (simp <;> omega)) _))) (r2.up (by repeat with_reducible (first | exact Ext.refl _ | refine Ext.alloc ?_ _ | refine Ext.drew ?_ | refine Ext.drewN ?_ _ | refine Ext.setCell ?_ (by first | omega | (simp <;> omega)) _)))).mono ?_); rintro e w8 ⟨v, rfl, v1, v2, E8⟩; have X_ : Ext w7 w8 := Ext.trans (by repeat with_reducible (first | exact Ext.refl _ | refine Ext.alloc ?_ _ | refine Ext.drew ?_ | refine Ext.drewN ?_ _ | refine Ext.setCell ?_ (by first | omega | (simp <;> omega)) _)) E8; replace hX := hX.up X_; replace t2 := t2.up X_; replace s0 := X_.of_cell s0; replace s1 := X_.of_cell s1; clear X_; replace v1 := Lib.hid v1;  have ls := World.block_lt_of_cell? w8 _ s0)
  | (go_at_call 41; (with_reducible refine (C7.out _ t v _ t1.out v1.out (t2.up (by repeat with_reducible (first | exact Ext.refl _ | refine Ext.alloc ?_ _ | refine Ext.drew ?_ | refine Ext.drewN ?_ _ | refine Ext.setCell ?_ (by first | omega | (simp <;> omega)) _))) (v2.up (by repeat with_reducible (first | exact Ext.refl _ | refine Ext.alloc ?_ _ | refine Ext.drew ?_ | refine Ext.drewN ?_ _ | refine Ext.setCell ?_ (by first | omega | (simp <;> omega)) _))) (BlkT.new _ _ _ (by simp [go_sem]))).mono ?_); rintro e w9 ⟨rfl, E9⟩; have X_ : Ext w8 w9 := Ext.trans (by repeat with_reducible (first | exact Ext.refl _ | refine Ext.alloc ?_ _ | refine Ext.drew ?_ | refine Ext.drewN ?_ _ | refine Ext.setCell ?_ (by first | omega | (simp <;> omega)) _)) E9; replace hX := hX.up X_; clear X_))
 all_goals
  go_ret
  exact ⟨rfl, hX⟩

theorem loadMeans_walk {A : Option Addr} {n c : Nat} {S : List MsgV} {root at_ : Int} {B : Option Addr} {n3 c3 : Nat} {bs : List UInt8} {d : Int} {w : World} (hs : SchemaAt w A n c S) (s0 : ∀ m ∈ S, m.c ≤ 2932031007317) (S0 : c ≤ 3518437208780) (hroot : -9223372036854775808 ≤ root ∧ root < 9223372036854775808) (hat : -9223372036854775808 ≤ at_ ∧ at_ < 9223372036854775808) (hb : BytesAt w B n3 c3 bs) (s3 : c3 * 1 ≤ 140737488351232) (hd : -9223372036854775808 ≤ d ∧ d < 9223372036854775808) :
  Calls Tryz.prog 7 #[.slice A n c, .int .i64 root, .int .i64 at_, .slice B n3 c3, .int .i64 d] w fun e w' => e = .returned (.bool true) ∧ Ext w w' := by
 have g1 : (n : Int) ≤ 140737488351232 := by have := hs.1.cap; omega
 have g3 : (n3 : Int) ≤ 140737488351232 := by have := Reads.cap hb; omega
 by_cases h1 : (1000 : Int) < n3
 · exact loadMeans_off1 (bs := bs) hs g1 g3 h1
 by_cases h2 : root < 0
 · exact loadMeans_off2 (bs := bs) hs g1 g3 h1 h2
 by_cases h3 : (n : Int) ≤ root
 · exact loadMeans_off3 (bs := bs) hs g1 g3 h1 h2 h3
 obtain ⟨m, rfl⟩ := Int.eq_ofNat_of_zero_le (show 0 ≤ root by omega)
 have hm : m < n := by omega
 by_cases h4 : at_ < 0
 · exact loadMeans_off4 (bs := bs) hs g1 g3 h1 hm h4
 obtain ⟨p, rfl⟩ := Int.eq_ofNat_of_zero_le (show 0 ≤ at_ by omega)
 obtain ⟨M, hM⟩ : ∃ M, S[m]? = some M := ⟨_, List.getElem?_eq_getElem (by rw [hs.length]; exact hm)⟩
 by_cases h5 : M.n ≤ p
 · exact loadMeans_off5 (bs := bs) hs g1 g3 h1 hm hM h5
 by_cases h6 : (64 : Int) ≤ d
 · exact loadMeans_off6 (bs := bs) hs g1 g3 h1 hm hM (by omega) h6
 obtain ⟨f, hf⟩ : ∃ f, M.d.fields[p]? = some f := ⟨_, List.getElem?_eq_getElem (by rw [(hs.2 M (List.mem_of_getElem? hM)).1.length]; omega)⟩
 by_cases hc : codeL (S.map MsgV.d) f bs d = 0
 · by_cases hmany : manyU (valueL (S.map MsgV.d) f bs d) = 0
   · exact loadMeans_none hs g1 hb (by omega) hm hM (by omega) hf h6 hc hmany
   · exact loadMeans_some hs g1 hb (by omega) hm hM (by omega) hf h6 hc hmany
 · exact loadMeans_bad hs g1 hb (by omega) hm hM (by omega) hf h6 hd.1 hc

end Go.Proofs.YtnnphodgegcddaaGreat
