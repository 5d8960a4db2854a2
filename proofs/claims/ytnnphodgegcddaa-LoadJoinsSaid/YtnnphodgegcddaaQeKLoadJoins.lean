/- The walk of the law LoadJoins, out of its callees' contracts. -/
import Derived.Test.YtnnphodgegcddaaQeW43
import Derived.Test.YtnnphodgegcddaaQeW46
import Derived.Test.YtnnphodgegcddaaQeS40
import Derived.Test.YtnnphodgegcddaaQeW14r
import Derived.Test.YtnnphodgegcddaaQeKSchemaChecks
import Derived.Test.YtnnphodgegcddaaQeKAlive20
import Derived.Test.YtnnphodgegcddaaQeKScalarReads

namespace Go.Proofs.Ytnnphodgegcddaa
open Go.RowKit Go.Shelf
set_option linter.unusedVariables false

theorem itemsF_codes : ∀ (f : Nat) (bs : List UInt8), ∀ x ∈ itemsF f bs, x.2 ≤ 4
  | 0, bs, x, h => by simp [itemsF] at h
  | f + 1, bs, x, h => by
    unfold itemsF at h
    split at h
    · cases h
    · split at h
      · rcases List.mem_cons.1 h with rfl | h
        · exact Nat.zero_le _
        · exact itemsF_codes f _ x h
      · simp only [List.mem_singleton] at h
        subst h
        rcases itemN_bd bs with h | h
        · exact absurd h.1 ‹_›
        · exact h.2

theorem firstL_le {g : List UInt8 → Nat} {K : Nat} (hg : ∀ b, g b ≤ K) : ∀ {l : List (List UInt8 × Nat)}, (∀ x ∈ l, x.2 ≤ K) → firstL g l ≤ K
  | [], _ => Nat.zero_le _
  | x :: l, h => by
    unfold firstL
    split
    · exact h x List.mem_cons_self
    · split
      · exact hg _
      · exact firstL_le hg (fun y hy => h y (List.mem_cons_of_mem _ hy))

theorem codeL_le (S : List MsgD) (f : FieldD) (bs : List UInt8) (d : Int) : codeL S f bs d ≤ 255 := by
  unfold codeL
  split
  · unfold argsL
    repeat' split
    all_goals decide
  · split
    · have := codeV_le' f.kind bs
      omega
    · refine firstL_le (fun b => ?_) (fun x hx => ?_)
      · unfold oneL
        split
        · rename_i hk
          rw [sRead_0 hk b]
          split <;> omega
        · split
          · split <;> omega
          · split
            · have := checkB_le S f.of_ b d
              omega
            · omega
      · unfold itemsL at hx
        split at hx
        · have := itemsF_codes _ _ x hx
          omega
        · simp only [List.mem_singleton] at hx
          subst hx
          exact Nat.zero_le _

set_option maxRecDepth 100000 in
set_option maxHeartbeats 4000000 in
theorem loadJoins_off {A : Option Addr} {n c : Nat} {S : List MsgV} {f : FieldD} {B C : Option Addr} {n1 c1 n2 c2 : Nat} {xs ys : List UInt8} {d : Int} {w : World} (hs : SchemaAt w A n c S) (ha : BytesAt w B n1 c1 xs) (sa : c1 * 1 ≤ 140737488351232) (hb : BytesAt w C n2 c2 ys) (sb : c2 * 1 ≤ 140737488351232) (h : 1000 < n1 + n2 ∨ f.rep = false) :
    Calls Try.prog 3 #[.slice A n c, fieldV f, .slice B n1 c1, .slice C n2 c2, .int .i64 d] w fun e w' => e = .returned (.bool true) ∧ Ext w w' := by
  have hca := Reads.cap ha
  have hcb := Reads.cap hb
  unfold fieldV
  have BF := BlkT.new w 25 #[.string f.name, .int .i64 f.number, .int .i64 f.kind, .bool f.rep, .bool f.packed, .int .i64 f.of_] rfl
  have X0 : Ext w (w.alloc (.cells #[.string f.name, .int .i64 f.number, .int .i64 f.kind, .bool f.rep, .bool f.packed, .int .i64 f.of_] 25)) := (Ext.refl w).alloc _
  rcases h with h | h
  · have hI : (1000 : Int) < (n1 : Int) + n2 := by omega
    go_enter Try.func3, Try.ntmps3
    go_wp2_with fail
    generalize w.alloc (.cells #[.string f.name, .int .i64 f.number, .int .i64 f.kind, .bool f.rep, .bool f.packed, .int .i64 f.of_] 25) = wx at *
    replace hs := hs.up X0
    have hX := Ext.refl wx
    clear BF
    go_wp2_with (first
      | (go_at_call 4; refine (alive20 _).mono ?_; rintro e w1 ⟨rfl, E1⟩; have X_ : Ext wx w1 := Ext.trans (by repeat with_reducible (first | exact Ext.refl _ | refine Ext.alloc ?_ _ | refine Ext.drew ?_ | refine Ext.drewN ?_ _ | refine Ext.setCell ?_ (by first | exact Nat.le_refl _ | omega | (simp; done) | (simp; omega)) _)) E1; replace hX := hX.up X_; replace hs := hs.up X_; clear X_)
      | (go_at_call 5; refine (few07 hs).mono ?_; rintro e w2 ⟨x, rfl, E2⟩; have X_ : Ext w1 w2 := Ext.trans (by repeat with_reducible (first | exact Ext.refl _ | refine Ext.alloc ?_ _ | refine Ext.drew ?_ | refine Ext.drewN ?_ _ | refine Ext.setCell ?_ (by first | exact Nat.le_refl _ | omega | (simp; done) | (simp; omega)) _)) E2; replace hX := hX.up X_; replace hs := hs.up X_; clear X_))
    all_goals
      go_ret
      exact ⟨rfl, X0.trans hX⟩
  · rw [h] at BF X0 ⊢
    go_enter Try.func3, Try.ntmps3
    go_wp2_with fail
    generalize w.alloc (.cells #[.string f.name, .int .i64 f.number, .int .i64 f.kind, .bool false, .bool f.packed, .int .i64 f.of_] 25) = wx at *
    have z3 : wx.cell? ⟨w.heap.size, 3, none⟩ = some (.bool false) := BF.cell 3
    replace hs := hs.up X0
    have hX := Ext.refl wx
    clear BF
    go_wp2_with (first
      | (go_at_call 4; refine (alive20 _).mono ?_; rintro e w1 ⟨rfl, E1⟩; have X_ : Ext wx w1 := Ext.trans (by repeat with_reducible (first | exact Ext.refl _ | refine Ext.alloc ?_ _ | refine Ext.drew ?_ | refine Ext.drewN ?_ _ | refine Ext.setCell ?_ (by first | exact Nat.le_refl _ | omega | (simp; done) | (simp; omega)) _)) E1; replace hX := hX.up X_; replace hs := hs.up X_; replace z3 := X_.of_cell z3; clear X_)
      | (go_at_call 5; refine (few07 hs).mono ?_; rintro e w2 ⟨x, rfl, E2⟩; have X_ : Ext w1 w2 := Ext.trans (by repeat with_reducible (first | exact Ext.refl _ | refine Ext.alloc ?_ _ | refine Ext.drew ?_ | refine Ext.drewN ?_ _ | refine Ext.setCell ?_ (by first | exact Nat.le_refl _ | omega | (simp; done) | (simp; omega)) _)) E2; replace hX := hX.up X_; replace hs := hs.up X_; replace z3 := X_.of_cell z3; clear X_))
    all_goals
      go_ret
      exact ⟨rfl, X0.trans hX⟩

set_option maxRecDepth 100000 in
set_option maxHeartbeats 4000000 in
theorem loadJoins_bad {A : Option Addr} {n c : Nat} {S : List MsgV} {f : FieldD} {B C : Option Addr} {n1 c1 n2 c2 : Nat} {xs ys : List UInt8} {d : Int} {w : World} (hs : SchemaAt w A n c S) (ha : BytesAt w B n1 c1 xs) (hb : BytesAt w C n2 c2 ys) (hl : n1 + n2 ≤ 1000) (hr : f.rep = true) (h : codeL (S.map MsgV.d) f xs d ≠ 0 ∨ codeL (S.map MsgV.d) f ys d ≠ 0) :
    Calls Try.prog 3 #[.slice A n c, fieldV f, .slice B n1 c1, .slice C n2 c2, .int .i64 d] w fun e w' => e = .returned (.bool true) ∧ Ext w w' := by
  have h1 := fun W (h : SchemaAt W A n c S) (q : BytesAt W B n1 c1 xs) => lValue (f := f) (d := d) h q (by omega)
  have h2 := fun W (h : SchemaAt W A n c S) (q : BytesAt W C n2 c2 ys) => lValue (f := f) (d := d) h q (by omega)
  have l1 := codeL_le (S.map MsgV.d) f xs d
  have l2 := codeL_le (S.map MsgV.d) f ys d
  generalize codeL (S.map MsgV.d) f xs d = C1 at *
  generalize codeL (S.map MsgV.d) f ys d = C2 at *
  unfold ValTold at h1 h2
  unfold fieldV tvalV at *
  rw [hr] at h1 h2 ⊢
  have hlI : ¬ (1000 : Int) < (n1 : Int) + n2 := by omega
  have BF := BlkT.new w 25 #[.string f.name, .int .i64 f.number, .int .i64 f.kind, .bool true, .bool f.packed, .int .i64 f.of_] rfl
  have X0 : Ext w (w.alloc (.cells #[.string f.name, .int .i64 f.number, .int .i64 f.kind, .bool true, .bool f.packed, .int .i64 f.of_] 25)) := (Ext.refl w).alloc _
  have H1 := Lib.hid h1
  have H2 := Lib.hid h2
  have HH := Lib.hid h
  clear h1 h2 hr h
  have hcase : (((C1 : Int) != 0) = true) ∨ (((C1 : Int) != 0) = false ∧ ((C2 : Int) != 0) = true) := by
    by_cases q : C1 = 0
    · rcases HH.out with h | h
      · exact absurd q h
      · exact .inr ⟨by rw [q]; rfl, by rw [bne_iff_ne]; omega⟩
    · exact .inl (by rw [bne_iff_ne]; omega)
  rcases hcase with q1 | ⟨q1, q2⟩
  all_goals
    go_enter Try.func3, Try.ntmps3
    go_wp2_with fail
    generalize w.alloc (.cells #[.string f.name, .int .i64 f.number, .int .i64 f.kind, .bool true, .bool f.packed, .int .i64 f.of_] 25) = wx at *
    have z0 : wx.cell? ⟨w.heap.size, 0, none⟩ = some (.string f.name) := BF.cell 0
    have z1 : wx.cell? ⟨w.heap.size, 1, none⟩ = some (.int .i64 f.number) := BF.cell 1
    have z2 : wx.cell? ⟨w.heap.size, 2, none⟩ = some (.int .i64 f.kind) := BF.cell 2
    have z3 : wx.cell? ⟨w.heap.size, 3, none⟩ = some (.bool true) := BF.cell 3
    have z4 : wx.cell? ⟨w.heap.size, 4, none⟩ = some (.bool f.packed) := BF.cell 4
    have z5 : wx.cell? ⟨w.heap.size, 5, none⟩ = some (.int .i64 f.of_) := BF.cell 5
    replace hs := hs.up X0
    replace ha := ha.up X0
    replace hb := hb.up X0
    have hX := Ext.refl wx
    clear BF
    go_wp2_with (first
      | (go_at_call 4; refine (alive20 _).mono ?_; rintro e w1 ⟨rfl, E1⟩; have X_ : Ext wx w1 := Ext.trans (by repeat with_reducible (first | exact Ext.refl _ | refine Ext.alloc ?_ _ | refine Ext.drew ?_ | refine Ext.drewN ?_ _ | refine Ext.setCell ?_ (by first | exact Nat.le_refl _ | omega | (simp; done) | (simp; omega)) _)) E1; replace hX := hX.up X_; replace hs := hs.up X_; replace ha := ha.up X_; replace hb := hb.up X_; replace z0 := X_.of_cell z0; replace z1 := X_.of_cell z1; replace z2 := X_.of_cell z2; replace z3 := X_.of_cell z3; replace z4 := X_.of_cell z4; replace z5 := X_.of_cell z5; clear X_)
      | (go_at_call 5; refine (few07 hs).mono ?_; rintro e w2 ⟨x, rfl, E2⟩; have X_ : Ext w1 w2 := Ext.trans (by repeat with_reducible (first | exact Ext.refl _ | refine Ext.alloc ?_ _ | refine Ext.drew ?_ | refine Ext.drewN ?_ _ | refine Ext.setCell ?_ (by first | exact Nat.le_refl _ | omega | (simp; done) | (simp; omega)) _)) E2; replace hX := hX.up X_; replace hs := hs.up X_; replace ha := ha.up X_; replace hb := hb.up X_; replace z0 := X_.of_cell z0; replace z1 := X_.of_cell z1; replace z2 := X_.of_cell z2; replace z3 := X_.of_cell z3; replace z4 := X_.of_cell z4; replace z5 := X_.of_cell z5; clear X_)
      | (go_at_call 6; (with_reducible refine (H1.out _ hs ha).mono ?_); rintro e w3 ⟨y, rfl, p1, p2, p3, E3⟩; have X_ : Ext w2 w3 := Ext.trans (by repeat with_reducible (first | exact Ext.refl _ | refine Ext.alloc ?_ _ | refine Ext.drew ?_ | refine Ext.drewN ?_ _ | refine Ext.setCell ?_ (by first | exact Nat.le_refl _ | omega | (simp; done) | (simp; omega)) _)) E3; replace hX := hX.up X_; replace hs := hs.up X_; replace hb := hb.up X_; replace z0 := X_.of_cell z0; replace z1 := X_.of_cell z1; replace z2 := X_.of_cell z2; replace z3 := X_.of_cell z3; replace z4 := X_.of_cell z4; replace z5 := X_.of_cell z5; clear X_; clear p1 p2 p3;  have l3 := World.block_lt_of_cell? w3 _ z0)
      | (go_at_call 6; (with_reducible refine (H2.out _ (hs.up (by repeat with_reducible (first | exact Ext.refl _ | refine Ext.alloc ?_ _ | refine Ext.drew ?_ | refine Ext.drewN ?_ _ | refine Ext.setCell ?_ (by first | exact Nat.le_refl _ | omega | (simp; done) | (simp; omega)) _))) (hb.up (by repeat with_reducible (first | exact Ext.refl _ | refine Ext.alloc ?_ _ | refine Ext.drew ?_ | refine Ext.drewN ?_ _ | refine Ext.setCell ?_ (by first | exact Nat.le_refl _ | omega | (simp; done) | (simp; omega)) _)))).mono ?_); rintro e w4 ⟨y', rfl, r1, r2, r3, E4⟩; have X_ : Ext w3 w4 := Ext.trans (by repeat with_reducible (first | exact Ext.refl _ | refine Ext.alloc ?_ _ | refine Ext.drew ?_ | refine Ext.drewN ?_ _ | refine Ext.setCell ?_ (by first | exact Nat.le_refl _ | omega | (simp; done) | (simp; omega)) _)) E4; replace hX := hX.up X_; clear X_; clear r1 r2 r3))
    all_goals
      go_ret
      exact ⟨rfl, Ext.trans (X0.trans hX) (by repeat with_reducible (first | exact Ext.refl _ | refine Ext.alloc ?_ _ | refine Ext.drew ?_ | refine Ext.drewN ?_ _ | refine Ext.setCell ?_ (by first | exact Nat.le_refl _ | omega | (simp; done) | (simp; omega)) _))⟩

theorem valueL_number {S : List MsgD} {f : FieldD} {bs : List UInt8} {d : Int} : (valueL S f bs d).number = f.number := by
  unfold valueL
  split
  · rfl
  · split
    · rfl
    · split <;> rfl

theorem itemsF_mem_le : ∀ (f : Nat) (bs : List UInt8), ∀ x ∈ itemsF f bs, x.1.length ≤ bs.length
  | 0, bs, x, h => by simp [itemsF] at h
  | f + 1, bs, x, h => by
    unfold itemsF at h
    split at h
    · cases h
    · split at h
      · rcases List.mem_cons.1 h with rfl | h
        · simp only [List.length_take, List.length_drop]
          omega
        · have := itemsF_mem_le f _ x h
          rw [List.length_drop] at this
          omega
      · simp only [List.mem_singleton] at h
        subst h
        exact Nat.zero_le _

theorem itemsLx_mem_le {rep : Bool} {bs : List UInt8} {x : List UInt8 × Nat} (h : x ∈ itemsL rep bs) : x.1.length ≤ bs.length := by
  unfold itemsL at h
  split at h
  · exact itemsF_mem_le _ _ x h
  · simp only [List.mem_singleton] at h
    subst h
    exact Nat.le_refl _

def FitV (V : ValT) : Prop := V.words.length ≤ 1000000000 ∧ V.texts.length ≤ 1000000000 ∧ V.subs.length ≤ 1000000000 ∧ ∀ t ∈ V.subs, FitT 1000000000000 t

theorem valueL_fits {S : List MsgD} {f : FieldD} {bs : List UInt8} {d : Int} (h : bs.length ≤ 1000) : FitV (valueL S f bs d) := by
  have h1 := valsV_len f.kind bs
  have h2 := itemsL_len f.rep bs
  unfold valueL FitV
  split
  · refine ⟨?_, Nat.zero_le _, Nat.zero_le _, fun t ht => by cases ht⟩
    rw [List.length_map]
    omega
  · split
    · refine ⟨?_, Nat.zero_le _, Nat.zero_le _, fun t ht => by cases ht⟩
      rw [List.length_map]
      omega
    · split
      · refine ⟨Nat.zero_le _, Nat.zero_le _, ?_, fun t ht => ?_⟩
        · rw [List.length_map]
          omega
        · obtain ⟨x, hx, rfl⟩ := List.mem_map.1 ht
          have hx1 := itemsLx_mem_le hx
          unfold OfT
          split
          · rename_i hc
            exact fit_of (check_right hc).1 _ _ _ (by omega)
          · exact .mk _ (Nat.zero_le _) (Nat.zero_le _) (fun v hv => by cases hv) (fun v hv => by cases hv)
      · refine ⟨Nat.zero_le _, ?_, Nat.zero_le _, fun t ht => by cases ht⟩
        rw [List.length_map]
        omega

theorem FitV.of_bare {v : ValR} {V : ValT} (e : bareV v = V) (h : FitV V) : (v.words.length ≤ 1000000000 ∧ v.texts.length ≤ 1000000000 ∧ v.subs.length ≤ 1000000000) ∧ ∀ y ∈ v.subs, FitT 1000000000000 y := by
  subst e
  obtain ⟨h1, h2, h3, h4⟩ := h
  refine ⟨⟨h1, h2, ?_⟩, fun y hy => FitT.of_bare y (h4 _ (List.mem_map.2 ⟨y, hy, rfl⟩))⟩
  have h3 : (v.subs.map bare).length ≤ 1000000000 := h3
  rwa [List.length_map] at h3

theorem val_both {W w0 : World} {u v : ValR} {A0 A1 A2 : Option Addr} {c0 c1 c2 : Nat} {e0 e1 e2 : TypeId} (hu : ValAt W u) (hv : ValAt W v) (o0 : Own w0 W e0 1 A0 (u.words.length + v.words.length) c0 (u.words.map uv ++ v.words.map uv)) (o1 : Own w0 W e1 1 A1 (u.texts.length + v.texts.length) c1 (u.texts.map strV ++ v.texts.map strV)) (o2 : Own w0 W e2 2 A2 (u.subs.length + v.subs.length) c2 (u.subs.flatMap treeC ++ v.subs.flatMap treeC)) :
    ValAt W ⟨(A0, c0), (A1, c1), (A2, c2), u.number, u.words ++ v.words, u.texts ++ v.texts, u.subs ++ v.subs⟩ := by
  have r0 := o0.reads
  have r1 := o1.reads
  have r2 := o2.reads
  rw [← List.map_append, ← List.length_append] at r0 r1
  rw [← List.flatMap_append, ← List.length_append] at r2
  refine ⟨⟨hu.own.num, r0, fun x hx => ?_, ⟨r1, fun t ht => ?_⟩, r2⟩, fun y hy => ?_⟩
  · rcases List.mem_append.1 hx with hx | hx
    · exact hu.own.small x hx
    · exact hv.own.small x hx
  · rcases List.mem_append.1 ht with ht | ht
    · exact hu.own.texts.size t ht
    · exact hv.own.texts.size t ht
  · rcases List.mem_append.1 hy with hy | hy
    · exact hu.sub y hy
    · exact hv.sub y hy

set_option maxRecDepth 100000 in
set_option maxHeartbeats 4000000 in
theorem loadJoins_ok {A : Option Addr} {n c : Nat} {S : List MsgV} {f : FieldD} {B C : Option Addr} {n1 c1 n2 c2 : Nat} {xs ys : List UInt8} {d : Int} {w : World} (hs : SchemaAt w A n c S) (ha : BytesAt w B n1 c1 xs) (hb : BytesAt w C n2 c2 ys) (hl : n1 + n2 ≤ 1000) (hr : f.rep = true) (ha0 : codeL (S.map MsgV.d) f xs d = 0) (hb0 : codeL (S.map MsgV.d) f ys d = 0) :
    Calls Try.prog 3 #[.slice A n c, fieldV f, .slice B n1 c1, .slice C n2 c2, .int .i64 d] w fun e w' => e = .returned (.bool true) ∧ Ext w w' := by
  have h1 := fun W (h : SchemaAt W A n c S) (q : BytesAt W B n1 c1 xs) => lValue (f := f) (d := d) h q (by omega)
  have h2 := fun W (h : SchemaAt W A n c S) (q : BytesAt W C n2 c2 ys) => lValue (f := f) (d := d) h q (by omega)
  obtain ⟨hj0, hjv⟩ := load_join hr ha0 hb0
  have h3 := fun W (D : Option Addr) (c3 : Nat) (h : SchemaAt W A n c S) (q : BytesAt W D (n1 + n2) c3 (xs ++ ys)) => lValue (f := f) (d := d) h q (by omega)
  have e1 : toldL (S.map MsgV.d) f xs d = valueL (S.map MsgV.d) f xs d := if_pos ha0
  have e2 : toldL (S.map MsgV.d) f ys d = valueL (S.map MsgV.d) f ys d := if_pos hb0
  have e3 : toldL (S.map MsgV.d) f (xs ++ ys) d = valueL (S.map MsgV.d) f (xs ++ ys) d := if_pos hj0
  unfold ValTold at h1 h2 h3
  rw [ha0, e1] at h1
  rw [hb0, e2] at h2
  rw [hj0, e3, hjv] at h3
  have hn1 : (valueL (S.map MsgV.d) f xs d).number = f.number := valueL_number
  have fa := Lib.hid (valueL_fits (S := S.map MsgV.d) (f := f) (d := d) (show xs.length ≤ 1000 by have := BytesAt.length ha; omega))
  have fb := Lib.hid (valueL_fits (S := S.map MsgV.d) (f := f) (d := d) (show ys.length ≤ 1000 by have := BytesAt.length hb; omega))
  generalize valueL (S.map MsgV.d) f xs d = VA at *
  generalize valueL (S.map MsgV.d) f ys d = VB at *
  have ho := fun W (v : ValR) (k : ValAt W v) (l : v.subs.length ≤ 1000000000000) (fit : ∀ y ∈ v.subs, FitT 1000000000000 y) => tOfV (v := v) (fun y _ => tOf y) W k l fit
  have hsame : ∀ W (u t : ValR), bareV u = bareV t → ValAt W u → ValAt W t → Calls Try.prog 8 #[tvalV u, tvalV t] W fun e W' => e = .returned (.bool true) ∧ Ext W W' := fun W u t e h k => by
    have := rsameV h k (fun y hy z hz W2 hW2 => rSame y z W2 ((h.sub y hy).up hW2) ((k.sub z hz).up hW2))
    rwa [e, eqB_yes rfl] at this
  unfold fieldV tvalV at *
  rw [hr] at h1 h2 h3 ⊢
  have hlI : ¬ (1000 : Int) < (n1 : Int) + n2 := by omega
  have BF := BlkT.new w 25 #[.string f.name, .int .i64 f.number, .int .i64 f.kind, .bool true, .bool f.packed, .int .i64 f.of_] rfl
  have X0 : Ext w (w.alloc (.cells #[.string f.name, .int .i64 f.number, .int .i64 f.kind, .bool true, .bool f.packed, .int .i64 f.of_] 25)) := (Ext.refl w).alloc _
  have H1 := Lib.hid h1
  have H2 := Lib.hid h2
  have H3 := Lib.hid h3
  have Ho := Lib.hid ho
  have Hsame := Lib.hid hsame
  clear h1 h2 h3 ho hsame hr hj0 hjv e1 e2 e3 ha0 hb0
  go_enter Try.func3, Try.ntmps3
  go_wp2_with fail
  generalize w.alloc (.cells #[.string f.name, .int .i64 f.number, .int .i64 f.kind, .bool true, .bool f.packed, .int .i64 f.of_] 25) = wx at *
  have z0 : wx.cell? ⟨w.heap.size, 0, none⟩ = some (.string f.name) := BF.cell 0
  have z1 : wx.cell? ⟨w.heap.size, 1, none⟩ = some (.int .i64 f.number) := BF.cell 1
  have z2 : wx.cell? ⟨w.heap.size, 2, none⟩ = some (.int .i64 f.kind) := BF.cell 2
  have z3 : wx.cell? ⟨w.heap.size, 3, none⟩ = some (.bool true) := BF.cell 3
  have z4 : wx.cell? ⟨w.heap.size, 4, none⟩ = some (.bool f.packed) := BF.cell 4
  have z5 : wx.cell? ⟨w.heap.size, 5, none⟩ = some (.int .i64 f.of_) := BF.cell 5
  replace hs := hs.up X0
  replace ha := ha.up X0
  replace hb := hb.up X0
  have hX := Ext.refl wx
  clear BF
  go_wp2_with (first
    | (go_at_call 4; refine (alive20 _).mono ?_; rintro e w1 ⟨rfl, E1⟩; have X_ : Ext wx w1 := Ext.trans (by repeat with_reducible (first | exact Ext.refl _ | refine Ext.alloc ?_ _ | refine Ext.drew ?_ | refine Ext.drewN ?_ _ | refine Ext.setCell ?_ (by first | exact Nat.le_refl _ | omega | (simp; done) | (simp; omega)) _)) E1; replace hX := hX.up X_; replace hs := hs.up X_; replace ha := ha.up X_; replace hb := hb.up X_; replace z0 := X_.of_cell z0; replace z1 := X_.of_cell z1; replace z2 := X_.of_cell z2; replace z3 := X_.of_cell z3; replace z4 := X_.of_cell z4; replace z5 := X_.of_cell z5; clear X_)
    | (go_at_call 5; refine (few07 hs).mono ?_; rintro e w2 ⟨x, rfl, E2⟩; have X_ : Ext w1 w2 := Ext.trans (by repeat with_reducible (first | exact Ext.refl _ | refine Ext.alloc ?_ _ | refine Ext.drew ?_ | refine Ext.drewN ?_ _ | refine Ext.setCell ?_ (by first | exact Nat.le_refl _ | omega | (simp; done) | (simp; omega)) _)) E2; replace hX := hX.up X_; replace hs := hs.up X_; replace ha := ha.up X_; replace hb := hb.up X_; replace z0 := X_.of_cell z0; replace z1 := X_.of_cell z1; replace z2 := X_.of_cell z2; replace z3 := X_.of_cell z3; replace z4 := X_.of_cell z4; replace z5 := X_.of_cell z5; clear X_)
    | (go_at_call 6; (with_reducible refine (H1.out _ hs ha).mono ?_); rintro e w3 ⟨y, rfl, p1, p2, p3, E3⟩; have X_ : Ext w2 w3 := Ext.trans (by repeat with_reducible (first | exact Ext.refl _ | refine Ext.alloc ?_ _ | refine Ext.drew ?_ | refine Ext.drewN ?_ _ | refine Ext.setCell ?_ (by first | exact Nat.le_refl _ | omega | (simp; done) | (simp; omega)) _)) E3; replace hX := hX.up X_; replace hs := hs.up X_; replace ha := ha.up X_; replace hb := hb.up X_; replace z0 := X_.of_cell z0; replace z1 := X_.of_cell z1; replace z2 := X_.of_cell z2; replace z3 := X_.of_cell z3; replace z4 := X_.of_cell z4; replace z5 := X_.of_cell z5; clear X_; have l3 := World.block_lt_of_cell? w3 _ z0;  have P1 := Lib.hid p1;  clear p1 p3)
    | (go_at_call 6; (with_reducible refine (H2.out _ (hs.up (by repeat with_reducible (first | exact Ext.refl _ | refine Ext.alloc ?_ _ | refine Ext.drew ?_ | refine Ext.drewN ?_ _ | refine Ext.setCell ?_ (by first | exact Nat.le_refl _ | omega | (simp; done) | (simp; omega)) _))) (hb.up (by repeat with_reducible (first | exact Ext.refl _ | refine Ext.alloc ?_ _ | refine Ext.drew ?_ | refine Ext.drewN ?_ _ | refine Ext.setCell ?_ (by first | exact Nat.le_refl _ | omega | (simp; done) | (simp; omega)) _)))).mono ?_); rintro e w4 ⟨y', rfl, r1, r2, r3, E4⟩; have X_ : Ext w3 w4 := Ext.trans (by repeat with_reducible (first | exact Ext.refl _ | refine Ext.alloc ?_ _ | refine Ext.drew ?_ | refine Ext.drewN ?_ _ | refine Ext.setCell ?_ (by first | exact Nat.le_refl _ | omega | (simp; done) | (simp; omega)) _)) E4; replace hX := hX.up X_; replace hs := hs.up X_; replace ha := ha.up X_; replace hb := hb.up X_; replace p2 := p2.up X_; replace z0 := X_.of_cell z0; replace z1 := X_.of_cell z1; replace z2 := X_.of_cell z2; replace z3 := X_.of_cell z3; replace z4 := X_.of_cell z4; replace z5 := X_.of_cell z5; clear X_; have BX := (BlkT.new w3 33 #[.int .i64 y.number, .slice y.a.1 y.words.length y.a.2, .slice y.b.1 y.texts.length y.b.2, .slice y.c.1 y.subs.length y.c.2] rfl).up E4;  have l4 := World.block_lt_of_cell? w4 _ z0;  have R1 := Lib.hid r1;  clear r1 r3))
  rotate_left
  · go_ret
    exact ⟨rfl, X0.trans hX⟩
  have BY := BlkT.new w4 33 #[.int .i64 y'.number, .slice y'.a.1 y'.words.length y'.a.2, .slice y'.b.1 y'.texts.length y'.b.2, .slice y'.c.1 y'.subs.length y'.c.2] rfl
  have X5 : Ext w4 (w4.alloc (.cells #[.int .i64 y'.number, .slice y'.a.1 y'.words.length y'.a.2, .slice y'.b.1 y'.texts.length y'.b.2, .slice y'.c.1 y'.subs.length y'.c.2] 33)) := (Ext.refl w4).alloc _
  generalize w4.alloc (.cells #[.int .i64 y'.number, .slice y'.a.1 y'.words.length y'.a.2, .slice y'.b.1 y'.texts.length y'.b.2, .slice y'.c.1 y'.subs.length y'.c.2] 33) = w5 at *
  generalize w4.heap.size = kb at *
  generalize w3.heap.size = ka at *
  replace hX := hX.trans X5
  replace hs := hs.up X5
  replace ha := ha.up X5
  replace hb := hb.up X5
  replace p2 := p2.up X5
  replace r2 := r2.up X5
  replace BX := BX.up X5
  replace z0 := X5.of_cell z0
  replace z1 := X5.of_cell z1
  replace z2 := X5.of_cell z2
  replace z3 := X5.of_cell z3
  replace z4 := X5.of_cell z4
  replace z5 := X5.of_cell z5
  have HS := Lib.hid hs
  have Hc := Lib.hid (fun W A3 c3 (E : Ext w5 W) h => H3.out W A3 c3 (HS.out.up E) h)
  refine calm (fun _ _ _ hd h => ⟨hd, h.2⟩) (ljreg9 (f := f) z0 z1 z2 z3 z4 z5 ha hb hl Hc ?_)
  intro v62 v63 v64 v65 v66 v67 v68 v69 v70 v71 v72 v73 kz z w6 X6 lz q1 q2 BZ
  have QZ := Lib.hid q1
  clear q1 Hc H1 H2 H3 HS z0 z1 z2 z3 z4 z5
  replace hX := hX.trans X6
  replace hs := hs.up X6
  replace p2 := p2.up X6
  replace r2 := r2.up X6
  replace BX := BX.up X6
  replace BY := BY.up X6
  have x0 : w6.cell? ⟨ka, 0, none⟩ = some (.int .i64 y.number) := BX.cell 0
  have x1 : w6.cell? ⟨ka, 1, none⟩ = some (.slice y.a.1 y.words.length y.a.2) := BX.cell 1
  have x2 : w6.cell? ⟨ka, 2, none⟩ = some (.slice y.b.1 y.texts.length y.b.2) := BX.cell 2
  have x3 : w6.cell? ⟨ka, 3, none⟩ = some (.slice y.c.1 y.subs.length y.c.2) := BX.cell 3
  have y0 : w6.cell? ⟨kb, 0, none⟩ = some (.int .i64 y'.number) := BY.cell 0
  have y1 : w6.cell? ⟨kb, 1, none⟩ = some (.slice y'.a.1 y'.words.length y'.a.2) := BY.cell 1
  have y2 : w6.cell? ⟨kb, 2, none⟩ = some (.slice y'.b.1 y'.texts.length y'.b.2) := BY.cell 2
  have y3 : w6.cell? ⟨kb, 3, none⟩ = some (.slice y'.c.1 y'.subs.length y'.c.2) := BY.cell 3
  clear BX BY ha hb
  have Hof0 : Hid (∀ W, Ext w6 W → Calls Try.prog 7 #[.agg #[.int .i64 y.number, .slice y.a.1 y.words.length y.a.2, .slice y.b.1 y.texts.length y.b.2, .slice y.c.1 y.subs.length y.c.2]] W fun e W' => ∃ z, e = .returned (tvalV z) ∧ (bareV z = VA) ∧ ValAt W' z ∧ (∀ b, UsesV z b → b < w6.heap.size ∨ W.heap.size ≤ b) ∧ Ext W W') := by
    refine Lib.hid fun W E => ?_
    obtain ⟨l, fit⟩ := FitV.of_bare P1.out fa.out
    refine (Ho.out W y (p2.up E) (by omega) fit).mono ?_
    rintro e W' ⟨u, rfl, u1, u2, u3, u4⟩
    exact ⟨u, rfl, u1.trans P1.out, u2, fun b hb => (u3 b hb).imp (fun h => p2.lt h) id, u4⟩
  have Hof1 : Hid (∀ W, Ext w6 W → Calls Try.prog 7 #[.agg #[.int .i64 y'.number, .slice y'.a.1 y'.words.length y'.a.2, .slice y'.b.1 y'.texts.length y'.b.2, .slice y'.c.1 y'.subs.length y'.c.2]] W fun e W' => ∃ z, e = .returned (tvalV z) ∧ (bareV z = VB) ∧ ValAt W' z ∧ (∀ b, UsesV z b → b < w6.heap.size ∨ W.heap.size ≤ b) ∧ Ext W W') := by
    refine Lib.hid fun W E => ?_
    obtain ⟨l, fit⟩ := FitV.of_bare R1.out fb.out
    refine (Ho.out W y' (r2.up E) (by omega) fit).mono ?_
    rintro e W' ⟨u, rfl, u1, u2, u3, u4⟩
    exact ⟨u, rfl, u1.trans R1.out, u2, fun b hb => (u3 b hb).imp (fun h => r2.lt h) id, u4⟩
  go_wp2_with fail
  refine calm (fun _ _ _ hd h => ⟨hd, h.2⟩) (ljreg10 (P0 := fun z => bareV z = VA) (P1 := fun z => bareV z = VB) x0 x1 x2 x3 y0 y1 y2 y3 Hof0 Hof1 ?_)
  intro v74 v75 v76 v77 zA zB k0 k1 w7 X7 pA aA gA _ _ pB aB gB _ _ _ _ _ _
  have LA := (FitV.of_bare pA fa.out).1
  have LB := (FitV.of_bare pB fb.out).1
  have PA := Lib.hid pA
  have PB := Lib.hid pB
  clear pA pB Hof0 Hof1 p2 r2 x0 x1 x2 x3 y0 y1 y2 y3
  replace hX := hX.trans X7
  replace q2 := q2.up X7
  replace BZ := BZ.up X7
  go_wp2_with fail
  refine calm (fun _ _ _ hd h => ⟨hd, h.2⟩) (ljreg11 aA aB gA gB LA LB ?_)
  intro v19 v78 v79 v80 v81 v82 v83 v84 v85 v86 v87 v88 v89 v90 v91 v92 v93 v94 v95 v96 v97 v98 v99 v100 v101 kn A20 A21 A22 c20 c21 c22 w8 e19 X8 ln BN o0 o1 o2
  subst e19
  replace hX := hX.trans X8
  replace q2 := q2.up X8
  replace BZ := BZ.up X8
  have va := val_both (aA.up X8) (aB.up X8) o0 o1 o2
  obtain ⟨vn, hvn⟩ : ∃ vn : ValR, vn = ⟨(A20, c20), (A21, c21), (A22, c22), zA.number, zA.words ++ zB.words, zA.texts ++ zB.texts, zA.subs ++ zB.subs⟩ := ⟨_, rfl⟩
  have BN2 : BlkT w8 kn 39 #[.int .i64 vn.number, .slice vn.a.1 vn.words.length vn.a.2, .slice vn.b.1 vn.texts.length vn.b.2, .slice vn.c.1 vn.subs.length vn.c.2] := by
    rw [hvn]
    simp only [List.length_append]
    exact BN
  rw [← hvn] at va
  have hbn : bareV vn = ⟨(), (), (), f.number, VA.words ++ VB.words, VA.texts ++ VB.texts, VA.subs ++ VB.subs⟩ := by
    have e1 := PA.out
    have e2 := PB.out
    rw [hvn, ← hn1, ← e1, ← e2]
    unfold bareV
    simp only [List.map_append]
  have HN := Lib.hid hbn
  clear hbn hvn BN o0 o1 o2 aA aB gA gB LA LB
  have t0 : w8.cell? ⟨kz, 0, none⟩ = some (.int .i64 z.number) := BZ.cell 0
  have t1 : w8.cell? ⟨kz, 1, none⟩ = some (.slice z.a.1 z.words.length z.a.2) := BZ.cell 1
  have t2 : w8.cell? ⟨kz, 2, none⟩ = some (.slice z.b.1 z.texts.length z.b.2) := BZ.cell 2
  have t3 : w8.cell? ⟨kz, 3, none⟩ = some (.slice z.c.1 z.subs.length z.c.2) := BZ.cell 3
  have r0 : w8.cell? ⟨kn, 0, none⟩ = some (.int .i64 vn.number) := BN2.cell 0
  have r1 : w8.cell? ⟨kn, 1, none⟩ = some (.slice vn.a.1 vn.words.length vn.a.2) := BN2.cell 1
  have r2 : w8.cell? ⟨kn, 2, none⟩ = some (.slice vn.b.1 vn.texts.length vn.b.2) := BN2.cell 2
  have r3 : w8.cell? ⟨kn, 3, none⟩ = some (.slice vn.c.1 vn.subs.length vn.c.2) := BN2.cell 3
  have lkz := BZ.lt
  have lkn := BN2.lt
  have hfz2 : z.subs.length ≤ 1000000000000 ∧ ∀ y ∈ z.subs, FitT 1000000000000 y := by
    have e := QZ.out
    have es : z.subs.map bare = VA.subs ++ VB.subs := by
      have : (bareV z).subs = VA.subs ++ VB.subs := by rw [e]
      exact this
    obtain ⟨_, _, a3, a4⟩ := fa.out
    obtain ⟨_, _, b3, b4⟩ := fb.out
    refine ⟨?_, fun y hy => FitT.of_bare y ?_⟩
    · have : (z.subs.map bare).length = (VA.subs ++ VB.subs).length := by rw [es]
      rw [List.length_map, List.length_append] at this
      omega
    · have : bare y ∈ VA.subs ++ VB.subs := by rw [← es]; exact List.mem_map.2 ⟨y, hy, rfl⟩
      rcases List.mem_append.1 this with h | h
      · exact a4 _ h
      · exact b4 _ h
  have HF := Lib.hid hfz2.2
  have hlz := hfz2.1
  clear BZ BN2 X6 X7 X8 hfz2 fa fb P1 R1 PA PB
  have G8 : Ext w8 w8 := Ext.refl w8
  go_wp2_with fail
  go_region_held3 (fun W => Ext w8 W ∧ ∀ b o, b < w8.heap.size → W.cell? ⟨b, o, none⟩ = w8.cell? ⟨b, o, none⟩) ((refine Ext.keep ?_; repeat with_reducible (first | assumption | exact Ext.refl _ | refine Ext.alloc ?_ _ | refine Ext.drew ?_ | refine Ext.drewN ?_ _ | refine Ext.setCell ?_ (by first | exact Nat.le_refl _ | omega | (simp; done) | (simp; omega)) _))) (first
    | (go_split_ands; go_at_call 7; refine (Ho.out _ z (q2.up (by with_reducible assumption)) hlz HF.out).mono ?_; rintro e w9 ⟨u, rfl, u1, u2, _, E9⟩; have q9 : Ext w8 w9 := Ext.trans (by with_reducible assumption) E9; have U1 := Lib.hid u1; clear u1)
    | (go_split_ands; go_at_call 8; refine (Hsame.out _ u vn ((U1.out.trans QZ.out).trans HN.out.symm) (u2.up (by repeat with_reducible (first | exact Ext.refl _ | refine Ext.alloc ?_ _ | refine Ext.drew ?_ | refine Ext.drewN ?_ _ | refine Ext.setCell ?_ (by first | exact Nat.le_refl _ | omega | (simp; done) | (simp; omega)) _))) (va.up (by with_reducible assumption))).mono ?_; rintro e w10 ⟨rfl, E10⟩; have q10 : Ext w8 w10 := Ext.trans (by with_reducible assumption) E10))
  go_wp2
  go_ret
  exact ⟨rfl, X0.trans (hX.trans (Ext.trans q10 (by repeat with_reducible (first | exact Ext.refl _ | refine Ext.alloc ?_ _ | refine Ext.drew ?_ | refine Ext.drewN ?_ _ | refine Ext.setCell ?_ (by first | exact Nat.le_refl _ | omega | (simp; done) | (simp; omega)) _))))⟩

theorem loadJoins_walk {A : Option Addr} {n c : Nat} {S : List MsgV} {f : FieldD} {B C : Option Addr} {n1 c1 n2 c2 : Nat} {xs ys : List UInt8} {d : Int} {w : World} (hs : SchemaAt w A n c S) (ha : BytesAt w B n1 c1 xs) (s1 : c1 * 1 ≤ 140737488351232) (hb : BytesAt w C n2 c2 ys) (s2 : c2 * 1 ≤ 140737488351232) :
    Calls Try.prog 3 #[.slice A n c, fieldV f, .slice B n1 c1, .slice C n2 c2, .int .i64 d] w fun e w' => e = .returned (.bool true) ∧ Ext w w' := by
  by_cases hl : 1000 < n1 + n2
  · exact loadJoins_off hs ha s1 hb s2 (.inl hl)
  · rcases (show f.rep = false ∨ f.rep = true by cases f.rep <;> simp) with hr | hr
    · exact loadJoins_off hs ha s1 hb s2 (.inr hr)
    · by_cases h1 : codeL (S.map MsgV.d) f xs d = 0
      · by_cases h2 : codeL (S.map MsgV.d) f ys d = 0
        · exact loadJoins_ok hs ha hb (by omega) hr h1 h2
        · exact loadJoins_bad hs ha hb (by omega) hr (.inr h2)
      · exact loadJoins_bad hs ha hb (by omega) hr (.inl h1)

end Go.Proofs.Ytnnphodgegcddaa
