/- The drawn regions of the reference's Of, as laws of their own. -/
import Derived.Test.YtgjhglehghjoeaaGreatQbM14p
import Derived.Test.YtgjhglehghjoeaaGreatQbS14o
import Derived.Test.YtgjhglehghjoeaaGreatQbW14p
import Derived.Deep.DeepCutAuto
import Derived.Test.YtgjhglehghjoeaaGreatQbW9r
import Derived.Test.YtgjhglehghjoeaaGreatQbKScalarReads
import Derived.Test.YtgjhglehghjoeaaGreatQbW7f
import Derived.Test.YtgjhglehghjoeaaGreatQbWSort
import Derived.StillTailTactics
import Derived.Test.YtgjhglehghjoeaaGreatQbW14u
import Derived.Test.YtgjhglehghjoeaaGreatQbW11
import Derived.Test.YtgjhglehghjoeaaGreatQbKSchemaChecks

namespace Go.Proofs.YtgjhglehghjoeaaGreat
open Go.RowKit Go.Shelf
set_option linter.unusedVariables false

def regionOf (n : Nat) : Code → Option Code
  | .region i ops d => if i = n then some (.region i ops d) else none
  | .loop c => regionOf n c
  | .seq a b => match regionOf n a with
    | some c => some c
    | none => regionOf n b
  | .block _ c => regionOf n c
  | .scope c => regionOf n c
  | .cond _ a b => match regionOf n a with
    | some c => some c
    | none => regionOf n b
  | _ => none

def calmQ (Q : Exit → Act → World → Prop) : Exit → Act → World → Prop
  | .panic x, a, w => a.defers = [] ∧ Q (.panic x) ⟨#[], []⟩ w
  | e, a, w => Q e a w

theorem calm {P : Program} {c : Code} {Q : Exit → Act → World → Prop} {a : Act} {w : World} (hq : ∀ x a w, a.defers = [] → Q (.panic x) ⟨#[], []⟩ w → Q (.panic x) a w) (h : c.wp P (calmQ Q) a w) : c.wp P Q a w :=
  Code.wp_mono (fun e a w h => by
    cases e
    all_goals first | exact h | exact hq _ _ _ h.1 h.2) h

structure RUnk (w w9 wr : World) (bx : Nat) (bs : List UInt8) (L : List ViewD) (V : Option Addr) (vn vc k : Nat) (U : Option Addr) (un uc : Nat) : Prop where
  x : BlkT wr bx 47 #[.slice V vn vc, .slice U un uc]
  unk : Own w wr 9 1 U un uc ((unkO bs (L.take k)).map strV)
  unL : un = (unkO bs (L.take k)).length
  unew : ∀ b, (Value.slice U 0 0).ownBlock = some b → w9.heap.size ≤ b
  stays : Stays (fun b => b ≠ bx) w9 wr

theorem RUnk.step {w w9 wr : World} {bx : Nat} {bs : List UInt8} {L : List ViewD} {V : Option Addr} {vn vc k : Nat} {U : Option Addr} {un uc : Nat} (h : RUnk w w9 wr bx bs L V vn vc k U un uc) (hb : w.heap.size ≤ bx) (h9 : bx < w9.heap.size) {v : ViewD} (hv : L[k]? = some v) (hneg : v.field < 0) {W0 : World} (X : Ext wr W0) {ob : Obj} {A7 : Option Addr} {c7 : Nat} {w7 : World}
    (own7 : Own w w7 9 1 A7 (un + 1) c7 ((unkO bs (L.take k)).map strV ++ [.string ⟨(spanB bs v.r.f v.r.t).toArray⟩])) (g7 : (W0.alloc ob).grownBy w7 (Value.slice U un uc).ownBlock) (m7 : Moved (W0.alloc ob) U A7) :
    RUnk w w9 (w7.setCell ⟨bx, 1, none⟩ (.slice A7 (un + 1) c7)) bx bs L V vn vc (k + 1) A7 (un + 1) c7 := by
  have hX : Ext wr (W0.alloc ob) := X.alloc ob
  have hu := h.unk.up hX
  have B7 := (h.x.up hX).beside hu (by decide) g7
  have hsz := h.stays.size
  have hsz2 := hX.size
  have hfar := own7.far B7 (by decide) hb 1 (.slice A7 (un + 1) c7)
  refine ⟨B7.set_ 1 _, ?_, ?_, fun b hb => ?_, ?_⟩
  · rw [unkO_yes hv hneg, List.map_append]
    exact hfar
  · rw [unkO_yes hv hneg, List.length_append, ← h.unL]
    rfl
  · rcases m7 with q | q
    · rw [q] at hb
      exact h.unew b hb
    · rw [q] at hb
      injection hb with hb
      omega
  · have hS0 : Stays (fun b => (Value.slice U 0 0).ownBlock ≠ some b ∧ b ≠ bx) (W0.alloc ob) (w7.setCell ⟨bx, 1, none⟩ (.slice A7 (un + 1) c7)) :=
      (Stays.grown g7 (fun b hb q => q.1 (by rw [ownBlock_any U un uc 0 0] at hb; exact hb))).set (fun q => q.2 rfl) _
    refine ⟨Nat.le_trans hsz (Nat.le_trans hsz2 hS0.size), fun b hb hlt2 => ?_⟩
    rw [hS0.block b ⟨fun q => ?_, hb⟩ (by omega), hX.block b (by omega), h.stays.block b hb hlt2]
    have := h.unew b q
    omega





end Go.Proofs.YtgjhglehghjoeaaGreat

/- Contracts of layer 14: what bytes mean, as the reference has it. -/









namespace Go.Proofs.YtgjhglehghjoeaaGreat
open Go.RowKit Go.Shelf
set_option linter.unusedVariables false

structure ROut (w w6 wr : World) (bx : Nat) (U : Option Addr) (un uc : Nat) (V : Option Addr) (vn vc : Nat) (ys : List ValR) : Prop where
  x : BlkT wr bx 47 #[.slice V vn vc, .slice U un uc]
  own : Own w wr 38 4 V vn vc (ys.flatMap tvalC)
  vnL : vn = ys.length
  vnew : ∀ b, (Value.slice V 0 0).ownBlock = some b → w6.heap.size ≤ b
  stays : Stays (fun b => b ≠ bx) w6 wr
  at_ : ∀ y ∈ ys, ValAt wr y
  away : ∀ y ∈ ys, ∀ b, UsesV y b → w6.heap.size ≤ b ∧ (Value.slice V 0 0).ownBlock ≠ some b

section
variable {w w6 wr wz : World} {bx : Nat} {U : Option Addr} {un uc : Nat} {V : Option Addr} {vn vc : Nat} {ys : List ValR}

theorem ROut.up (h : ROut w w6 wr bx U un uc V vn vc ys) (k : Ext wr wz) : ROut w w6 wz bx U un uc V vn vc ys :=
  ⟨h.x.up k, h.own.up k, h.vnL, h.vnew, h.stays.trans (Stays.of_ext k), fun y hy => (h.at_ y hy).up k, h.away⟩

theorem ROut.put (h : ROut w w6 wr bx U un uc V vn vc ys) (hb : w.heap.size ≤ bx) (h6 : bx < w6.heap.size) {u : ValR} (E : Ext wr wz) (hu : ValAt wz u) (ha : ∀ b, UsesV u b → wr.heap.size ≤ b)
    {ob : Obj} {V7 : Option Addr} {c7 : Nat} {w7 : World} (own7 : Own w w7 38 4 V7 (vn + 1) c7 (ys.flatMap tvalC ++ tvalC u)) (g7 : (wz.alloc ob).grownBy w7 (Value.slice V vn vc).ownBlock) (m7 : Moved (wz.alloc ob) V V7) :
    ROut w w6 (w7.setCell ⟨bx, 0, none⟩ (.slice V7 (vn + 1) c7)) bx U un uc V7 (vn + 1) c7 (ys ++ [u]) := by
  have X0 : Ext wr (wz.alloc ob) := E.alloc ob
  have hxu := h.own.up X0
  have hB := (h.x.up X0).beside hxu (by decide) g7
  have hlt := h.stays.size
  have hsz : wz.heap.size < (wz.alloc ob).heap.size := by simp
  have hsz2 := E.size
  have hS0 : Stays (fun b => (Value.slice V 0 0).ownBlock ≠ some b ∧ b ≠ bx) (wz.alloc ob) (w7.setCell ⟨bx, 0, none⟩ (.slice V7 (vn + 1) c7)) :=
    (Stays.grown g7 (fun b hb q => q.1 (by rw [ownBlock_any V vn vc 0 0] at hb; exact hb))).set (fun q => q.2 rfl) _
  have hS := (Stays.of_ext X0).trans hS0
  have hfar := own7.far hB (by decide) hb 0 (.slice V7 (vn + 1) c7)
  have hnr : ∀ b, b < wz.heap.size → (Value.slice V 0 0).ownBlock ≠ some b → (Value.slice V7 0 0).ownBlock ≠ some b := by
    intro b hb h0
    rcases m7 with q | q
    · rw [q]; exact h0
    · rw [q]
      intro r
      injection r with r
      omega
  have hall : ∀ y ∈ ys ++ [u], ValAt wz y ∧ ∀ b, UsesV y b → w6.heap.size ≤ b ∧ (Value.slice V 0 0).ownBlock ≠ some b := by
    intro y hy
    rcases List.mem_append.1 hy with hy | hy
    · exact ⟨(h.at_ y hy).up E, h.away y hy⟩
    · rw [List.mem_singleton] at hy
      subst hy
      refine ⟨hu, fun b hb => ?_⟩
      have := ha b hb
      refine ⟨by omega, fun q => ?_⟩
      have := (h.own.new_lt q).2
      omega
  refine ⟨hB.set_ 0 _, ?_, ?_, fun b hb => ?_, ?_, fun y hy => ((hall y hy).1.up ((Ext.refl wz).alloc ob)).stays hS0 (fun b hb => ?_), fun y hy b hb => ?_⟩
  · rw [List.flatMap_append]
    simpa using hfar
  · rw [List.length_append, ← h.vnL]
    rfl
  · rcases m7 with q | q
    · rw [q] at hb
      exact h.vnew b hb
    · rw [q] at hb
      injection hb with hb
      omega
  · refine ⟨Nat.le_trans hlt hS.size, fun b hb hlt2 => ?_⟩
    rw [hS.block b ⟨fun q => ?_, hb⟩ (by omega), h.stays.block b hb hlt2]
    have := h.vnew b q
    omega
  · have := (hall y hy).2 b hb
    exact ⟨this.2, by omega⟩
  · have := (hall y hy).2 b hb
    exact ⟨this.1, hnr b ((hall y hy).1.lt hb) this.2⟩
end

end Go.Proofs.YtgjhglehghjoeaaGreat

/- Contracts of layer 14: tree.Of. -/




namespace Go.Proofs.YtgjhglehghjoeaaGreat
open Go.RowKit Go.Shelf
set_option linter.unusedVariables false

theorem oOf {S : List MsgV} (hR : rightS (S.map MsgV.d) = true) : ∀ d, d ≤ 100000 → OfP S (d + 1) (ofV (S.map MsgV.d) d)
  | 0, _ => oStep hR (Nat.zero_le _) (fun w SA sn sc m A n c bs _ _ _ h => absurd h (Nat.not_lt_zero n))
  | d + 1, h => oStep hR (by omega) (oOf hR d (by omega))

def OfT (S : List MsgD) (root : Int) (bs : List UInt8) (d : Int) : MsgT := if (checkB S root bs d).2 = 0 then ofV S bs.length root.toNat bs else .mk () () [] []

theorem check_right {S : List MsgD} {root d : Int} {bs : List UInt8} (h : (checkB S root bs d).2 = 0) : rightS S = true ∧ 0 ≤ root ∧ root < S.length ∧ 0 ≤ d ∧ d ≤ 64 ∧ (firstV S d.toNat root.toNat bs).2 = 0 := by
  unfold checkB at h
  by_cases h0 : argsV S root d = 0
  · rw [if_pos h0] at h
    unfold argsV at h0
    split at h0
    · cases h0
    · rename_i hr
      split at h0
      · cases h0
      · exact ⟨by simpa using hr, by omega, by omega, by omega, by omega, h⟩
  · rw [if_neg h0] at h
    exact absurd h h0

theorem bare_none : bare (MsgX.mk ((none, 0) : Sl) (none, 0) [] []) = .mk () () [] [] := by rw [bare_eq]; rfl

theorem treeAt_none (w : World) : TreeAt w (.mk (none, 0) (none, 0) [] []) :=
  TreeAt.of (Reads.nil w 4) ⟨Reads.nil w 1, (fun t ht => by cases ht)⟩ (fun v hv => by cases hv)

theorem uses_none {b : Nat} (h : UsesT (.mk (none, 0) (none, 0) [] []) b) : False := by
  rcases h.cases' with h | h | ⟨v, hv, _⟩
  · exact absurd h.1 (Nat.lt_irrefl 0)
  · exact absurd h.1 (Nat.lt_irrefl 0)
  · cases hv

theorem tOfB {A : Option Addr} {n c : Nat} {S : List MsgV} {root d : Int} {B : Option Addr} {n' c' : Nat} {bs : List UInt8} {w : World} (hs : SchemaAt w A n c S) (hb : BytesAt w B n' c' bs) (hn : n' ≤ 100000) :
    Calls Tryz.prog 33 #[.slice A n c, .int .i64 root, .slice B n' c', .int .i64 d] w fun e w' => ∃ y, e = .returned (.tuple #[treeV y, .int .u8 ((checkB (S.map MsgV.d) root bs d).2 : Nat)]) ∧
      bare y = OfT (S.map MsgV.d) root bs d ∧ TreeAt w' y ∧ (∀ b, UsesT y b → w.heap.size ≤ b) ∧ Ext w w' := by
  have hc := fun W (h : SchemaAt W A n c S) (h2 : BytesAt W B n' c' bs) => vCheck (root := root) (d := d) h h2 (by omega)
  have Hc := Lib.hid hc
  clear hc
  by_cases h0 : (checkB (S.map MsgV.d) root bs d).2 = 0
  · obtain ⟨hR, r1, r2, _⟩ := check_right h0
    obtain ⟨m, rfl⟩ := Int.eq_ofNat_of_zero_le r1
    have hm : m < S.length := by simpa using r2
    have ho := fun W (h : SchemaAt W A n c S) (h2 : BytesAt W B n' c' bs) => oOf hR n' hn W A n c m B n' c' bs h hm h2 (Nat.lt_succ_self _)
    have hO : OfT (S.map MsgV.d) (m : Int) bs d = ofV (S.map MsgV.d) n' m bs := by unfold OfT; rw [if_pos h0, hb.length]; rfl
    rw [hO]
    have Ho := Lib.hid ho
    clear ho
    generalize checkB (S.map MsgV.d) (m : Int) bs d = V at *
    obtain ⟨p, C⟩ := V
    simp only at h0 Hc ⊢
    subst h0
    unfold treeV at Ho ⊢
    go_enter Tryz.func33, Tryz.ntmps33
    go_wp2_with (first
      | (go_at_call 86; refine (Hc.out _ (hs.up (by repeat with_reducible (first | exact Ext.refl _ | refine Ext.alloc ?_ _ | refine Ext.drew ?_ | refine Ext.drewN ?_ _ | refine Ext.setCell ?_ (by first | exact Nat.le_refl _ | omega | (simp; done) | (simp; omega)) _))) (hb.up (by repeat with_reducible (first | exact Ext.refl _ | refine Ext.alloc ?_ _ | refine Ext.drew ?_ | refine Ext.drewN ?_ _ | refine Ext.setCell ?_ (by first | exact Nat.le_refl _ | omega | (simp; done) | (simp; omega)) _)))).mono ?_; rintro e w1 ⟨rfl, E1'⟩; have E1 : Ext w w1 := Ext.trans (by repeat with_reducible (first | exact Ext.refl _ | refine Ext.alloc ?_ _ | refine Ext.drew ?_ | refine Ext.drewN ?_ _ | refine Ext.setCell ?_ (by first | exact Nat.le_refl _ | omega | (simp; done) | (simp; omega)) _)) E1'; have B1 := (BlkT.new w 43 #[.slice none 0 0, .slice none 0 0] rfl).up E1'; have z0w1 : w1.cell? ⟨w.heap.size, 0, none⟩ = some (.slice none 0 0) := B1.cell 0; have z1w1 : w1.cell? ⟨w.heap.size, 1, none⟩ = some (.slice none 0 0) := B1.cell 1; have f0w1 := B1.free 0; have f1w1 := B1.free 1; have lw1 := B1.lt)
      | (go_at_call 87; refine (Ho.out _ (hs.up (by repeat with_reducible (first | exact E1 | exact Ext.refl _ | refine Ext.alloc ?_ _ | refine Ext.drew ?_ | refine Ext.drewN ?_ _ | refine Ext.setCell ?_ (by first | exact Nat.le_refl _ | omega | (simp; done) | (simp; omega)) _))) (hb.up (by repeat with_reducible (first | exact E1 | exact Ext.refl _ | refine Ext.alloc ?_ _ | refine Ext.drew ?_ | refine Ext.drewN ?_ _ | refine Ext.setCell ?_ (by first | exact Nat.le_refl _ | omega | (simp; done) | (simp; omega)) _)))).mono ?_; rintro e w2 ⟨y, rfl, hy1, hy2, hy3, E2'⟩; have E2 : Ext w w2 := Ext.trans (by repeat with_reducible (first | exact E1 | exact Ext.refl _ | refine Ext.alloc ?_ _ | refine Ext.drew ?_ | refine Ext.drewN ?_ _ | refine Ext.setCell ?_ (by first | exact Nat.le_refl _ | omega | (simp; done) | (simp; omega)) _)) E2'; have B2 := B1.up E2'; have z0w2 : w2.cell? ⟨w.heap.size, 0, none⟩ = some (.slice none 0 0) := B2.cell 0; have z1w2 : w2.cell? ⟨w.heap.size, 1, none⟩ = some (.slice none 0 0) := B2.cell 1; have f0w2 := B2.free 0; have f1w2 := B2.free 1; have lw2 := B2.lt))
    (try simp only [Exit.inBlock, Exit.then])
    have B0 := (B2.set_ 0 (.slice y.a.1 y.vals.length y.a.2)).set_ 1 (.slice y.b.1 y.unk.length y.b.2)
    have s1 := E1'.size
    have s1' : w.heap.size + 1 ≤ w1.heap.size := by simpa using s1
    have EF : Ext w ((w2.setCell ⟨w.heap.size, 0, none⟩ (.slice y.a.1 y.vals.length y.a.2)).setCell ⟨w.heap.size, 1, none⟩ (.slice y.b.1 y.unk.length y.b.2)) := (E2.setCell (show w.heap.size ≤ w.heap.size by omega) _).setCell (show w.heap.size ≤ w.heap.size by omega) _
    have hS2 : Stays (fun b => b ≠ w.heap.size) w2 ((w2.setCell ⟨w.heap.size, 0, none⟩ (.slice y.a.1 y.vals.length y.a.2)).setCell ⟨w.heap.size, 1, none⟩ (.slice y.b.1 y.unk.length y.b.2)) :=
      ((Stays.refl _ w2).set (fun e => e rfl) _).set (fun e => e rfl) _
    refine bodyPost_ret (results_cell_row2 (ty := 43) rfl _ _ w.heap.size _ _ (0, 0) _ rfl B0 Tryz.underlying43 rfl (by kernel_rfl)) rfl ?_
    exact ⟨y, rfl, hy1, hy2.stays hS2 (fun b hb => by have := hy3 b hb; omega), fun b hb => by have := hy3 b hb; omega, EF⟩
  · have hO : OfT (S.map MsgV.d) root bs d = .mk () () [] [] := if_neg h0
    rw [hO]
    generalize checkB (S.map MsgV.d) root bs d = V at *
    obtain ⟨p, C⟩ := V
    simp only at h0 Hc ⊢
    have h0' : ¬ ((C : Int) = 0) := by omega
    go_enter Tryz.func33, Tryz.ntmps33
    go_wp2_with (go_at_call 86; refine (Hc.out _ (hs.up (by repeat with_reducible (first | exact Ext.refl _ | refine Ext.alloc ?_ _ | refine Ext.drew ?_ | refine Ext.drewN ?_ _ | refine Ext.setCell ?_ (by first | exact Nat.le_refl _ | omega | (simp; done) | (simp; omega)) _))) (hb.up (by repeat with_reducible (first | exact Ext.refl _ | refine Ext.alloc ?_ _ | refine Ext.drew ?_ | refine Ext.drewN ?_ _ | refine Ext.setCell ?_ (by first | exact Nat.le_refl _ | omega | (simp; done) | (simp; omega)) _)))).mono ?_; rintro e w1 ⟨rfl, E1'⟩; have E1 : Ext w w1 := Ext.trans (by repeat with_reducible (first | exact Ext.refl _ | refine Ext.alloc ?_ _ | refine Ext.drew ?_ | refine Ext.drewN ?_ _ | refine Ext.setCell ?_ (by first | exact Nat.le_refl _ | omega | (simp; done) | (simp; omega)) _)) E1'; have B1 := (BlkT.new w 43 #[.slice none 0 0, .slice none 0 0] rfl).up E1'; have z0w1 : w1.cell? ⟨w.heap.size, 0, none⟩ = some (.slice none 0 0) := B1.cell 0; have z1w1 : w1.cell? ⟨w.heap.size, 1, none⟩ = some (.slice none 0 0) := B1.cell 1; have f0w1 := B1.free 0; have f1w1 := B1.free 1; have lw1 := B1.lt)
    (try simp only [Exit.inBlock, Exit.then])
    have B0 := (B1.set_ 0 (.slice none 0 0)).set_ 1 (.slice none 0 0)
    have EF : Ext w ((w1.setCell ⟨w.heap.size, 0, none⟩ (.slice none 0 0)).setCell ⟨w.heap.size, 1, none⟩ (.slice none 0 0)) := (E1.setCell (show w.heap.size ≤ w.heap.size by omega) _).setCell (show w.heap.size ≤ w.heap.size by omega) _
    refine bodyPost_ret (results_cell_row2 (ty := 43) rfl _ _ w.heap.size _ _ (0, 0) _ rfl B0 Tryz.underlying43 rfl (by kernel_rfl)) rfl ?_
    exact ⟨.mk (none, 0) (none, 0) [] [], rfl, bare_none, treeAt_none _, fun b hb => (uses_none hb).elim, EF⟩

theorem schema_blk {w : World} {b0 b1 : Nat} {nm : ByteArray} {f : FieldD} (h0 : BlkT w b0 25 #[.string f.name, .int .i64 f.number, .int .i64 f.kind, .bool f.rep, .bool f.packed, .int .i64 f.of_]) (h1 : BlkT w b1 94 #[.string nm, .slice (some ⟨b0, 0, none⟩) 1 1]) (hf : f.Ok) (hn : nm.size ≤ 9223372036854775807) :
    SchemaAt w (some ⟨b1, 0, none⟩) 1 1 [⟨⟨nm, [f]⟩, some ⟨b0, 0, none⟩, 1, 1⟩] := by
  refine ⟨⟨rfl, Nat.le_refl _, by unfold maxLen; omega, fun _ => ⟨b1, 0, rfl, h1.lt, fun j u hj => ?_⟩⟩, fun m hm => ?_⟩
  · rw [Nat.zero_add, h1.cell]
    simpa [msgC] using hj
  · rw [List.mem_singleton] at hm
    subst hm
    refine ⟨⟨⟨rfl, Nat.le_refl _, by show 1 ≤ maxLen; unfold maxLen; omega, fun _ => ⟨b0, 0, rfl, h0.lt, fun j u hj => ?_⟩⟩, fun g hg => ?_⟩, hn⟩
    · rw [Nat.zero_add, h0.cell]
      simpa [fieldC] using hj
    · rw [List.mem_singleton] at hg
      subst hg
      exact hf

theorem one_word {y : MsgR} {n : Int} {ws : List Nat} (h : bare y = .mk () () [⟨(), (), (), n, ws, [], []⟩] []) : ∃ v, y.vals = [v] ∧ v.words = ws := by
  rw [bare_eq] at h
  injection h with _ _ h _
  rcases hv : y.vals with _ | ⟨v, l⟩
  · rw [hv] at h
    cases h
  · rw [hv, List.map_cons] at h
    injection h with h1 h2
    rw [List.map_eq_nil_iff] at h2
    subst h2
    refine ⟨v, rfl, ?_⟩
    have := congrArg ValG.words h1
    exact this

theorem of_a : OfT [⟨⟨#[109]⟩, [⟨⟨#[97]⟩, 1, 3, false, false, 0⟩]⟩] 0 [8, 1, 8, 2] 0 = .mk () () [⟨(), (), (), 1, [2], [], []⟩] [] := by kernel_rfl

theorem of_b : OfT [⟨⟨#[109]⟩, [⟨⟨#[97]⟩, 1, 3, true, false, 0⟩]⟩] 0 [8, 1, 8, 2] 0 = .mk () () [⟨(), (), (), 1, [1, 2], [], []⟩] [] := by kernel_rfl

theorem code_a : (checkB [⟨⟨#[109]⟩, [⟨⟨#[97]⟩, 1, 3, false, false, 0⟩]⟩] 0 [8, 1, 8, 2] 0).2 = 0 ∧ (checkB [⟨⟨#[109]⟩, [⟨⟨#[97]⟩, 1, 3, true, false, 0⟩]⟩] 0 [8, 1, 8, 2] 0).2 = 0 := by decide +kernel

theorem of_ex {r : Bool} {ws : List Nat} (hr : r = false ∧ ws = [2] ∨ r = true ∧ ws = [1, 2]) {W : World} {b0 b1 : Nat} {A : Option Addr} (h0 : BlkT W b0 25 #[.string ⟨#[97]⟩, .int .i64 1, .int .i64 3, .bool r, .bool false, .int .i64 0]) (h1 : BlkT W b1 94 #[.string ⟨#[109]⟩, .slice (some ⟨b0, 0, none⟩) 1 1]) (hb : BytesAt W A 4 4 [8, 1, 8, 2]) :
    Calls Tryz.prog 33 #[.slice (some ⟨b1, 0, none⟩) 1 1, .int .i64 0, .slice A 4 4, .int .i64 0] W fun e w' => ∃ (y : MsgR) (v : ValR), e = .returned (.tuple #[.agg #[.slice y.a.1 1 y.a.2, .slice y.b.1 y.unk.length y.b.2], .int .u8 0]) ∧ y.vals = [v] ∧ v.words = ws ∧ TreeAt w' y ∧ (∀ b, UsesT y b → W.heap.size ≤ b) ∧ Ext W w' := by
  have hs := schema_blk (f := ⟨⟨#[97]⟩, 1, 3, r, false, 0⟩) (nm := ⟨#[109]⟩) h0 h1 (by rcases r with _ | _ <;> constructor <;> decide) (by decide)
  refine (tOfB (root := 0) (d := 0) hs hb (by omega)).mono ?_
  rintro e w' ⟨y, h1, h2, h3, h4, h5⟩
  have hc : (checkB [⟨⟨#[109]⟩, [⟨⟨#[97]⟩, 1, 3, r, false, 0⟩]⟩] 0 [8, 1, 8, 2] 0).2 = 0 := by
    rcases hr with ⟨rfl, _⟩ | ⟨rfl, _⟩
    · exact code_a.1
    · exact code_a.2
  have ho : OfT [⟨⟨#[109]⟩, [⟨⟨#[97]⟩, 1, 3, r, false, 0⟩]⟩] 0 [8, 1, 8, 2] 0 = .mk () () [⟨(), (), (), 1, ws, [], []⟩] [] := by
    rcases hr with ⟨rfl, rfl⟩ | ⟨rfl, rfl⟩
    · exact of_a
    · exact of_b
  obtain ⟨v, hv, hw⟩ := one_word (h2.trans ho)
  refine ⟨y, v, ?_, hv, hw, h3, h4, h5⟩
  rw [h1]
  show Ending.returned (.tuple #[treeV y, .int .u8 (((checkB [⟨⟨#[109]⟩, [⟨⟨#[97]⟩, 1, 3, r, false, 0⟩]⟩] 0 [8, 1, 8, 2] 0).2 : Nat) : Int)]) = _
  rw [hc]
  unfold treeV
  rw [hv]
  rfl

set_option maxRecDepth 100000 in
set_option maxHeartbeats 2000000 in
theorem alive14 (w : World) : Calls Tryz.prog 11 #[] w fun e w' => e = .returned (.bool true) ∧ Ext w w' := by
  go_enter Tryz.func11, Tryz.ntmps11
  go_wp2_with fail
  refine (of_ex (r := false) (.inl ⟨rfl, rfl⟩) (b0 := w.heap.size) (b1 := w.heap.size + 1) (((BlkT.new w 25 #[.string ⟨#[97]⟩, .int .i64 1, .int .i64 3, .bool false, .bool false, .int .i64 0] rfl).alloc _).alloc _) ((BlkT.new _ 94 #[.string ⟨#[109]⟩, .slice (some ⟨w.heap.size, 0, none⟩) 1 1] (by simp)).alloc _) (bytes_lit _ _ _ [8, 1, 8, 2] 4 (by simp) (by simp [bv]) rfl (by simp [maxLen]))).mono ?_
  rintro e w1 ⟨y, v, rfl, hy1, hy2, hy3, hy4, E1⟩
  have B0 := (((BlkT.new w 25 #[.string ⟨#[97]⟩, .int .i64 1, .int .i64 3, .bool false, .bool false, .int .i64 0] rfl).alloc (.cells #[.string ⟨#[109]⟩, .slice (some ⟨w.heap.size, 0, none⟩) 1 1] 94)).alloc (.cells #[.int .u8 8, .int .u8 1, .int .u8 8, .int .u8 2] 5)).up E1
  have B1 := ((BlkT.new (w.alloc (.cells #[.string ⟨#[97]⟩, .int .i64 1, .int .i64 3, .bool false, .bool false, .int .i64 0] 25)) 94 #[.string ⟨#[109]⟩, .slice (some ⟨w.heap.size, 0, none⟩) 1 1] rfl).alloc (.cells #[.int .u8 8, .int .u8 1, .int .u8 8, .int .u8 2] 5)).up E1
  have hs1 := E1.size
  have hs1' : w.heap.size + 3 ≤ w1.heap.size := by simpa using hs1
  rw [World.size_alloc] at B1
  have X1 : Ext w w1 := Ext.trans (by repeat with_reducible (first | exact Ext.refl _ | refine Ext.alloc ?_ _ | refine Ext.drew ?_ | refine Ext.drewN ?_ _ | refine Ext.setCell ?_ (by first | exact Nat.le_refl _ | omega | (simp; done) | (simp; omega)) _)) E1
  have c1 : w1.cell? ⟨w.heap.size + 1, 1, none⟩ = some (.slice (some ⟨w.heap.size, 0, none⟩) 1 1) := B1.cell 1
  have c3 : w1.cell? ⟨w.heap.size, 3, none⟩ = some (.bool false) := B0.cell 3
  have f3 := B0.free 3
  have l0 := B0.lt
  have l1 := B1.lt
  go_wp2_with fail
  refine (of_ex (r := true) (.inr ⟨rfl, rfl⟩) (b0 := w.heap.size) (b1 := w.heap.size + 1) (((B0.set_ 3 (.bool true)).alloc _).alloc _) (((B1.set_far 3 (by omega) (.bool true)).alloc _).alloc _) (bytes_lit _ _ _ [8, 1, 8, 2] 4 (by simp) (by simp [bv]) rfl (by simp [maxLen]))).mono ?_
  rintro e w2 ⟨z, u, rfl, hz1, hz2, hz3, hz4, E2⟩
  have hS : Stays (fun b => b ≠ w.heap.size) w1 ((w1.setCell ⟨w.heap.size, 3, none⟩ (.bool true)).alloc (.cells #[.slice y.a.1 1 y.a.2, .slice y.b.1 y.unk.length y.b.2] 43)) :=
    ((Stays.refl _ w1).set (fun q => q rfl) _).trans (Stays.of_ext ((Ext.refl _).alloc _))
  have hty := ((hy3.stays hS (fun b hb => by have := hy4 b hb; simp at this; omega)).up ((Ext.refl _).alloc (.cells #[.int .u8 8, .int .u8 1, .int .u8 8, .int .u8 2] 5))).up E2
  have BY := (((BlkT.new (w1.setCell ⟨w.heap.size, 3, none⟩ (.bool true)) 43 #[.slice y.a.1 1 y.a.2, .slice y.b.1 y.unk.length y.b.2] (b := w1.heap.size) (by simp [World.setCell])).alloc (.cells #[.int .u8 8, .int .u8 1, .int .u8 8, .int .u8 2] 5))).up E2
  have X2 : Ext w w2 := (((X1.setCell (p := ⟨w.heap.size, 3, none⟩) (Nat.le_refl _) _).alloc _).alloc _).trans E2
  have hvy := hty.vals
  rw [hy1] at hvy
  obtain ⟨b5, o5, v', hA5, hv', hb5, e0, e1, e2, e3⟩ := valCells hvy (k := 0) (by simp)
  cases hv'
  have hvz := hz3.vals
  rw [hz1] at hvz
  obtain ⟨b6, o6, u', hA6, hu', hb6, g0, g1, g2, g3⟩ := valCells hvz (k := 0) (by simp)
  cases hu'
  have y0 : w2.cell? ⟨w1.heap.size, 0, none⟩ = some (.slice y.a.1 1 y.a.2) := BY.cell 0
  have yl := BY.lt
  have hwy := (hty.each v (by rw [hy1]; simp)).words
  have hwz := (hz3.each u (by rw [hz1]; simp)).words
  rw [hy2] at hwy e1
  rw [hz2] at hwz g1
  go_wp2_with fail
  refine (sameU (xs := [2]) (ys := [2]) (hwy.ext (by repeat with_reducible (first | exact Ext.refl _ | refine Ext.alloc ?_ _ | refine Ext.drew ?_ | refine Ext.drewN ?_ _ | refine Ext.setCell ?_ (by first | exact Nat.le_refl _ | omega | (simp; done) | (simp; omega)) _))) (reads_one _ (.int .u64 2) 102 (by simp)) (by simp)).mono ?_
  rintro e w3 ⟨rfl, E3⟩
  rw [decide_eq_true (rfl : [2] = [2])]
  have X3 : Ext w2 w3 := Ext.trans (by repeat with_reducible (first | exact Ext.refl _ | refine Ext.alloc ?_ _ | refine Ext.drew ?_ | refine Ext.drewN ?_ _ | refine Ext.setCell ?_ (by first | exact Nat.le_refl _ | omega | (simp; done) | (simp; omega)) _)) E3
  have BZ := ((BlkT.new w2 43 #[.slice (some ⟨b6, o6, none⟩) 1 z.a.2, .slice z.b.1 z.unk.length z.b.2] rfl).alloc (.cells #[.int .u64 2] 102)).up E3
  have z0 : w3.cell? ⟨w2.heap.size, 0, none⟩ = some (.slice (some ⟨b6, o6, none⟩) 1 z.a.2) := BZ.cell 0
  have zl := BZ.lt
  have g1' := X3.of_cell g1
  have gl := Nat.lt_of_lt_of_le hb6 X3.size
  go_wp2_with fail
  refine (sameU (xs := [1, 2]) (ys := [1, 2]) (hwz.ext (by repeat with_reducible (first | exact X3 | exact Ext.refl _ | refine Ext.alloc ?_ _ | refine Ext.drew ?_ | refine Ext.drewN ?_ _ | refine Ext.setCell ?_ (by first | exact Nat.le_refl _ | omega | (simp; done) | (simp; omega)) _))) ((Own.made (Ext.refl _) 102 1 (cs := [.int .u64 1, .int .u64 2]) (n := 2) (by unfold maxLen; omega) rfl).reads) (by simp)).mono ?_
  rintro e w4 ⟨rfl, E4⟩
  rw [decide_eq_true (rfl : [1, 2] = [1, 2])]
  go_wp2
  go_ret
  exact ⟨rfl, (X2.trans X3).trans (Ext.trans (by repeat with_reducible (first | exact Ext.refl _ | refine Ext.alloc ?_ _ | refine Ext.drew ?_ | refine Ext.drewN ?_ _ | refine Ext.setCell ?_ (by first | exact Nat.le_refl _ | omega | (simp; done) | (simp; omega)) _)) E4)⟩

end Go.Proofs.YtgjhglehghjoeaaGreat
