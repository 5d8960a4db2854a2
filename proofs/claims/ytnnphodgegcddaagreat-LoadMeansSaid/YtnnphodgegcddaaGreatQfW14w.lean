/- Contracts of layer 7: the fields' order, as the reference has it; the same schemas; a copy. -/
import Derived.Test.YtnnphodgegcddaaGreatQfWSort
import Derived.Test.YtnnphodgegcddaaGreatQfM14p
import Derived.Test.YtnnphodgegcddaaGreatQfS14o
import Derived.Test.YtnnphodgegcddaaGreatQfW14p
import Derived.Deep.DeepCutAuto
import Derived.Test.YtnnphodgegcddaaGreatQfW9r
import Derived.Test.YtnnphodgegcddaaGreatQfKScalarReads
import Derived.StillTailTactics
import Derived.Test.YtnnphodgegcddaaGreatQfW14u
import Derived.Test.YtnnphodgegcddaaGreatQfW11
import Derived.Test.YtnnphodgegcddaaGreatQfKSchemaChecks

namespace Go.Proofs.YtnnphodgegcddaaGreat
open Go.RowKit
set_option linter.unusedVariables false

end Go.Proofs.YtnnphodgegcddaaGreat

/- The drawn regions of the reference's Of, as laws of their own. -/




namespace Go.Proofs.YtnnphodgegcddaaGreat
open Go.RowKit Go.Shelf
set_option linter.unusedVariables false





end Go.Proofs.YtnnphodgegcddaaGreat

/- Contracts of layer 14: what bytes mean, as the reference has it. -/









namespace Go.Proofs.YtnnphodgegcddaaGreat
open Go.RowKit Go.Shelf
set_option linter.unusedVariables false

section
variable {w w6 wr wz : World} {bx : Nat} {U : Option Addr} {un uc : Nat} {V : Option Addr} {vn vc : Nat} {ys : List ValR}

end

end Go.Proofs.YtnnphodgegcddaaGreat

/- Contracts of layer 14: tree.Of. -/




namespace Go.Proofs.YtnnphodgegcddaaGreat
open Go.RowKit Go.Shelf
set_option linter.unusedVariables false

theorem oOf {S : List MsgV} (hR : rightS (S.map MsgV.d) = true) : ∀ d, d ≤ 100000 → OfP S (d + 1) (ofV (S.map MsgV.d) d)
 | 0, _ => oStep hR (Nat.zero_le _) (fun w SA sn sc m A n c bs _ _ _ h => absurd h (Nat.not_lt_zero n))
 | d + 1, h => oStep hR (by omega) (oOf hR d (by omega))

def OfT (S : List MsgD) (root : Int) (bs : List UInt8) (d : Int) : MsgT := if (checkB S root bs d).2 = 0 then ofV S bs.length root.toNat bs else .mk () () [] []

theorem check_right {S : List MsgD} {root d : Int} {bs : List UInt8} (h : (checkB S root bs d).2 = 0) : rightS S = true ∧ 0 ≤ root ∧ root < S.length ∧ 0 ≤ d ∧ d ≤ 64 ∧ (firstV S d.toNat root.toNat bs).2 = 0 := by
 unfold checkB at h
 by_cases h0 : argsV S root d = 0
 · rw [if_pos h0] at h
   unfold argsV at h0
   split at h0
   · cases h0
   · rename_i hr
     split at h0
     · cases h0
     · exact ⟨by simpa using hr, by omega, by omega, by omega, by omega, h⟩
 · rw [if_neg h0] at h
   exact absurd h h0

theorem bare_none : bare (MsgX.mk ((none, 0) : Sl) (none, 0) [] []) = .mk () () [] [] := by rw [bare_eq]; rfl

theorem treeAt_none (w : World) : TreeAt w (.mk (none, 0) (none, 0) [] []) :=
 TreeAt.of (Reads.nil w 4) ⟨Reads.nil w 1, (fun t ht => by cases ht)⟩ (fun v hv => by cases hv)

theorem uses_none {b : Nat} (h : UsesT (.mk (none, 0) (none, 0) [] []) b) : False := by
 rcases h.cases' with h | h | ⟨v, hv, _⟩
 · exact absurd h.1 (Nat.lt_irrefl 0)
 · exact absurd h.1 (Nat.lt_irrefl 0)
 · cases hv

theorem tOfB {A : Option Addr} {n c : Nat} {S : List MsgV} {root d : Int} {B : Option Addr} {n' c' : Nat} {bs : List UInt8} {w : World} (hs : SchemaAt w A n c S) (hb : BytesAt w B n' c' bs) (hn : n' ≤ 100000) :
  Calls Tryz.prog 13 #[.slice A n c, .int .i64 root, .slice B n' c', .int .i64 d] w fun e w' => ∃ y, e = .returned (.tuple #[treeV y, .int .u8 ((checkB (S.map MsgV.d) root bs d).2 : Nat)]) ∧
   bare y = OfT (S.map MsgV.d) root bs d ∧ TreeAt w' y ∧ (∀ b, UsesT y b → w.heap.size ≤ b) ∧ Ext w w' := by
 have hc := fun W (h : SchemaAt W A n c S) (h2 : BytesAt W B n' c' bs) => vCheck (root := root) (d := d) h h2 (by omega)
 have Hc := Lib.hid hc
 clear hc
 by_cases h0 : (checkB (S.map MsgV.d) root bs d).2 = 0
 · obtain ⟨hR, r1, r2, _⟩ := check_right h0
   obtain ⟨m, rfl⟩ := Int.eq_ofNat_of_zero_le r1
   have hm : m < S.length := by simpa using r2
   have ho := fun W (h : SchemaAt W A n c S) (h2 : BytesAt W B n' c' bs) => oOf hR n' hn W A n c m B n' c' bs h hm h2 (Nat.lt_succ_self _)
   have hO : OfT (S.map MsgV.d) (m : Int) bs d = ofV (S.map MsgV.d) n' m bs := by unfold OfT; rw [if_pos h0, hb.length]; rfl
   rw [hO]
   have Ho := Lib.hid ho
   clear ho
   generalize checkB (S.map MsgV.d) (m : Int) bs d = V at *
   obtain ⟨p, C⟩ := V
   simp only at h0 Hc ⊢
   subst h0
   unfold treeV at Ho ⊢
   go_enter Tryz.func13, Tryz.ntmps13
   go_wp2_with (first
    | (go_at_call 47; refine (Hc.out _ (hs.up (by repeat with_reducible (first | exact Ext.refl _ | refine Ext.alloc ?_ _ | refine Ext.drew ?_ | refine Ext.drewN ?_ _ | refine Ext.setCell ?_ (by first | omega | (simp <;> omega)) _))) (hb.up (by repeat with_reducible (first | exact Ext.refl _ | refine Ext.alloc ?_ _ | refine Ext.drew ?_ | refine Ext.drewN ?_ _ | refine Ext.setCell ?_ (by first | omega | (simp <;> omega)) _)))).mono ?_; rintro e w1 ⟨rfl, E1'⟩; have E1 : Ext w w1 := Ext.trans (by repeat with_reducible (first | exact Ext.refl _ | refine Ext.alloc ?_ _ | refine Ext.drew ?_ | refine Ext.drewN ?_ _ | refine Ext.setCell ?_ (by first | omega | (simp <;> omega)) _)) E1'; have B1 := (BlkT.new w 35 #[.slice none 0 0, .slice none 0 0] rfl).up E1'; have z0w1 : w1.cell? ⟨w.heap.size, 0, none⟩ = some (.slice none 0 0) := B1.cell 0; have z1w1 : w1.cell? ⟨w.heap.size, 1, none⟩ = some (.slice none 0 0) := B1.cell 1; have f0w1 := B1.free 0; have f1w1 := B1.free 1; have lw1 := B1.lt)
    | (go_at_call 48; refine (Ho.out _ (hs.up (by repeat with_reducible (first | exact E1 | exact Ext.refl _ | refine Ext.alloc ?_ _ | refine Ext.drew ?_ | refine Ext.drewN ?_ _ | refine Ext.setCell ?_ (by first | omega | (simp <;> omega)) _))) (hb.up (by repeat with_reducible (first | exact E1 | exact Ext.refl _ | refine Ext.alloc ?_ _ | refine Ext.drew ?_ | refine Ext.drewN ?_ _ | refine Ext.setCell ?_ (by first | omega | (simp <;> omega)) _)))).mono ?_; rintro e w2 ⟨y, rfl, hy1, hy2, hy3, E2'⟩; have E2 : Ext w w2 := Ext.trans (by repeat with_reducible (first | exact E1 | exact Ext.refl _ | refine Ext.alloc ?_ _ | refine Ext.drew ?_ | refine Ext.drewN ?_ _ | refine Ext.setCell ?_ (by first | omega | (simp <;> omega)) _)) E2'; have B2 := B1.up E2'; have z0w2 : w2.cell? ⟨w.heap.size, 0, none⟩ = some (.slice none 0 0) := B2.cell 0; have z1w2 : w2.cell? ⟨w.heap.size, 1, none⟩ = some (.slice none 0 0) := B2.cell 1; have f0w2 := B2.free 0; have f1w2 := B2.free 1; have lw2 := B2.lt))
   (try simp only [Exit.inBlock, Exit.then])
   have B0 := (B2.set_ 0 (.slice y.a.1 y.vals.length y.a.2)).set_ 1 (.slice y.b.1 y.unk.length y.b.2)
   have s1 := E1'.size
   have s1' : w.heap.size + 1 ≤ w1.heap.size := by simpa using s1
   have EF : Ext w ((w2.setCell ⟨w.heap.size, 0, none⟩ (.slice y.a.1 y.vals.length y.a.2)).setCell ⟨w.heap.size, 1, none⟩ (.slice y.b.1 y.unk.length y.b.2)) := (E2.setCell (show w.heap.size ≤ w.heap.size by omega) _).setCell (show w.heap.size ≤ w.heap.size by omega) _
   have hS2 : Stays (fun b => b ≠ w.heap.size) w2 ((w2.setCell ⟨w.heap.size, 0, none⟩ (.slice y.a.1 y.vals.length y.a.2)).setCell ⟨w.heap.size, 1, none⟩ (.slice y.b.1 y.unk.length y.b.2)) :=
    ((Stays.refl _ w2).set (fun e => e rfl) _).set (fun e => e rfl) _
   refine bodyPost_ret (results_cell_row2 (ty := 35) rfl _ _ w.heap.size _ _ (0, 0) _ rfl B0 Tryz.underlying35 rfl (by kernel_rfl)) rfl ?_
   exact ⟨y, rfl, hy1, hy2.stays hS2 (fun b hb => by have := hy3 b hb; omega), fun b hb => by have := hy3 b hb; omega, EF⟩
 · have hO : OfT (S.map MsgV.d) root bs d = .mk () () [] [] := if_neg h0
   rw [hO]
   generalize checkB (S.map MsgV.d) root bs d = V at *
   obtain ⟨p, C⟩ := V
   simp only at h0 Hc ⊢
   have h0' : ¬ ((C : Int) = 0) := by omega
   go_enter Tryz.func13, Tryz.ntmps13
   go_wp2_with (go_at_call 47; refine (Hc.out _ (hs.up (by repeat with_reducible (first | exact Ext.refl _ | refine Ext.alloc ?_ _ | refine Ext.drew ?_ | refine Ext.drewN ?_ _ | refine Ext.setCell ?_ (by first | omega | (simp <;> omega)) _))) (hb.up (by repeat with_reducible (first | exact Ext.refl _ | refine Ext.alloc ?_ _ | refine Ext.drew ?_ | refine Ext.drewN ?_ _ | refine Ext.setCell ?_ (by first | omega | (simp <;> omega)) _)))).mono ?_; rintro e w1 ⟨rfl, E1'⟩; have E1 : Ext w w1 := Ext.trans (by repeat with_reducible (first | exact Ext.refl _ | refine Ext.alloc ?_ _ | refine Ext.drew ?_ | refine Ext.drewN ?_ _ | refine Ext.setCell ?_ (by first | omega | (simp <;> omega)) _)) E1'; have B1 := (BlkT.new w 35 #[.slice none 0 0, .slice none 0 0] rfl).up E1'; have z0w1 : w1.cell? ⟨w.heap.size, 0, none⟩ = some (.slice none 0 0) := B1.cell 0; have z1w1 : w1.cell? ⟨w.heap.size, 1, none⟩ = some (.slice none 0 0) := B1.cell 1; have f0w1 := B1.free 0; have f1w1 := B1.free 1; have lw1 := B1.lt)
   (try simp only [Exit.inBlock, Exit.then])
   have B0 := (B1.set_ 0 (.slice none 0 0)).set_ 1 (.slice none 0 0)
   have EF : Ext w ((w1.setCell ⟨w.heap.size, 0, none⟩ (.slice none 0 0)).setCell ⟨w.heap.size, 1, none⟩ (.slice none 0 0)) := (E1.setCell (show w.heap.size ≤ w.heap.size by omega) _).setCell (show w.heap.size ≤ w.heap.size by omega) _
   refine bodyPost_ret (results_cell_row2 (ty := 35) rfl _ _ w.heap.size _ _ (0, 0) _ rfl B0 Tryz.underlying35 rfl (by kernel_rfl)) rfl ?_
   exact ⟨.mk (none, 0) (none, 0) [] [], rfl, bare_none, treeAt_none _, fun b hb => (uses_none hb).elim, EF⟩

end Go.Proofs.YtnnphodgegcddaaGreat
