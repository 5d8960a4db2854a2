/- Contracts of layer 14: a field's pieces. -/
import Derived.Test.YtnnphodgegcddaaGreatQfM14p
import Derived.Test.YtnnphodgegcddaaGreatQfW10
import Derived.Test.YtnnphodgegcddaaGreatQfW8

namespace Go.Proofs.YtnnphodgegcddaaGreat
open Go.RowKit
set_option linter.unusedVariables false

theorem wordsV_small (k : Int) (bs : List UInt8) : ∀ x ∈ (wordsV k bs).1, x < 18446744073709551616 := by
 intro x hx
 unfold wordsV at hx
 split at hx
 · obtain ⟨v, _, rfl⟩ := List.mem_map.1 hx
   exact (readS_bd k v.1).1
 · cases hx

theorem elemTM : Elem Tryz.prog 50 35 2 48 := Elem.mk' (z := .agg #[.slice none 0 0, .slice none 0 0]) Tryz.underlying50 (by kernel_rfl) rfl (by omega)

def OfP (S : List MsgV) (d : Nat) (sub : Nat → List UInt8 → MsgT) : Prop := ∀ (w : World) (SA : Option Addr) (sn sc m : Nat) (A : Option Addr) (n c : Nat) (bs : List UInt8), SchemaAt w SA sn sc S → m < S.length → BytesAt w A n c bs → n < d →
 Calls Tryz.prog 48 #[.slice SA sn sc, .int .i64 (m : Int), .slice A n c] w fun e w' => ∃ y, e = .returned (treeV y) ∧ bare y = sub m bs ∧ TreeAt w' y ∧ (∀ b, UsesT y b → w.heap.size ≤ b) ∧ Ext w w'

set_option maxRecDepth 100000 in
set_option maxHeartbeats 1000000 in
theorem pAdd {w0 w : World} {p : PieceG} {v : ViewD} {A : Option Addr} {n c : Nat} {val : List UInt8} (hp : PieceAt w0 w p) (hv : BytesAt w0 A n c val) (hn : n ≤ 1000000) (hw : p.ws.length ≤ 1000000) (hs : p.vs.length ≤ 1000000) :
  Calls Tryz.prog 104 #[ptrP p, viewV v, .slice A n c] w fun e w' => e = .returned (.tuple #[]) ∧ ∃ p', Grew w0 w w' p p' ∧ p'.ws = p.ws ++ wordsX p.f v.run val ∧ p'.vs.map BRow.bs = p.vs.map BRow.bs ++ piecesX p.f v.run val := by
 have hx : w0.heap.size ≤ w.heap.size := hp.words.ext.size
 have c2 : w.cell? ⟨p.b, 2, none⟩ = some (.int .i64 p.f.kind) := hp.blk.cell 2
 have c6 : w.cell? ⟨p.b, 6, none⟩ = some (.slice p.A p.ws.length p.c) := hp.blk.cell 6
 have c7 : w.cell? ⟨p.b, 7, none⟩ = some (.slice p.B p.vs.length p.d) := hp.blk.cell 7
 have hbl := hp.blk.lt
 have f6 := hp.blk.free 6
 have f7 := hp.blk.free 7
 have hvw := hv.ext hp.words.ext
 have hvl := hv.length
 have hl := wordsV_length p.f.kind val
 have hsml := wordsV_small p.f.kind val
 have Hp := Lib.hid hp
 have Hv := Lib.hid hv
 have hN := fun W => kNumber p.f.kind W
 clear hp hv
 unfold ptrP viewV
 rcases hrun : v.run with _ | _
 · rcases hk : numberB p.f.kind with _ | _
   · have HN := Lib.hid hN
     rw [hk] at HN
     have hWX : wordsX p.f false val = [] ∧ piecesX p.f false val = [val] := by
      unfold wordsX piecesX
      rw [hk]
      exact ⟨rfl, rfl⟩
     rw [hWX.1, hWX.2]
     clear hN hvl hl hsml hWX
     go_enter Tryz.func104, Tryz.ntmps104
     go_wp2_with (first
      | (go_at_call 62; refine (HN.out _).mono ?_; rintro e w1 ⟨rfl, E1'⟩; have E1 : Ext w w1 := Ext.trans (by repeat with_reducible (first | exact Ext.refl _ | refine Ext.alloc ?_ _ | refine Ext.drew ?_ | refine Ext.drewN ?_ _ | refine Ext.setCell ?_ (by first | omega | (simp <;> omega)) _)) E1'; have hp1 := Hp.out.up E1; have d7 := E1.of_cell c7; have bl1 := Nat.lt_of_lt_of_le hbl E1.size)
      | (at_builtin; refine wpList_moreW elemBB rfl (.tmp 14) (.tmp 16) rfl rfl (hp1.vals.alloc _) rfl (reads_one w1 (.slice A n c) 24 rfl) (by simp [Value.oneCell']) (by omega) (by unfold maxLen; omega) ?_; intro A4 c4 w4 own4 g4 m4; have B4 := (hp1.blk.alloc (.cells #[.slice A n c] 24)).beside (hp1.vals.alloc _) (by decide) g4; have z7 : w4.cell? ⟨p.b, 7, none⟩ = some (.slice p.B p.vs.length p.d) := B4.cell 7; have zf := B4.free 7; have zl := B4.lt))
     go_end0
     have hG := grew_vals (r := ⟨A, n, c, val⟩) Hp.out (E1.alloc _) Hv.out own4 g4 m4
     exact ⟨rfl, _, hG, by simp, by simp⟩
   · have HN := Lib.hid hN
     rw [hk] at HN
     have hWX : wordsX p.f false val = [(readS p.f.kind val).1] ∧ piecesX p.f false val = [] := by
      unfold wordsX piecesX
      rw [hk]
      exact ⟨rfl, rfl⟩
     rw [hWX.1, hWX.2]
     have hrs := (readS_bd p.f.kind val).1
     rcases hrd : readS p.f.kind val with ⟨W, C⟩
     rw [hrd] at hrs
     simp only at hrs
     have hR := fun W (h : BytesAt W A n c val) => sRead h hrd
     have HR := Lib.hid hR
     clear hN hvl hl hsml hWX hR hrd
     go_enter Tryz.func104, Tryz.ntmps104
     go_wp2_with (first
      | (go_at_call 62; refine (HN.out _).mono ?_; rintro e w1 ⟨rfl, E1'⟩; have E1 : Ext w w1 := Ext.trans (by repeat with_reducible (first | exact Ext.refl _ | refine Ext.alloc ?_ _ | refine Ext.drew ?_ | refine Ext.drewN ?_ _ | refine Ext.setCell ?_ (by first | omega | (simp <;> omega)) _)) E1'; have d2 := E1.of_cell c2)
      | (go_at_call 86; refine (HR.out _ (hvw.up E1)).mono ?_; rintro e w2 ⟨rfl, E2'⟩; have E2 : Ext w w2 := Ext.trans E1 E2'; have hp1 := Hp.out.up E2; have d6 := E2.of_cell c6; have bl1 := Nat.lt_of_lt_of_le hbl E2.size)
      | (at_builtin; refine wpList_moreW elemU rfl (.tmp 63) (.tmp 65) rfl rfl (hp1.words.alloc _) rfl (reads_one w2 (.int .u64 (W : Int)) 112 rfl) (by simp [Value.oneCell']) (by omega) (by unfold maxLen; omega) ?_; intro A4 c4 w4 own4 g4 m4; have B4 := (hp1.blk.alloc (.cells #[.int .u64 (W : Int)] 112)).beside (hp1.words.alloc _) (by decide) g4; have z6 : w4.cell? ⟨p.b, 6, none⟩ = some (.slice p.A p.ws.length p.c) := B4.cell 6; have zf := B4.free 6; have zl := B4.lt))
     go_end0
     have hG := grew_words (ys := [W]) Hp.out (E2.alloc _) rfl (by simpa using hrs) own4 g4 m4
     exact ⟨rfl, _, hG, by simp, by simp⟩
 · have hW := fun W (h : BytesAt W A n c val) => uWords (k := p.f.kind) h (by omega : n ≤ 1000000000)
   have hWX : wordsX p.f true val = (wordsV p.f.kind val).1 ∧ piecesX p.f true val = [] := ⟨rfl, rfl⟩
   rw [hWX.1, hWX.2]
   clear hWX
   generalize wordsV p.f.kind val = WS at *
   obtain ⟨ws, C⟩ := WS
   simp only at hW hl hsml
   generalize hm : ws.length = m at *
   have HW := Lib.hid hW
   have Hsml := Lib.hid hsml
   have Hm := Lib.hid hm
   clear hW hsml hm
   go_enter Tryz.func104, Tryz.ntmps104
   go_wp2_with (first
    | (go_at_call 84; refine (HW.out _ (hvw.up (by repeat with_reducible (first | exact Ext.refl _ | refine Ext.alloc ?_ _ | refine Ext.drew ?_ | refine Ext.drewN ?_ _ | refine Ext.setCell ?_ (by first | omega | (simp <;> omega)) _)))).mono ?_; rintro e w1 ⟨A1, c1, rfl, own1⟩; have E1 : Ext w w1 := Ext.trans (by repeat with_reducible (first | exact Ext.refl _ | refine Ext.alloc ?_ _ | refine Ext.drew ?_ | refine Ext.drewN ?_ _ | refine Ext.setCell ?_ (by first | omega | (simp <;> omega)) _)) own1.ext; have hp1 := Hp.out.up E1; have d6 := E1.of_cell c6; have bl1 := Nat.lt_of_lt_of_le hbl E1.size)
    | (at_builtin; refine wpList_moreW elemU rfl (.tmp 37) (.tmp 38) rfl rfl hp1.words rfl own1.reads (uv_one _) (by omega) (by unfold maxLen; omega) ?_; intro A4 c4 w4 own4 g4 m4; have B4 := hp1.blk.beside hp1.words (by decide) g4; have z6 : w4.cell? ⟨p.b, 6, none⟩ = some (.slice p.A p.ws.length p.c) := B4.cell 6; have zf := B4.free 6; have zl := B4.lt))
   go_end0
   have hG := grew_words Hp.out E1 Hm.out Hsml.out own4 g4 m4
   exact ⟨rfl, _, hG, rfl, by simp⟩

end Go.Proofs.YtnnphodgegcddaaGreat
