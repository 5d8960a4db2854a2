/- Contracts of layer 18: a field's numbers as one run; a record put behind the others. -/
import Derived.Test.YtcbpbpeogfbpiaaGreatQS18
import Derived.Test.YtcbpbpeogfbpiaaGreatQM14p
import Derived.Test.YtcbpbpeogfbpiaaGreatQW10
import Derived.Test.YtcbpbpeogfbpiaaGreatQW8

namespace Go.Proofs.YtcbpbpeogfbpiaaGreat
open Go.RowKit Go.Shelf
set_option linter.unusedVariables false

theorem weigh_length : ∀ L : List ViewD, L.length ≤ weighL L
  | [] => Nat.zero_le _
  | v :: L => by
    have := weigh_length L
    rw [weighL_cons, List.length_cons]
    unfold weighV
    omega

theorem words_step (f : FieldD) (bs : List UInt8) {vs : List ViewD} {k : Nat} {v : ViewD} (h : vs[k]? = some v) : (vs.take (k + 1)).flatMap (wordsO f bs) = (vs.take k).flatMap (wordsO f bs) ++ wordsO f bs v := by
  rw [List.take_add_one, h, List.flatMap_append]
  simp

set_option maxHeartbeats 2000000 in
theorem nNumbers {f : FieldD} {bs : List UInt8} {vs : List ViewD} {A B : Option Addr} {n c vc : Nat} {w : World} (hk : numberB f.kind = true) (hbd : ∀ v ∈ vs, v.r.a ≤ v.r.t ∧ v.r.t ≤ bs.length) (hw : weighL vs ≤ 1000000) (hb : BytesAt w B n c bs) (hn : n ≤ 1000000) (hv : Reads w A vs.length vc 7 (vs.flatMap viewC)) :
    Calls Tryz.prog 141 #[fieldV f, .slice B n c, .slice A vs.length vc] w fun e w' => ∃ A' c', e = .returned (.slice A' (packW f.kind (vs.flatMap (wordsO f bs))).length c') ∧ Own w w' 5 1 A' (packW f.kind (vs.flatMap (wordsO f bs))).length c' ((packW f.kind (vs.flatMap (wordsO f bs))).map bv) := by
  have hbl := hb.length
  have hwl := words_le f bs vs (fun v h => (hbd v h).2)
  have h64 := words_64 f bs vs
  have hvl := weigh_length vs
  obtain ⟨ws, hws⟩ : ∃ ws, ws = vs.flatMap (wordsO f bs) := ⟨_, rfl⟩
  rw [← hws] at h64 hwl ⊢
  have H64 := Lib.hid h64
  have Hbd := Lib.hid hbd
  have Hws := Lib.hid hws
  clear h64 hbd hws
  unfold fieldV
  go_enter Tryz.func141, Tryz.ntmps141
  go_wp2
  have B1 := BlkT.new w 54 #[.string f.name, .int .i64 f.number, .int .i64 f.kind, .bool f.rep, .bool f.packed, .int .i64 f.of_] rfl
  have X1 : Ext w (w.alloc (.cells #[.string f.name, .int .i64 f.number, .int .i64 f.kind, .bool f.rep, .bool f.packed, .int .i64 f.of_] 54)) := (Ext.refl w).alloc _
  obtain ⟨w1, hw1⟩ : ∃ w1, w1 = w.alloc (.cells #[.string f.name, .int .i64 f.number, .int .i64 f.kind, .bool f.rep, .bool f.packed, .int .i64 f.of_] 54) := ⟨_, rfl⟩
  rw [← hw1] at B1 X1 ⊢
  clear hw1
  generalize w.heap.size = b0 at *
  have f2 : w1.cell? ⟨b0, 2, none⟩ = some (.int .i64 f.kind) := B1.cell 2
  have fl := B1.lt
  clear B1
  go_loopw [7, 19] (fun u i wr => ∃ (k : Nat) (U : Option Addr) (un uc : Nat), k ≤ vs.length ∧ i = .int .i64 (k : Int) ∧ u = .slice U un uc ∧ un = ((vs.take k).flatMap (wordsO f bs)).length ∧ Own w1 wr 111 1 U un uc (((vs.take k).flatMap (wordsO f bs)).map uv)) (fun _ i _ => vs.length - (intOf i).toNat)
  case atStart => exact ⟨0, none, 0, 0, Nat.zero_le _, rfl, rfl, rfl, Own.nil (Ext.refl _) _ _⟩
  case round =>
    obtain ⟨k, U, un, uc, hk1, rfl, rfl, hun, own⟩ := hrel
    have X2 := own.ext
    have g2 := X2.of_cell f2
    have gl := Nat.lt_of_lt_of_le fl X2.size
    by_cases hlt : k < vs.length
    · have hltI : (k : Int) < vs.length := by omega
      obtain ⟨b5, off5, v, hA, hvk, hb5, e0, e1, e2, e3, e4, e5, e6⟩ := (hv.ext (X1.trans X2)).view' hlt
      subst hA
      have hvb := Hbd.out v (List.mem_of_getElem? hvk)
      have hs := words_step f bs hvk
      obtain ⟨A9, run9, hb9⟩ := spanB_at10 (hb.up (X1.trans X2)) (l := v.r.a) (m := v.r.t) (by omega) (by omega)
      have hwk : ((vs.take k).flatMap (wordsO f bs)).length ≤ 1000000 := by
        have h1 := words_le f bs (vs.take k) (fun u hu => (Hbd.out u (List.mem_of_mem_take hu)).2)
        have h2 := weighL_take vs k
        omega
      rw [← hun] at hwk
      have Hun := Lib.hid hun
      have Hs := Lib.hid hs
      have Hvk := Lib.hid hvk
      clear hs hun hvk
      rcases hrun : v.run with _ | _
      · rw [hrun] at e6
        have hW : wordsO f bs v = [(readS f.kind (valueO bs v)).1] := by
          unfold wordsO
          rw [hrun, hk]
          rfl
        rcases hrd : readS f.kind (valueO bs v) with ⟨W, C⟩
        rw [hrd] at hW
        have hR := fun W' (h : BytesAt W' A9 (v.r.t - v.r.a) (c - v.r.a) (valueO bs v)) => sRead h hrd
        have HR := Lib.hid hR
        have HW := Lib.hid hW
        clear hR hrd hW
        go_wp2_with (first
          | (go_at_call 142; refine (HR.out _ (hb9.up (by repeat with_reducible (first | exact Ext.refl _ | refine Ext.alloc ?_ _ | refine Ext.drew ?_ | refine Ext.drewN ?_ _ | refine Ext.setCell ?_ (by first | exact Nat.le_refl _ | omega | (simp; done) | (simp; omega)) _)))).mono ?_; rintro e w3 ⟨rfl, E3'⟩; have E3 : Ext wr w3 := Ext.trans (by repeat with_reducible (first | exact Ext.refl _ | refine Ext.alloc ?_ _ | refine Ext.drew ?_ | refine Ext.drewN ?_ _ | refine Ext.setCell ?_ (by first | exact Nat.le_refl _ | omega | (simp; done) | (simp; omega)) _)) E3')
          | (at_builtin; refine wpList_more elemU rfl (.tmp 50) (.tmp 52) rfl rfl ((own.up E3).alloc _) rfl (reads_one w3 (.int .u64 (W : Int)) 111 rfl) (by simp [Value.oneCell']) (by omega) (by unfold maxLen; omega) ?_; intro A4 c4 w4 own4 g4))
        go_roundw
        case rel =>
          refine ⟨k + 1, A4, un + 1, c4, by omega, by go_num, rfl, ?_, ?_⟩
          · rw [Hs.out, HW.out, List.length_append, ← Hun.out]
            rfl
          · rw [Hs.out, HW.out, List.map_append]
            exact own4
        case measure => simp [intOf]; omega
      · rw [hrun] at e6
        have hW : wordsO f bs v = (wordsV f.kind (valueO bs v)).1 := by
          unfold wordsO
          rw [if_pos hrun]
        have hR := fun W' (h : BytesAt W' A9 (v.r.t - v.r.a) (c - v.r.a) (valueO bs v)) => uWords (k := f.kind) h (by omega)
        have hl := wordsV_length f.kind (valueO bs v)
        have hvl2 : (valueO bs v).length ≤ 1000000 := by
          have := hb9.length
          unfold valueO
          omega
        generalize wordsV f.kind (valueO bs v) = WS at *
        obtain ⟨ws, C⟩ := WS
        simp only at hR hl hW
        generalize hm : ws.length = m at *
        have HR := Lib.hid hR
        have HW := Lib.hid hW
        have Hm := Lib.hid hm
        clear hR hW hm
        go_wp2_with (first
          | (go_at_call 151; refine (HR.out _ (hb9.up (by repeat with_reducible (first | exact Ext.refl _ | refine Ext.alloc ?_ _ | refine Ext.drew ?_ | refine Ext.drewN ?_ _ | refine Ext.setCell ?_ (by first | exact Nat.le_refl _ | omega | (simp; done) | (simp; omega)) _)))).mono ?_; rintro e w3 ⟨A3, c3, rfl, own3⟩; have E3 : Ext wr w3 := Ext.trans (by repeat with_reducible (first | exact Ext.refl _ | refine Ext.alloc ?_ _ | refine Ext.drew ?_ | refine Ext.drewN ?_ _ | refine Ext.setCell ?_ (by first | exact Nat.le_refl _ | omega | (simp; done) | (simp; omega)) _)) own3.ext)
          | (at_builtin; refine wpList_more elemU rfl (.tmp 40) (.tmp 41) rfl rfl (own.up E3) rfl own3.reads (uv_one _) (by omega) (by unfold maxLen; omega) ?_; intro A4 c4 w4 own4 g4))
        go_roundw
        case rel =>
          refine ⟨k + 1, A4, un + m, c4, by omega, by go_num, rfl, ?_, ?_⟩
          · rw [Hs.out, HW.out, List.length_append, ← Hun.out, Hm.out]
          · rw [Hs.out, HW.out, List.map_append]
            exact own4
        case measure => simp [intOf]; omega
    · obtain rfl : k = vs.length := by omega
      have hltI : ¬ (vs.length : Int) < vs.length := by omega
      rw [List.take_length, ← Hws.out] at own hun
      subst hun
      have hp := fun W (h : WordsAt W U ws.length uc ws) => uPack h H64.out (by omega) hk
      have HP := Lib.hid hp
      clear hp
      go_wp2_with (go_at_call 156; refine (HP.out _ (Reads.ext own.reads (by repeat with_reducible (first | exact Ext.refl _ | refine Ext.alloc ?_ _ | refine Ext.drew ?_ | refine Ext.drewN ?_ _ | refine Ext.setCell ?_ (by first | exact Nat.le_refl _ | omega | (simp; done) | (simp; omega)) _)))).mono ?_; rintro e w3 ⟨A3, c3, rfl, own3⟩)
      go_ret
      exact ⟨A3, c3, rfl, own3.since (X1.trans (X2.trans (by repeat with_reducible (first | exact Ext.refl _ | refine Ext.alloc ?_ _ | refine Ext.drew ?_ | refine Ext.drewN ?_ _ | refine Ext.setCell ?_ (by first | exact Nat.le_refl _ | omega | (simp; done) | (simp; omega)) _))))⟩

theorem nPut {bo bf : Nat} {A B : Option Addr} {n c m d : Nat} {number wire : Int} {xs vs : List UInt8} {w : World} (hbo : BlkT w bo 24 #[.slice A n c]) (hf : w.cell? ⟨bf, 1, none⟩ = some (.int .i64 number)) (hb : BytesAt w A n c xs) (hn : n ≤ 1000000000) (hv : BytesAt w B m d vs) (hm : m ≤ 1000000000) (h : (rightB number wire && fitsV wire vs) = true) :
    Calls Tryz.prog 139 #[.int .i64 wire, .slice B m d, .pointer (some ⟨bo, 0, none⟩), .pointer (some ⟨bf, 0, none⟩)] w fun e w' => e = .returned (.tuple #[]) ∧ ∃ w1 A' c', w' = w1.setCell ⟨bo, 0, none⟩ (.slice A' (n + (putB number wire vs).length) c') ∧ Own w w1 5 1 A' (n + (putB number wire vs).length) c' ((xs ++ putB number wire vs).map bv) := by
  have o0 : w.cell? ⟨bo, 0, none⟩ = some (.slice A n c) := hbo.cell 0
  have ol := hbo.lt
  have Hp := Lib.hid (fun W (E : Ext w W) => rPut (hb.up E) hn (hv.up E) hm h)
  have Hbo := Lib.hid hbo
  clear hbo h hv hb
  go_enter Tryz.func139, Tryz.ntmps139
  go_wp2_with (go_at_call 140; refine (Hp.out _ (by repeat with_reducible (first | exact Ext.refl _ | refine Ext.alloc ?_ _ | refine Ext.drew ?_ | refine Ext.drewN ?_ _ | refine Ext.setCell ?_ (by first | exact Nat.le_refl _ | omega | (simp; done) | (simp; omega)) _))).mono ?_; rintro e w1 ⟨A1, c1, rfl, own1⟩; have E1 : Ext w w1 := Ext.trans (by repeat with_reducible (first | exact Ext.refl _ | refine Ext.alloc ?_ _ | refine Ext.drew ?_ | refine Ext.drewN ?_ _ | refine Ext.setCell ?_ (by first | exact Nat.le_refl _ | omega | (simp; done) | (simp; omega)) _)) own1.ext; have z0 := E1.of_cell o0; have zf := (Hbo.out.up E1).free 0; have zl := Nat.lt_of_lt_of_le ol E1.size)
  go_end0
  exact ⟨rfl, w1, A1, c1, rfl, own1⟩

end Go.Proofs.YtcbpbpeogfbpiaaGreat
