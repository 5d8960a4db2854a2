/- Contracts of layer 18: a field's records behind others. -/
import Derived.Test.YtcbpbpeogfbpiaaGreatQW18f

namespace Go.Proofs.YtcbpbpeogfbpiaaGreat
open Go.RowKit Go.Shelf
set_option linter.unusedVariables false

section
variable {w0 w : World} {SA : Option Addr} {sn sc : Nat} {S : List MsgV} {f : FieldD} {xs : List UInt8} {A : Option Addr} {n c : Nat} {B : Option Addr} {bn bc : Nat} {bs : List UInt8} {V : Option Addr} {vc : Nat} {vs : List ViewD} {se : Nat → MsgT → List UInt8} {sub : Nat → List UInt8 → MsgT}

set_option maxRecDepth 100000 in
set_option maxHeartbeats 4000000 in
/-- A single number. -/
theorem nFieldWord (h : FieldPre w0 w SA sn sc S f xs A n c B bn bc bs V vc vs) (hk : numberB f.kind = true) (hr : f.rep = false) :
    Calls Tryz.prog 96 #[.slice A n c, .slice SA sn sc, fieldV f, .slice B bn bc, .slice V vs.length vc] w (FieldPost w0 w (xs ++ fieldE se sub f (vs.flatMap (wordsO f bs)) [])) := by
  obtain ⟨own, hnl, hn, hS, hb, hbn, hv, hne, hbd, hw, hkb, r2, rw_, hrun, hrun2⟩ := h
  have hbl := hb.length
  obtain ⟨ini, v, hvs⟩ := last_split hne
  have hvl : vs.length = ini.length + 1 := by rw [hvs]; simp
  have hvw := weigh_length vs
  obtain ⟨q, hq⟩ : ∃ q, vs.length = q + 1 := ⟨_, hvl⟩
  obtain ⟨bV, off, v', hV, hvk, hbV, e0, e1, e2, e3, e4, e5, e6⟩ := hv.view' (k := q) (by omega)
  obtain rfl : v' = v := by
    have : q = ini.length := by omega
    subst this
    rw [hvs] at hvk
    simpa using hvk.symm
  have HV : Reads w V vs.length vc 7 (vs.flatMap viewC) := hv
  have hvm : v' ∈ vs := by rw [hvs]; simp
  have hvb := hbd v' hvm
  have hix : ((vs.length : Int) - 1) = (q : Int) := by omega
  have hqlt : (q : Int) < vs.length := by omega
  have hq6 : q ≤ 1000000 := by omega
  have Hnl := Lib.hid hnl
  have hN := fun W => kNumber f.kind W
  have hWr := fun W => kWire f.kind W
  rw [hk] at hN
  rw [wireOr_kind hkb, if_pos hkb] at hWr
  have h0s := own.ext.size
  have hWo : wordsO f bs v' = [(readS f.kind (valueO bs v')).1] := by
    unfold wordsO
    rw [hrun2 hr v' hvm, hk]
    rfl
  have hx64 := (readS_bd f.kind (valueO bs v')).1
  rw [hvs, List.flatMap_append, List.flatMap_singleton, hWo, fieldE_word hk hr, ← hvs]
  rcases hrd : readS f.kind (valueO bs v') with ⟨W, C⟩
  rw [hrd] at hx64
  simp only at hx64 ⊢
  obtain ⟨A9, run9, hb9⟩ := spanB_at10 hb (l := v'.r.a) (m := v'.r.t) (by omega) (by omega)
  have hR := fun W' (E : Ext w W') => sRead (hb9.up E) hrd
  have hP := fun W' => sPut (k := f.kind) (x := W) (w := W') hx64 hk rfl
  have hfit : (rightB f.number (wireI f.kind) && fitsV (wireI f.kind) (putS f.kind W)) = true := by
    obtain ⟨Vw, q1, _, q3⟩ := wire_fits hk hx64
    rw [rw_, q1, q3]
    rfl
  have hpl := (putS_length (k := f.kind) hx64).2
  generalize putS f.kind W = P at *
  generalize wireI f.kind = wi at *
  have HR := Lib.hid hR
  have HP := Lib.hid hP
  have HN := Lib.hid hN
  have HWr := Lib.hid hWr
  have Hown := Lib.hid own
  have Hfit := Lib.hid hfit
  clear hR hP hN hWr own hvk HV hv hS hb hrun hrun2 hbd hfit hb9 hrd hWo hvm hvs hnl hq hvl
  subst hV
  unfold fieldV at *
  have hmf : ∀ (fn : Fn) (first cap : Array Value) (w : World), (Instr.makeFunc fn first cap).run Tryz.prog w = .ok (.func fn first cap) w := fun _ _ _ _ => rfl
  go_enter Tryz.func96, Tryz.ntmps96
  go_wp2_with (first
    | (go_at_call 113; refine (HWr.out _).mono ?_; rintro e w2 ⟨rfl, E2⟩; have M2 := FieldMid.made' (f := f) Hown.out Hnl.out (by first | rfl | assumption) (by first | rfl | assumption) (by first | rfl | assumption) E2; obtain ⟨⟨z0, l0, l1, l2⟩, ⟨g0, g1, g2, g3, g4, g5⟩, ⟨v3, v4⟩⟩ := M2.cells)
    | (go_at_call 65; refine (HN.out _).mono ?_; rintro e w3 ⟨rfl, E3⟩; replace M2 := M2.up E3; clear z0 l0 l1 l2 g0 g1 g2 g3 g4 g5 v3 v4; obtain ⟨⟨z0, l0, l1, l2⟩, ⟨g0, g1, g2, g3, g4, g5⟩, ⟨v3, v4⟩⟩ := M2.cells))
  go_region_law (first
    | (go_simp; go_at_call 142; refine (HR.out _ (M2.put.ext.trans (by repeat with_reducible (first | exact Ext.refl _ | refine Ext.alloc ?_ _ | refine Ext.drew ?_ | refine Ext.drewN ?_ _ | refine Ext.setCell ?_ (by first | exact Nat.le_refl _ | omega | (simp; done) | (simp; omega)) _)))).mono ?_; rintro e w5 ⟨rfl, E5⟩; replace M2 := M2.up (Ext.trans (by repeat with_reducible (first | exact Ext.refl _ | refine Ext.alloc ?_ _ | refine Ext.drew ?_ | refine Ext.drewN ?_ _ | refine Ext.setCell ?_ (by first | exact Nat.le_refl _ | omega | (simp; done) | (simp; omega)) _)) E5); clear z0 l0 l1 l2 g0 g1 g2 g3 g4 g5 v3 v4; obtain ⟨⟨z0, l0, l1, l2⟩, ⟨g0, g1, g2, g3, g4, g5⟩, ⟨v3, v4⟩⟩ := M2.cells))
  go_wp2_with (first
    | (go_at_call 143; refine (HP.out _).mono ?_; rintro e w6 ⟨A6, c6, rfl, own6⟩; replace M2 := M2.up (Ext.trans (by repeat with_reducible (first | exact Ext.refl _ | refine Ext.alloc ?_ _ | refine Ext.drew ?_ | refine Ext.drewN ?_ _ | refine Ext.setCell ?_ (by first | exact Nat.le_refl _ | omega | (simp; done) | (simp; omega)) _)) own6.ext); clear z0 l0 l1 l2 g0 g1 g2 g3 g4 g5 v3 v4; obtain ⟨⟨z0, l0, l1, l2⟩, ⟨g0, g1, g2, g3, g4, g5⟩, ⟨v3, v4⟩⟩ := M2.cells)
    | (go_at_call 139; refine (M2.put.put h0s (Nat.le_refl _) own6.bytes (by omega) (by omega) Hfit.out).mono ?_; rintro e w7 ⟨rfl, A5, n5, c5, P5⟩; clear z0; have z0 : w7.cell? ⟨w.heap.size, 0, none⟩ = some (.slice A5 n5 c5) := P5.o.cell 0; have l5 := P5.o.lt))
  all_goals
    go_ret
    exact P5.done
end

end Go.Proofs.YtcbpbpeogfbpiaaGreat

/- Contracts of layer 18: a field's records behind others. -/

namespace Go.Proofs.YtcbpbpeogfbpiaaGreat
open Go.RowKit Go.Shelf
set_option linter.unusedVariables false

section
variable {w0 w : World} {SA : Option Addr} {sn sc : Nat} {S : List MsgV} {f : FieldD} {xs : List UInt8} {A : Option Addr} {n c : Nat} {B : Option Addr} {bn bc : Nat} {bs : List UInt8} {V : Option Addr} {vc : Nat} {vs : List ViewD} {se : Nat → MsgT → List UInt8} {sub : Nat → List UInt8 → MsgT}

set_option maxRecDepth 100000 in
set_option maxHeartbeats 4000000 in
/-- A single text. -/
theorem nFieldText (h : FieldPre w0 w SA sn sc S f xs A n c B bn bc bs V vc vs) (hk : numberB f.kind = false) (h17 : f.kind ≠ 17) (hr : f.rep = false) :
    Calls Tryz.prog 96 #[.slice A n c, .slice SA sn sc, fieldV f, .slice B bn bc, .slice V vs.length vc] w (FieldPost w0 w (xs ++ fieldE se sub f [] (vs.map (valueO bs)))) := by
  obtain ⟨own, hnl, hn, hS, hb, hbn, hv, hne, hbd, hw, hkb, r2, rw_, hrun, hrun2⟩ := h
  have hbl := hb.length
  obtain ⟨ini, v, hvs⟩ := last_split hne
  have hvl : vs.length = ini.length + 1 := by rw [hvs]; simp
  have hvw := weigh_length vs
  obtain ⟨q, hq⟩ : ∃ q, vs.length = q + 1 := ⟨_, hvl⟩
  obtain ⟨bV, off, v', hV, hvk, hbV, e0, e1, e2, e3, e4, e5, e6⟩ := hv.view' (k := q) (by omega)
  obtain rfl : v' = v := by
    have : q = ini.length := by omega
    subst this
    rw [hvs] at hvk
    simpa using hvk.symm
  have HV : Reads w V vs.length vc 7 (vs.flatMap viewC) := hv
  have hvm : v' ∈ vs := by rw [hvs]; simp
  have hvb := hbd v' hvm
  have hix : ((vs.length : Int) - 1) = (q : Int) := by omega
  have hqlt : (q : Int) < vs.length := by omega
  have hq6 : q ≤ 1000000 := by omega
  have Hnl := Lib.hid hnl
  have hN := fun W => kNumber f.kind W
  have hWr := fun W => kWire f.kind W
  rw [hk] at hN
  rw [wireOr_kind hkb, if_pos hkb] at hWr
  have h0s := own.ext.size
  have hwi := wire_other hkb hk
  rw [hwi] at hWr
  rw [hvs, List.map_append, List.map_singleton, fieldE_text hk h17 hr, ← hvs]
  obtain ⟨A9, run9, hb9⟩ := spanB_at10 hb (l := v'.r.a) (m := v'.r.t) (by omega) (by omega)
  have hfit : (rightB f.number 2 && fitsV 2 (valueO bs v')) = true := by
    rw [r2]
    simp [fitsV]
  have h17b : (f.kind == 17) = false := by simpa using h17
  have HN := Lib.hid hN
  have HWr := Lib.hid hWr
  have Hown := Lib.hid own
  have Hfit := Lib.hid hfit
  have Hb9 := Lib.hid hb9
  clear hN hWr own hvk HV hv hS hb hrun hrun2 hbd hfit hb9 hvm hvs hnl hq hvl
  subst hV
  unfold fieldV at *
  have hmf : ∀ (fn : Fn) (first cap : Array Value) (w : World), (Instr.makeFunc fn first cap).run Tryz.prog w = .ok (.func fn first cap) w := fun _ _ _ _ => rfl
  go_enter Tryz.func96, Tryz.ntmps96
  go_wp2_with (first
    | (go_at_call 113; refine (HWr.out _).mono ?_; rintro e w2 ⟨rfl, E2⟩; have M2 := FieldMid.made' (f := f) Hown.out Hnl.out (by first | rfl | assumption) (by first | rfl | assumption) (by first | rfl | assumption) E2; obtain ⟨⟨z0, l0, l1, l2⟩, ⟨g0, g1, g2, g3, g4, g5⟩, ⟨v3, v4⟩⟩ := M2.cells)
    | (go_at_call 65; refine (HN.out _).mono ?_; rintro e w3 ⟨rfl, E3⟩; replace M2 := M2.up E3; clear z0 l0 l1 l2 g0 g1 g2 g3 g4 g5 v3 v4; obtain ⟨⟨z0, l0, l1, l2⟩, ⟨g0, g1, g2, g3, g4, g5⟩, ⟨v3, v4⟩⟩ := M2.cells)
    | (go_at_call 139; refine (M2.put.put h0s (Nat.le_refl _) (Hb9.out.up M2.put.ext) (by omega) (by omega) Hfit.out).mono ?_; rintro e w7 ⟨rfl, A5, n5, c5, P5⟩; clear z0; have z0 : w7.cell? ⟨w.heap.size, 0, none⟩ = some (.slice A5 n5 c5) := P5.o.cell 0; have l5 := P5.o.lt))
  go_ret
  exact P5.done
end

end Go.Proofs.YtcbpbpeogfbpiaaGreat
