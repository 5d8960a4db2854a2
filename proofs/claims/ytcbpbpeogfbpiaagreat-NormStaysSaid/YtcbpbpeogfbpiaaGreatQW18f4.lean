/- Contracts of layer 18: a field's records behind others. -/
import Derived.Test.YtcbpbpeogfbpiaaGreatQW18f

namespace Go.Proofs.YtcbpbpeogfbpiaaGreat
open Go.RowKit Go.Shelf
set_option linter.unusedVariables false

section
variable {w0 w : World} {SA : Option Addr} {sn sc : Nat} {S : List MsgV} {f : FieldD} {xs : List UInt8} {A : Option Addr} {n c : Nat} {B : Option Addr} {bn bc : Nat} {bs : List UInt8} {V : Option Addr} {vc : Nat} {vs : List ViewD} {se : Nat → MsgT → List UInt8} {sub : Nat → List UInt8 → MsgT}

set_option maxRecDepth 100000 in
set_option maxHeartbeats 4000000 in
/-- Many texts. -/
theorem nFieldTexts (h : FieldPre w0 w SA sn sc S f xs A n c B bn bc bs V vc vs) (hk : numberB f.kind = false) (h17 : f.kind ≠ 17) (hr : f.rep = true) :
    Calls Tryz.prog 96 #[.slice A n c, .slice SA sn sc, fieldV f, .slice B bn bc, .slice V vs.length vc] w (FieldPost w0 w (xs ++ fieldE se sub f [] (vs.map (valueO bs)))) := by
  obtain ⟨own, hnl, hn, hS, hb, hbn, hv, hne, hbd, hw, hkb, r2, rw_, hrun, hrun2⟩ := h
  have hbl := hb.length
  obtain ⟨ini, v, hvs⟩ := last_split hne
  have hvl : vs.length = ini.length + 1 := by rw [hvs]; simp
  have hvw := weigh_length vs
  obtain ⟨q, hq⟩ : ∃ q, vs.length = q + 1 := ⟨_, hvl⟩
  obtain ⟨bV, off, v', hV, hvk, hbV, e0, e1, e2, e3, e4, e5, e6⟩ := hv.view' (k := q) (by omega)
  obtain rfl : v' = v := by
    have : q = ini.length := by omega
    subst this
    rw [hvs] at hvk
    simpa using hvk.symm
  have HV : Reads w V vs.length vc 7 (vs.flatMap viewC) := hv
  have hvm : v' ∈ vs := by rw [hvs]; simp
  have hvb := hbd v' hvm
  have hix : ((vs.length : Int) - 1) = (q : Int) := by omega
  have hqlt : (q : Int) < vs.length := by omega
  have hq6 : q ≤ 1000000 := by omega
  have Hnl := Lib.hid hnl
  have hN := fun W => kNumber f.kind W
  have hWr := fun W => kWire f.kind W
  rw [hk] at hN
  rw [wireOr_kind hkb, if_pos hkb] at hWr
  have h0s := own.ext.size
  have hwi := wire_other hkb hk
  rw [hwi] at hWr
  rw [fieldE_texts hk h17 hr]
  have hall : ((vs.map (valueO bs)).map fun x => putB f.number 2 x).flatten = gputs (fun x => x) f.number bs vs vs.length := gputs_all.symm
  rw [hall]
  have hle := fun k => gputs_le (g := fun x => x) (vs := vs) (bs := bs) r2 (fun v h => (hbd v h).2) (by omega) (fun v _ => by omega) k
  have hfit : ∀ x : List UInt8, (rightB f.number 2 && fitsV 2 x) = true := fun x => by
    rw [r2]
    simp [fitsV]
  have h17b : (f.kind == 17) = false := by simpa using h17
  have HN := Lib.hid hN
  have HWr := Lib.hid hWr
  have Hown := Lib.hid own
  have Hfit := Lib.hid hfit
  have Hb := Lib.hid hb
  have Hle := Lib.hid hle
  have Hbd := Lib.hid hbd
  have Hvs := Lib.hid HV
  clear hN hWr own hvk HV hv hS hb hrun hrun2 hbd hfit hvm hvs hle hall hnl hq hvl
  subst hV
  unfold fieldV at *
  have hmf : ∀ (fn : Fn) (first cap : Array Value) (w : World), (Instr.makeFunc fn first cap).run Tryz.prog w = .ok (.func fn first cap) w := fun _ _ _ _ => rfl
  go_enter Tryz.func96, Tryz.ntmps96
  go_wp2_with (first
    | (go_at_call 113; refine (HWr.out _).mono ?_; rintro e w2 ⟨rfl, E2⟩; have M2 := FieldMid.made' (f := f) Hown.out Hnl.out (by first | rfl | assumption) (by first | rfl | assumption) (by first | rfl | assumption) E2; obtain ⟨⟨z0, l0, l1, l2⟩, ⟨g0, g1, g2, g3, g4, g5⟩, ⟨v3, v4⟩⟩ := M2.cells)
    | (go_at_call 65; refine (HN.out _).mono ?_; rintro e w3 ⟨rfl, E3⟩; replace M2 := M2.up E3; clear z0 l0 l1 l2 g0 g1 g2 g3 g4 g5 v3 v4; obtain ⟨⟨z0, l0, l1, l2⟩, ⟨g0, g1, g2, g3, g4, g5⟩, ⟨v3, v4⟩⟩ := M2.cells))
  go_loopw [163] (fun i wr => ∃ (k : Nat) (A' : Option Addr) (n' c' : Nat), k ≤ vs.length ∧ i = .int .i64 (k : Int) ∧ PutS w0 w wr w.heap.size f (xs ++ gputs (fun x => x) f.number bs vs k) A' n' c') (fun i _ => vs.length - (intOf i).toNat)
  case atStart => exact ⟨0, A, n, c, Nat.zero_le _, rfl, by have := M2.put; simpa [gputs] using this⟩
  case round =>
    obtain ⟨k, A', n', c', hk1, rfl, hP⟩ := hrel
    have z0 : wr.cell? ⟨w.heap.size, 0, none⟩ = some (.slice A' n' c') := hP.o.cell 0
    have zl := hP.o.lt
    by_cases hlt : k < vs.length
    · have hltI : (k : Int) < vs.length := by omega
      obtain ⟨b5, off5, v, hA, hvk, hb5, e0, e1, e2, e3, e4, e5, e6⟩ := (Hvs.out.ext hP.ext).view' hlt
      have hvb := Hbd.out v (List.mem_of_getElem? hvk)
      obtain ⟨A9, run9, hb9⟩ := spanB_at10 Hb.out (l := v.r.a) (m := v.r.t) (by omega) (by omega)
      have hlk := Hle.out k
      have hn8 : n' ≤ 105000000 := by
        have hn' := hP.nL
        rw [List.length_append] at hn'
        have := Hnl.out
        omega
      have Hvk := Lib.hid hvk
      have HP := Lib.hid hP
      clear hvk hP
      cases hA
      go_wp2_with (go_at_call 139; refine ((HP.out.up (by repeat with_reducible (first | exact Ext.refl _ | refine Ext.alloc ?_ _ | refine Ext.drew ?_ | refine Ext.drewN ?_ _ | refine Ext.setCell ?_ (by first | exact Nat.le_refl _ | omega | (simp; done) | (simp; omega)) _))).put h0s (Nat.le_refl _) (hb9.up (HP.out.ext.trans (by repeat with_reducible (first | exact Ext.refl _ | refine Ext.alloc ?_ _ | refine Ext.drew ?_ | refine Ext.drewN ?_ _ | refine Ext.setCell ?_ (by first | exact Nat.le_refl _ | omega | (simp; done) | (simp; omega)) _)))) (by omega) (by omega) (Hfit.out _)).mono ?_; rintro e w7 ⟨rfl, A5, n5, c5, P5⟩; clear z0 zl; have z0 : w7.cell? ⟨w.heap.size, 0, none⟩ = some (.slice A5 n5 c5) := P5.o.cell 0; have l5 := P5.o.lt)
      go_roundw
      case rel =>
        refine ⟨k + 1, A5, n5, c5, by omega, by go_num, ?_⟩
        rw [gputs_step Hvk.out, ← List.append_assoc]
        exact P5
      case measure => simp [intOf]; omega
    · obtain rfl : k = vs.length := by omega
      have hltI : ¬ (vs.length : Int) < vs.length := by omega
      have HP := Lib.hid hP
      clear hP
      go_wp2
      go_ret
      exact HP.out.done
end

end Go.Proofs.YtcbpbpeogfbpiaaGreat

/- Contracts of layer 18: a field's records behind others. -/

namespace Go.Proofs.YtcbpbpeogfbpiaaGreat
open Go.RowKit Go.Shelf
set_option linter.unusedVariables false

section
variable {w0 w : World} {SA : Option Addr} {sn sc : Nat} {S : List MsgV} {f : FieldD} {xs : List UInt8} {A : Option Addr} {n c : Nat} {B : Option Addr} {bn bc : Nat} {bs : List UInt8} {V : Option Addr} {vc : Nat} {vs : List ViewD} {se : Nat → MsgT → List UInt8} {sub : Nat → List UInt8 → MsgT}

set_option maxRecDepth 100000 in
set_option maxHeartbeats 4000000 in
/-- A number of many. -/
theorem nFieldRun (h : FieldPre w0 w SA sn sc S f xs A n c B bn bc bs V vc vs) (hk : numberB f.kind = true) (hr : f.rep = true) :
    Calls Tryz.prog 96 #[.slice A n c, .slice SA sn sc, fieldV f, .slice B bn bc, .slice V vs.length vc] w (FieldPost w0 w (xs ++ fieldE se sub f (vs.flatMap (wordsO f bs)) [])) := by
  obtain ⟨own, hnl, hn, hS, hb, hbn, hv, hne, hbd, hw, hkb, r2, rw_, hrun, _⟩ := h
  have hbl := hb.length
  have hvl : 1 ≤ vs.length := by
    rcases vs with _ | ⟨v, l⟩
    · exact absurd rfl hne
    · simp
  have hvw := weigh_length vs
  obtain ⟨q, hq⟩ : ∃ q, vs.length = q + 1 := ⟨vs.length - 1, by omega⟩
  obtain ⟨bV, off, v, hV, hvk, hbV, e0, e1, e2, e3, e4, e5, e6⟩ := hv.view' (k := q) (by omega)
  have HV : Reads w V vs.length vc 7 (vs.flatMap viewC) := hv
  have hix : ((vs.length : Int) - 1) = (q : Int) := by omega
  have hqlt : (q : Int) < vs.length := by omega
  have hq6 : q ≤ 1000000 := by omega
  have Hnl := Lib.hid hnl
  have hN := fun W => kNumber f.kind W
  have hWr := fun W => kWire f.kind W
  rw [hk] at hN
  rw [wireOr_kind hkb, if_pos hkb] at hWr
  have h64 := words_64 f bs vs
  have hpl := packW_le f.kind _ h64
  have hwl := words_le f bs vs (fun v h => (hbd v h).2)
  have hnum := fun W (E : Ext w W) => nNumbers (w := W) hk hbd (by omega) (hb.up E) (by omega) (HV.ext E)
  unfold fieldV at hnum
  rw [hr] at hnum
  have h0s := own.ext.size
  rw [fieldE_run hk hr]
  generalize vs.flatMap (wordsO f bs) = ws at *
  have hfit : (rightB f.number 2 && fitsV 2 (packW f.kind ws)) = true := by
    rw [r2]
    simp [fitsV]
  by_cases hws : ws = []
  · subst hws
    rw [if_pos rfl, List.append_nil]
    have hp0 : packW f.kind [] = [] := rfl
    rw [hp0] at hnum
    simp only [List.length_nil] at hnum
    have Hnum := Lib.hid hnum
    have HN := Lib.hid hN
    have HWr := Lib.hid hWr
    have Hown := Lib.hid own
    subst hV
    clear hnum hN hWr own hvk HV hv hS hb hrun h64 hbd hfit hnl hq
    unfold fieldV at *
    have hmf : ∀ (fn : Fn) (first cap : Array Value) (w : World), (Instr.makeFunc fn first cap).run Tryz.prog w = .ok (.func fn first cap) w := fun _ _ _ _ => rfl
    go_enter Tryz.func96, Tryz.ntmps96
    go_wp2_with (first
      | (go_at_call 113; refine (HWr.out _).mono ?_; rintro e w2 ⟨rfl, E2⟩; have M2 := FieldMid.made' (f := f) Hown.out Hnl.out (by first | rfl | assumption) (by first | rfl | assumption) (by first | rfl | assumption) E2; obtain ⟨⟨z0, l0, l1, l2⟩, ⟨g0, g1, g2, g3, g4, g5⟩, ⟨v3, v4⟩⟩ := M2.cells)
      | (go_at_call 65; refine (HN.out _).mono ?_; rintro e w3 ⟨rfl, E3⟩; have M3 := M2.up E3; clear z0 l0 l1 l2 g0 g1 g2 g3 g4 g5 v3 v4; obtain ⟨⟨z0, l0, l1, l2⟩, ⟨g0, g1, g2, g3, g4, g5⟩, ⟨v3, v4⟩⟩ := M3.cells)
      | (go_at_call 141; refine (Hnum.out _ (M3.put.ext)).mono ?_; rintro e w4 ⟨A4, c4, rfl, own4⟩; have M4 := M3.up own4.ext; clear z0 l0 l1 l2 g0 g1 g2 g3 g4 g5 v3 v4; obtain ⟨⟨z0, l0, l1, l2⟩, ⟨g0, g1, g2, g3, g4, g5⟩, ⟨v3, v4⟩⟩ := M4.cells))
    go_ret
    exact M4.done
  · rw [if_neg hws]
    have hpos := pack_pos (k := f.kind) h64 hws
    have hposI : (0 : Int) < ((packW f.kind ws).length : Int) := by omega
    have hlen : (packW f.kind ws).length ≤ 1000000000 := by omega
    generalize packW f.kind ws = P at *
    generalize P.length = pn at *
    have Hnum := Lib.hid hnum
    have HN := Lib.hid hN
    have HWr := Lib.hid hWr
    have Hown := Lib.hid own
    have Hfit := Lib.hid hfit
    subst hV
    clear hnum hN hWr own hvk HV hv hS hb hrun h64 hbd hfit hnl hq
    unfold fieldV at *
    have hmf : ∀ (fn : Fn) (first cap : Array Value) (w : World), (Instr.makeFunc fn first cap).run Tryz.prog w = .ok (.func fn first cap) w := fun _ _ _ _ => rfl
    go_enter Tryz.func96, Tryz.ntmps96
    go_wp2_with (first
      | (go_at_call 113; refine (HWr.out _).mono ?_; rintro e w2 ⟨rfl, E2⟩; have M2 := FieldMid.made' (f := f) Hown.out Hnl.out (by first | rfl | assumption) (by first | rfl | assumption) (by first | rfl | assumption) E2; obtain ⟨⟨z0, l0, l1, l2⟩, ⟨g0, g1, g2, g3, g4, g5⟩, ⟨v3, v4⟩⟩ := M2.cells)
      | (go_at_call 65; refine (HN.out _).mono ?_; rintro e w3 ⟨rfl, E3⟩; have M3 := M2.up E3; clear z0 l0 l1 l2 g0 g1 g2 g3 g4 g5 v3 v4; obtain ⟨⟨z0, l0, l1, l2⟩, ⟨g0, g1, g2, g3, g4, g5⟩, ⟨v3, v4⟩⟩ := M3.cells)
      | (go_at_call 141; refine (Hnum.out _ (M3.put.ext)).mono ?_; rintro e w4 ⟨A4, c4, rfl, own4⟩; have M4 := M3.up own4.ext; clear z0 l0 l1 l2 g0 g1 g2 g3 g4 g5 v3 v4; obtain ⟨⟨z0, l0, l1, l2⟩, ⟨g0, g1, g2, g3, g4, g5⟩, ⟨v3, v4⟩⟩ := M4.cells)
      | (go_at_call 139; refine (M4.put.put h0s (Nat.le_refl _) own4.bytes (by omega) hlen Hfit.out).mono ?_; rintro e w5 ⟨rfl, A5, n5, c5, P5⟩; clear z0; have z0 : w5.cell? ⟨w.heap.size, 0, none⟩ = some (.slice A5 n5 c5) := P5.o.cell 0; have l5 := P5.o.lt))
    go_ret
    exact P5.done
end

end Go.Proofs.YtcbpbpeogfbpiaaGreat
