/- Contracts of layer 18: a field's records behind others. -/
import Derived.Test.YtcbpbpeogfbpiaaW18f
namespace Go.Proofs.Ytcbpbpeogfbpiaa
open Go.RowKit Go.Shelf
set_option linter.unusedVariables false

section
variable {w0 w : World} {SA : Option Addr} {sn sc : Nat} {S : List MsgV} {f : FieldD} {xs : List UInt8} {A : Option Addr} {n c : Nat} {B : Option Addr} {bn bc : Nat} {bs : List UInt8} {V : Option Addr} {vc : Nat} {vs : List ViewD} {se : Nat → MsgT → List UInt8} {sub : Nat → List UInt8 → MsgT}

set_option maxRecDepth 100000 in
set_option maxHeartbeats 4000000 in
/-- A number of many. -/
theorem nFieldRun (h : FieldPre w0 w SA sn sc S f xs A n c B bn bc bs V vc vs) (hk : numberB f.kind = true) (hr : f.rep = true) :
    Calls Try.prog 31 #[.slice A n c, .slice SA sn sc, fieldV f, .slice B bn bc, .slice V vs.length vc] w (FieldPost w0 w (xs ++ fieldE se sub f (vs.flatMap (wordsO f bs)) [])) := by
  obtain ⟨own, hnl, hn, hS, hb, hbn, hv, hne, hbd, hw, hkb, r2, rw_, hrun, _⟩ := h
  have hbl := hb.length
  have hvl : 1 ≤ vs.length := by
    rcases vs with _ | ⟨v, l⟩
    · exact absurd rfl hne
    · simp
  have hvw := weigh_length vs
  obtain ⟨q, hq⟩ : ∃ q, vs.length = q + 1 := ⟨vs.length - 1, by omega⟩
  obtain ⟨bV, off, v, hV, hvk, hbV, e0, e1, e2, e3, e4, e5, e6⟩ := hv.view' (k := q) (by omega)
  have HV : Reads w V vs.length vc 7 (vs.flatMap viewC) := hv
  have hix : ((vs.length : Int) - 1) = (q : Int) := by omega
  have hqlt : (q : Int) < vs.length := by omega
  have hq6 : q ≤ 1000000 := by omega
  have Hnl := Lib.hid hnl
  have hN := fun W => kNumber f.kind W
  have hWr := fun W => kWire f.kind W
  rw [hk] at hN
  rw [wireOr_kind hkb, if_pos hkb] at hWr
  have h64 := words_64 f bs vs
  have hpl := packW_le f.kind _ h64
  have hwl := words_le f bs vs (fun v h => (hbd v h).2)
  have hnum := fun W (E : Ext w W) => nNumbers (w := W) hk hbd (by omega) (hb.up E) (by omega) (HV.ext E)
  unfold fieldV at hnum
  rw [hr] at hnum
  have h0s := own.ext.size
  rw [fieldE_run hk hr]
  generalize vs.flatMap (wordsO f bs) = ws at *
  have hfit : (rightB f.number 2 && fitsV 2 (packW f.kind ws)) = true := by
    rw [r2]
    simp [fitsV]
  by_cases hws : ws = []
  · subst hws
    rw [if_pos rfl, List.append_nil]
    have hp0 : packW f.kind [] = [] := rfl
    rw [hp0] at hnum
    simp only [List.length_nil] at hnum
    have Hnum := Lib.hid hnum
    have HN := Lib.hid hN
    have HWr := Lib.hid hWr
    have Hown := Lib.hid own
    subst hV
    clear hnum hN hWr own hvk HV hv hS hb hrun h64 hbd hfit hnl hq
    unfold fieldV at *
    have hmf : ∀ (fn : Fn) (first cap : Array Value) (w : World), (Instr.makeFunc fn first cap).run Try.prog w = .ok (.func fn first cap) w := fun _ _ _ _ => rfl
    go_enter Try.func31, Try.ntmps31
    go_wp2_with (first
      | (go_at_call 49; refine (HWr.out _).mono ?_; rintro e w2 ⟨rfl, E2⟩; have M2 := FieldMid.made' (f := f) Hown.out Hnl.out (by first | rfl | assumption) (by first | rfl | assumption) (by first | rfl | assumption) E2; obtain ⟨⟨z0, l0, l1, l2⟩, ⟨g0, g1, g2, g3, g4, g5⟩, ⟨v3, v4⟩⟩ := M2.cells)
      | (go_at_call 52; refine (HN.out _).mono ?_; rintro e w3 ⟨rfl, E3⟩; have M3 := M2.up E3; clear z0 l0 l1 l2 g0 g1 g2 g3 g4 g5 v3 v4; obtain ⟨⟨z0, l0, l1, l2⟩, ⟨g0, g1, g2, g3, g4, g5⟩, ⟨v3, v4⟩⟩ := M3.cells)
      | (go_at_call 53; refine (Hnum.out _ (M3.put.ext)).mono ?_; rintro e w4 ⟨A4, c4, rfl, own4⟩; have M4 := M3.up own4.ext; clear z0 l0 l1 l2 g0 g1 g2 g3 g4 g5 v3 v4; obtain ⟨⟨z0, l0, l1, l2⟩, ⟨g0, g1, g2, g3, g4, g5⟩, ⟨v3, v4⟩⟩ := M4.cells))
    go_ret
    exact M4.done
  · rw [if_neg hws]
    have hpos := pack_pos (k := f.kind) h64 hws
    have hposI : (0 : Int) < ((packW f.kind ws).length : Int) := by omega
    have hlen : (packW f.kind ws).length ≤ 1000000000 := by omega
    generalize packW f.kind ws = P at *
    generalize P.length = pn at *
    have Hnum := Lib.hid hnum
    have HN := Lib.hid hN
    have HWr := Lib.hid hWr
    have Hown := Lib.hid own
    have Hfit := Lib.hid hfit
    subst hV
    clear hnum hN hWr own hvk HV hv hS hb hrun h64 hbd hfit hnl hq
    unfold fieldV at *
    have hmf : ∀ (fn : Fn) (first cap : Array Value) (w : World), (Instr.makeFunc fn first cap).run Try.prog w = .ok (.func fn first cap) w := fun _ _ _ _ => rfl
    go_enter Try.func31, Try.ntmps31
    go_wp2_with (first
      | (go_at_call 49; refine (HWr.out _).mono ?_; rintro e w2 ⟨rfl, E2⟩; have M2 := FieldMid.made' (f := f) Hown.out Hnl.out (by first | rfl | assumption) (by first | rfl | assumption) (by first | rfl | assumption) E2; obtain ⟨⟨z0, l0, l1, l2⟩, ⟨g0, g1, g2, g3, g4, g5⟩, ⟨v3, v4⟩⟩ := M2.cells)
      | (go_at_call 52; refine (HN.out _).mono ?_; rintro e w3 ⟨rfl, E3⟩; have M3 := M2.up E3; clear z0 l0 l1 l2 g0 g1 g2 g3 g4 g5 v3 v4; obtain ⟨⟨z0, l0, l1, l2⟩, ⟨g0, g1, g2, g3, g4, g5⟩, ⟨v3, v4⟩⟩ := M3.cells)
      | (go_at_call 53; refine (Hnum.out _ (M3.put.ext)).mono ?_; rintro e w4 ⟨A4, c4, rfl, own4⟩; have M4 := M3.up own4.ext; clear z0 l0 l1 l2 g0 g1 g2 g3 g4 g5 v3 v4; obtain ⟨⟨z0, l0, l1, l2⟩, ⟨g0, g1, g2, g3, g4, g5⟩, ⟨v3, v4⟩⟩ := M4.cells)
      | (go_at_call 50; refine (M4.put.put h0s (Nat.le_refl _) own4.bytes (by omega) hlen Hfit.out).mono ?_; rintro e w5 ⟨rfl, A5, n5, c5, P5⟩; clear z0; have z0 : w5.cell? ⟨w.heap.size, 0, none⟩ = some (.slice A5 n5 c5) := P5.o.cell 0; have l5 := P5.o.lt))
    go_ret
    exact P5.done
end

end Go.Proofs.Ytcbpbpeogfbpiaa
