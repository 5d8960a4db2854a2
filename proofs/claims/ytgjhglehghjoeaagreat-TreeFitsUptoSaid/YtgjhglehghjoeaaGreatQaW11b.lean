/- Contracts of layer 11: checks. -/
import Derived.Test.YtgjhglehghjoeaaGreatQaW11

namespace Go.Proofs.YtgjhglehghjoeaaGreat
open Go.RowKit
set_option linter.unusedVariables false

theorem fromC_zero {sub : Option (Nat → List UInt8 → Nat × Nat)} {fs : List FieldD} {bs : List UInt8} {p : Nat} (h : (fromC sub fs bs p).2 = 0) : fromC sub fs bs p = (0, 0) := by
  unfold fromC at h ⊢
  by_cases c : (scan (stepC sub fs bs) ViewD.to bs.length p).2.2 = 0
  · rw [if_pos c]
  · rw [if_neg c] at h; exact absurd h c

theorem firstV_zero {S : List MsgD} {d m : Nat} {bs : List UInt8} (h : (firstV S d m bs).2 = 0) : firstV S d m bs = (0, 0) := by
  rw [firstV_eq] at h ⊢
  unfold checkM at h ⊢
  rcases hm : S[m]? with _ | M
  · rfl
  · simp only [hm] at h ⊢
    exact fromC_zero h

/-- What a check tells: the place, how deep, the code. -/
def ChkP (S : List MsgD) (root : Int) (bs : List UInt8) (d : Int) (w : World) (e : Ending) (w' : World) : Prop :=
  ∃ D : Nat, e = .returned (.tuple #[.int .i64 ((checkB S root bs d).1 : Nat), .int .i64 (D : Int), .int .u8 ((checkB S root bs d).2 : Nat)]) ∧ ((checkB S root bs d).2 = 0 → D = deepV S d.toNat root.toNat bs) ∧ Ext w w'

set_option maxRecDepth 100000 in
set_option maxHeartbeats 1000000 in
theorem vCheck0 {A : Option Addr} {n c : Nat} {S : List MsgV} {root d : Int} {B : Option Addr} {n' c' : Nat} {bs : List UInt8} {w : World} (hs : SchemaAt w A n c S) (hb : BytesAt w B n' c' bs) (hn : n' ≤ 1000000000) :
    Calls Tryz.prog 145 #[.slice A n c, .int .i64 root, .slice B n' c', .int .i64 d] w (ChkP (S.map MsgV.d) root bs d w) := by
  have ha := fun (W : World) (h : SchemaAt W A n c S) => vArgs (root := root) (d := d) h
  have hal := argsV_le (S.map MsgV.d) root d
  by_cases h0 : argsV (S.map MsgV.d) root d = 0
  · rw [h0] at ha
    have hck : checkB (S.map MsgV.d) root bs d = firstV (S.map MsgV.d) d.toNat root.toNat bs := by unfold checkB; rw [if_pos h0]
    have hR : rightS (S.map MsgV.d) = true := by
      unfold argsV at h0
      by_cases h : rightS (S.map MsgV.d) = false
      · rw [if_pos h] at h0; omega
      · simpa using h
    obtain ⟨r0, r1, d0, d1⟩ : 0 ≤ root ∧ root < n ∧ 0 ≤ d ∧ d ≤ 64 := by
      unfold argsV at h0
      rw [if_neg (by rw [hR]; simp), List.length_map, hs.length] at h0
      by_cases h : root < 0 ∨ (n : Int) ≤ root ∨ d < 0 ∨ 64 < d
      · rw [if_pos h] at h0; omega
      · omega
    obtain ⟨m, rfl⟩ := Int.eq_ofNat_of_zero_le r0
    obtain ⟨k, rfl⟩ := Int.eq_ofNat_of_zero_le d0
    rw [Int.toNat_natCast, Int.toNat_natCast] at hck
    obtain ⟨M, hM⟩ : ∃ M, S[m]? = some M := ⟨_, List.getElem?_eq_getElem (by rw [hs.length]; omega)⟩
    have hcall := fun (w1 : World) (E1 : Ext w w1) => (vAll k).1 (w0 := w1) (w := w1.alloc (.cells #[.slice A n c, .int .i64 0] 277)) (cb := w1.heap.size) (D := 0) (fr := 0) (depth := 0) (mo := k) (hs.up E1) hR hM (hb.up E1) ⟨BlkT.new w1 _ _ rfl, Ext.alloc (Ext.refl w1) _, Nat.le_refl _⟩ (by omega) (by omega) (by omega) (by omega)
    rw [show ((0 : Nat) : Int) = 0 from rfl] at hcall
    unfold ChkP
    rw [hck, Int.toNat_natCast, Int.toNat_natCast]
    have hz := @firstV_zero (S.map MsgV.d) k m bs
    generalize firstV (S.map MsgV.d) k m bs = V at *
    generalize deepV (S.map MsgV.d) k m bs = dp at *
    have Hcall := Lib.hid hcall
    have Ha := Lib.hid ha
    have Hz := Lib.hid hz
    have hki : (k : Int) ≤ 64 := d1
    clear hcall ha hz h0 hck hR r0 r1 d0 d1 hM hal
    go_enter Tryz.func145, Tryz.ntmps145
    go_wp2_with (first | (go_at_call 141; refine (Ha.out _ hs).mono ?_; rintro e w1 ⟨rfl, E1⟩) | (go_at_call 184; refine (Hcall.out _ E1).mono ?_; rintro e w2 ⟨⟨P, D', rfl, p1, p2, p3, p4, p5, p6⟩, p7⟩; have y1 := p3.cell 1; have yl := p3.lt; have E2 : Ext w1 w2 := p2.toExt (Ext.alloc (Ext.refl w1) _) (Nat.le_refl _); have P1 := Lib.hid p1; have P6 := Lib.hid p6; have P7 := Lib.hid p7; clear p1 p2 p3 p6 p7))
    go_quiet (fail)
    go_wp2
    go_ret3
    have hP : P = V.1 := by
      by_cases h : V.2 = 0
      · have h1 := P7.out h
        have h2 := Hz.out h
        injection h1 with h1
        injection h1 with h1
        have h3 := congrArg (fun l => l[0]?) h1
        simp at h3
        rw [h2]
        exact h3
      · have := P1.out h; omega
    subst hP
    exact ⟨D', rfl, fun h => by rw [P6.out h]; omega, (E1.trans E2).drewN _⟩
  · have hck : checkB (S.map MsgV.d) root bs d = (0, argsV (S.map MsgV.d) root d) := by unfold checkB; rw [if_neg h0]
    unfold ChkP
    rw [hck]
    generalize argsV (S.map MsgV.d) root d = C at *
    have Ha := Lib.hid ha
    have q : ((C : Int) != 0) = true := by rw [bne_iff_ne]; omega
    have H0 := Lib.hid h0
    clear ha hck h0
    go_enter Tryz.func145, Tryz.ntmps145
    go_wp2_with (go_at_call 141; refine (Ha.out _ hs).mono ?_; rintro e w1 ⟨rfl, E1⟩)
    go_ret3
    exact ⟨0, rfl, fun h => absurd h H0.out, E1⟩

theorem vCheck {A : Option Addr} {n c : Nat} {S : List MsgV} {root d : Int} {B : Option Addr} {n' c' : Nat} {bs : List UInt8} {w : World} (hs : SchemaAt w A n c S) (hb : BytesAt w B n' c' bs) (hn : n' ≤ 1000000000) :
    Calls Tryz.prog 86 #[.slice A n c, .int .i64 root, .slice B n' c', .int .i64 d] w fun e w' => e = .returned (.tuple #[.int .i64 ((checkB (S.map MsgV.d) root bs d).1 : Nat), .int .u8 ((checkB (S.map MsgV.d) root bs d).2 : Nat)]) ∧ Ext w w' := by
  have hc := vCheck0 (root := root) (d := d) hs hb hn
  unfold ChkP at hc
  generalize checkB (S.map MsgV.d) root bs d = V at *
  generalize deepV (S.map MsgV.d) d.toNat root.toNat bs = dp at *
  have Hc := Lib.hid hc
  clear hc
  go_enter Tryz.func86, Tryz.ntmps86
  go_wp2_with (go_at_call 145; refine Hc.out.mono ?_; rintro e w1 ⟨D, rfl, p1, E1⟩; have P1 := Lib.hid p1; clear p1)
  go_ret2
  exact ⟨rfl, E1⟩

end Go.Proofs.YtgjhglehghjoeaaGreat
