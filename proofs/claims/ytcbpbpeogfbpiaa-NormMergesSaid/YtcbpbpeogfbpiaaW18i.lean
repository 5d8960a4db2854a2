/- Contracts of layer 18: norm.Form, Same, Is; the chapter's example. -/
import Derived.Test.YtcbpbpeogfbpiaaW18h
import Derived.Test.YtcbpbpeogfbpiaaW11b
import Derived.Test.YtcbpbpeogfbpiaaKSchemaChecks
namespace Go.Proofs.Ytcbpbpeogfbpiaa
open Go.RowKit Go.Shelf
set_option linter.unusedVariables false

theorem nForm {S : List MsgV} (hR : rightS (S.map MsgV.d) = true) : ∀ d, d ≤ 100000 → NormP S (d + 1) (encV (S.map MsgV.d) d) (ofV (S.map MsgV.d) d)
  | 0, _ => nStep (d := 0) (se := fun _ _ => []) (sub := fun _ _ => .mk () () [] []) hR (Nat.zero_le _) (fun _ _ _ => Nat.zero_le _) (fun w SA sn sc m A n c bs _ _ _ h => absurd h (Nat.not_lt_zero n))
  | d + 1, h => nStep hR (by omega) (fun o x hx => enc_small hR d o x hx) (nForm hR d (by omega))

/-- The normal form of any bytes, or nothing. -/
def formB (S : List MsgD) (root : Int) (bs : List UInt8) (d : Int) : List UInt8 := if (checkB S root bs d).2 = 0 then normB S root.toNat bs else []

theorem checked_right {S : List MsgD} {root d : Int} {bs : List UInt8} (h : (checkB S root bs d).2 = 0) : rightS S = true ∧ 0 ≤ root ∧ root < S.length ∧ 0 ≤ d ∧ d ≤ 64 ∧ (firstV S d.toNat root.toNat bs).2 = 0 := by
  unfold checkB at h
  by_cases h0 : argsV S root d = 0
  · rw [if_pos h0] at h
    unfold argsV at h0
    split at h0
    · cases h0
    · rename_i hr
      split at h0
      · cases h0
      · exact ⟨by simpa using hr, by omega, by omega, by omega, by omega, h⟩
  · rw [if_neg h0] at h
    exact absurd h h0

theorem nFormB {A : Option Addr} {n c : Nat} {S : List MsgV} {root d : Int} {B : Option Addr} {n' c' : Nat} {bs : List UInt8} {w : World} (hs : SchemaAt w A n c S) (hb : BytesAt w B n' c' bs) (hn : n' ≤ 100000) :
    Calls Try.prog 7 #[.slice A n c, .int .i64 root, .slice B n' c', .int .i64 d] w fun e w' => ∃ A' c2, e = .returned (.tuple #[.slice A' (formB (S.map MsgV.d) root bs d).length c2, .int .u8 ((checkB (S.map MsgV.d) root bs d).2 : Nat)]) ∧
      Own w w' 5 1 A' (formB (S.map MsgV.d) root bs d).length c2 ((formB (S.map MsgV.d) root bs d).map bv) := by
  have hc := fun W (h : SchemaAt W A n c S) (h2 : BytesAt W B n' c' bs) => vCheck (root := root) (d := d) h h2 (by omega)
  have Hc := Lib.hid hc
  clear hc
  by_cases h0 : (checkB (S.map MsgV.d) root bs d).2 = 0
  · obtain ⟨hR, r1, r2, _⟩ := checked_right h0
    obtain ⟨m, rfl⟩ := Int.eq_ofNat_of_zero_le r1
    have hm : m < S.length := by simpa using r2
    have ho := fun W (h : SchemaAt W A n c S) (h2 : BytesAt W B n' c' bs) => nForm hR 100000 (Nat.le_refl _) W A n c m B n' c' bs h hm h2 (by omega)
    have hO : formB (S.map MsgV.d) (m : Int) bs d = encV (S.map MsgV.d) 100000 m (ofV (S.map MsgV.d) 100000 m bs) := by unfold formB; rw [if_pos h0]; rfl
    rw [hO]
    generalize encV (S.map MsgV.d) 100000 m (ofV (S.map MsgV.d) 100000 m bs) = F at *
    have Ho := Lib.hid ho
    clear ho hO
    generalize checkB (S.map MsgV.d) (m : Int) bs d = V at *
    obtain ⟨p, C⟩ := V
    simp only at h0 Hc ⊢
    subst h0
    go_enter Try.func7, Try.ntmps7
    go_wp2_with (first
      | (go_at_call 17; refine (Hc.out _ (hs.up (by repeat with_reducible (first | exact Ext.refl _ | refine Ext.alloc ?_ _ | refine Ext.drew ?_ | refine Ext.drewN ?_ _ | refine Ext.setCell ?_ (by first | exact Nat.le_refl _ | omega | (simp; done) | (simp; omega)) _))) (hb.up (by repeat with_reducible (first | exact Ext.refl _ | refine Ext.alloc ?_ _ | refine Ext.drew ?_ | refine Ext.drewN ?_ _ | refine Ext.setCell ?_ (by first | exact Nat.le_refl _ | omega | (simp; done) | (simp; omega)) _)))).mono ?_; rintro e w1 ⟨rfl, E1'⟩; have E1 : Ext w w1 := Ext.trans (by repeat with_reducible (first | exact Ext.refl _ | refine Ext.alloc ?_ _ | refine Ext.drew ?_ | refine Ext.drewN ?_ _ | refine Ext.setCell ?_ (by first | exact Nat.le_refl _ | omega | (simp; done) | (simp; omega)) _)) E1')
      | (go_at_call 18; refine (Ho.out _ (hs.up (by repeat with_reducible (first | exact E1 | exact Ext.refl _ | refine Ext.alloc ?_ _ | refine Ext.drew ?_ | refine Ext.drewN ?_ _ | refine Ext.setCell ?_ (by first | exact Nat.le_refl _ | omega | (simp; done) | (simp; omega)) _))) (hb.up (by repeat with_reducible (first | exact E1 | exact Ext.refl _ | refine Ext.alloc ?_ _ | refine Ext.drew ?_ | refine Ext.drewN ?_ _ | refine Ext.setCell ?_ (by first | exact Nat.le_refl _ | omega | (simp; done) | (simp; omega)) _)))).mono ?_; rintro e w2 ⟨A2, c2, rfl, own2⟩; have own3 := own2.since (by repeat with_reducible (first | exact E1 | exact Ext.refl _ | refine Ext.alloc ?_ _ | refine Ext.drew ?_ | refine Ext.drewN ?_ _ | refine Ext.setCell ?_ (by first | exact Nat.le_refl _ | omega | (simp; done) | (simp; omega)) _))))
    go_ret2
    exact ⟨A2, c2, rfl, own3⟩
  · have hO : formB (S.map MsgV.d) root bs d = [] := if_neg h0
    rw [hO]
    generalize checkB (S.map MsgV.d) root bs d = V at *
    obtain ⟨p, C⟩ := V
    simp only at h0 Hc ⊢
    have h0' : ¬ ((C : Int) = 0) := by omega
    go_enter Try.func7, Try.ntmps7
    go_wp2_with (go_at_call 17; refine (Hc.out _ (hs.up (by repeat with_reducible (first | exact Ext.refl _ | refine Ext.alloc ?_ _ | refine Ext.drew ?_ | refine Ext.drewN ?_ _ | refine Ext.setCell ?_ (by first | exact Nat.le_refl _ | omega | (simp; done) | (simp; omega)) _))) (hb.up (by repeat with_reducible (first | exact Ext.refl _ | refine Ext.alloc ?_ _ | refine Ext.drew ?_ | refine Ext.drewN ?_ _ | refine Ext.setCell ?_ (by first | exact Nat.le_refl _ | omega | (simp; done) | (simp; omega)) _)))).mono ?_; rintro e w1 ⟨rfl, E1'⟩; have E1 : Ext w w1 := Ext.trans (by repeat with_reducible (first | exact Ext.refl _ | refine Ext.alloc ?_ _ | refine Ext.drew ?_ | refine Ext.drewN ?_ _ | refine Ext.setCell ?_ (by first | exact Nat.le_refl _ | omega | (simp; done) | (simp; omega)) _)) E1')
    go_ret2
    exact ⟨none, 0, rfl, Own.nil E1 _ _⟩

/-- The code of two messages. -/
def bothC (S : List MsgD) (root : Int) (a b : List UInt8) (d : Int) : Nat := if (checkB S root a d).2 = 0 then (checkB S root b d).2 else (checkB S root a d).2

theorem form_a : formB [⟨⟨#[109]⟩, [⟨⟨#[97]⟩, 1, 3, false, false, 0⟩]⟩] 0 [8, 129, 0, 8, 130, 0] 0 = [8, 2] ∧ (checkB [⟨⟨#[109]⟩, [⟨⟨#[97]⟩, 1, 3, false, false, 0⟩]⟩] 0 [8, 129, 0, 8, 130, 0] 0).2 = 0 := by
  constructor
  · kernel_rfl
  · decide +kernel

theorem alive18 (w : World) : Calls Try.prog 5 #[] w fun e w' => e = .returned (.bool true) ∧ Ext w w' := by
  have hs := schema_lit (w := w) (nm := ⟨#[109]⟩) (f := ⟨⟨#[97]⟩, 1, 3, false, false, 0⟩) (by constructor <;> decide) (by decide)
  obtain ⟨v1, v2⟩ := form_a
  have h1 := fun (W : World) (A : Option Addr) (n c : Nat) (A' : Option Addr) (n' c' : Nat) (h : SchemaAt W A n c [⟨⟨⟨#[109]⟩, [⟨⟨#[97]⟩, 1, 3, false, false, 0⟩]⟩, A', n', c'⟩]) (B : Option Addr) (ha : BytesAt W B 6 6 [8, 129, 0, 8, 130, 0]) => nFormB (root := 0) (d := 0) h ha (by omega)
  simp only [List.map_cons, List.map_nil, v1, v2] at h1
  have Hs := Lib.hid hs
  have H1 := Lib.hid h1
  clear hs h1 v1 v2
  go_enter Try.func5, Try.ntmps5
  go_wp2_with fail
  refine (H1.out _ _ _ _ _ _ _ (Hs.out.up (by repeat with_reducible (first | exact Ext.refl _ | refine Ext.alloc ?_ _ | refine Ext.drew ?_ | refine Ext.drewN ?_ _ | refine Ext.setCell ?_ (by first | exact Nat.le_refl _ | omega | (simp; done) | (simp; omega)) _))) _ (bytes_lit _ _ _ [8, 129, 0, 8, 130, 0] 6 (by simp) (by simp [bv]) rfl (by simp [maxLen]))).mono ?_
  rintro e w1 ⟨A1, c1, rfl, own1⟩
  have X1 : Ext w w1 := Ext.trans (by repeat with_reducible (first | exact Ext.refl _ | refine Ext.alloc ?_ _ | refine Ext.drew ?_ | refine Ext.drewN ?_ _ | refine Ext.setCell ?_ (by first | exact Nat.le_refl _ | omega | (simp; done) | (simp; omega)) _)) own1.ext
  go_wp2_with fail
  refine (same (xs := [8, 2]) (ys := [8, 2]) (own1.up (by repeat with_reducible (first | exact Ext.refl _ | refine Ext.alloc ?_ _ | refine Ext.drew ?_ | refine Ext.drewN ?_ _ | refine Ext.setCell ?_ (by first | exact Nat.le_refl _ | omega | (simp; done) | (simp; omega)) _))).bytes (bytes_lit _ _ _ [8, 2] 2 (by simp) (by simp [bv]) rfl (by simp [maxLen]))).mono ?_
  rintro e w3 ⟨rfl, rfl⟩
  go_wp2
  go_ret
  exact ⟨by simp, X1.trans (by repeat with_reducible (first | exact Ext.refl _ | refine Ext.alloc ?_ _ | refine Ext.drew ?_ | refine Ext.drewN ?_ _ | refine Ext.setCell ?_ (by first | exact Nat.le_refl _ | omega | (simp; done) | (simp; omega)) _))⟩

end Go.Proofs.Ytcbpbpeogfbpiaa
