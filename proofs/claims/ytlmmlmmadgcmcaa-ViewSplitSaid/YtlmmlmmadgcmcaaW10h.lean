/- Contracts of layer 10: unknown records. -/
import Derived.Test.YtlmmlmmadgcmcaaW10g
import Derived.Test.YtlmmlmmadgcmcaaW5e
import Derived.Test.YtlmmlmmadgcmcaaLib5
namespace Go.Proofs.Ytlmmlmmadgcmcaa
open Go.RowKit Go.Shelf
set_option linter.unusedVariables false

theorem elemBB : Elem Try.prog 91 43 1 24 := Elem.mk' (z := .slice none 0 0) Try.underlying91 (by kernel_rfl) rfl (by omega)

def unkP (v : ViewD) : Bool := v.field == -1

/-- The bytes of each unknown record. -/
def unkB (bs : List UInt8) (L : List ViewD) : List (List UInt8) := (L.filter unkP).map fun v => spanB bs v.r.f v.r.t

set_option maxHeartbeats 1000000 in
theorem vUnknown {s : ByteArray} {A B : Option Addr} {n c m d : Nat} {fs : List FieldD} {bs : List UInt8} {w : World} {L : List ViewD} {P C : Nat}
    (hf : FieldsAt w A n c fs) (hn : n ≤ 1000000000000) (hb : BytesAt w B m d bs) (hm : m ≤ 100000) (h : viewsV fs bs = (L, P, C)) :
    Calls Try.prog 47 #[.agg #[.string s, .slice A n c], .slice B m d] w fun e w' => ∃ A' c' vs, e = .returned (.slice A' (unkB bs L).length c') ∧ Own w w' 43 1 A' (unkB bs L).length c' vs ∧ Rows w w' 5 vs (unkB bs L) := by
  have eg : ∀ args w, (callFunc 90 args).run Try.prog w = .ok (.enter 90 args) w := enters_of Try.func90 (by kernel_rfl) rfl
  have hLm : L.length ≤ m := by have := (viewsV_bd fs bs).2.1; rw [h, hb.length] at this; exact this
  have heach := viewsV_each fs bs
  rw [h] at heach
  simp only at heach
  have Hv := Lib.hid h
  obtain ⟨U, hU⟩ : ∃ U, U = L.filter unkP := ⟨_, rfl⟩
  have hUm : U.length ≤ m := by rw [hU]; exact Nat.le_trans (List.length_filter_le _ _) hLm
  have hUe : ∀ v ∈ U, nextV bs v.r.f = (v.r, 0) := fun v hv => (heach v (by rw [hU] at hv; exact (List.mem_filter.1 hv).1)).1
  have HU := Lib.hid hU
  have HUe := Lib.hid hUe
  have huB : unkB bs L = U.map fun v => spanB bs v.r.f v.r.t := by unfold unkB; rw [hU]
  rw [huB]
  clear h heach hU hUe huB
  go_enter Try.func47, Try.ntmps47
  go_wp2_with fail
  have hE0 : Ext w (w.alloc (.cells #[.string s, .slice A n c] 37)) := (by repeat with_reducible (first | exact Ext.refl _ | refine Ext.alloc ?_ _ | refine Ext.drew ?_ | refine Ext.drewN ?_ _ | refine Ext.setCell ?_ (by first | exact Nat.le_refl _ | omega | (simp; done) | (simp; omega)) _))
  refine (vThose (q := unkP) (lb := #[]) eg (hf.up hE0) hn (hb.up hE0) (by omega) Hv.out (fun W v _ => vUnk1)).mono ?_
  rintro e w1 ⟨A1, c1, rfl, own1⟩
  rw [← HU.out] at own1 ⊢
  have hE := hE0.trans own1.ext
  go_wp2_with fail
  go_loopw [5, 12] (fun u i wr => ∃ (k : Nat) (A2 : Option Addr) (c2 : Nat) (vs : List Value), k ≤ U.length ∧ i = .int .i64 k ∧ u = .slice A2 k c2 ∧ Own w1 wr 43 1 A2 k c2 vs ∧ Rows w1 wr 5 vs ((U.take k).map fun v => spanB bs v.r.f v.r.t)) (fun _ i _ => U.length - (intOf i).toNat)
  case atStart => exact ⟨0, none, 0, [], Nat.zero_le _, rfl, rfl, Own.nil (Ext.refl _) 43 1, Rows.nil _ _ _⟩
  case round =>
    obtain ⟨k, A2, c2, vs, hk, rfl, rfl, own, hrows⟩ := hrel
    by_cases hlt : k < U.length
    · have hlt2 : (k : Int) < U.length := by omega
      have hEw := hE.trans own.ext
      have hEo := own.ext
      obtain ⟨b, off, v, rfl, hv, hb1, c0, c1', c2', c3, c4, c5, c6⟩ := (own1.up own.ext).reads.view' hlt
      have hnx := nextV_ok (HUe.out v (List.mem_of_getElem? hv))
      rw [hb.length] at hnx
      have htk := take_snoc U k v hv
      have hft : v.r.f ≤ v.r.t := by omega
      have htm : v.r.t ≤ m := by omega
      have hsl := spanB_length bs (a := v.r.f) (t := v.r.t) (by rw [hb.length]; exact htm)
      obtain ⟨⟨vn, vw, vf, va, vt⟩, vfi, vr⟩ := v
      simp only at c0 c1' c2' c3 c4 c5 c6 hft htm hsl
      have hwh := fun (W : World) (h : BytesAt W B m d bs) => rWhole (r := ⟨vn, vw, vf, va, vt⟩) h (by omega) hft htm
      unfold recV at hwh
      have Hwh := Lib.hid hwh
      have Htk := Lib.hid htk
      have Hsl := Lib.hid hsl
      clear hnx hv htk hsl hwh
      go_wp2_with (first
        | (go_at_call 91; refine (Hwh.out _ (hb.up (hEw.trans (by repeat with_reducible (first | exact Ext.refl _ | refine Ext.alloc ?_ _ | refine Ext.drew ?_ | refine Ext.drewN ?_ _ | refine Ext.setCell ?_ (by first | exact Nat.le_refl _ | omega | (simp; done) | (simp; omega)) _))))).mono ?_; rintro e w3 ⟨A3, c3', rfl, own3⟩; have X_ : Ext wr w3 := Ext.trans (by repeat with_reducible (first | exact Ext.refl _ | refine Ext.alloc ?_ _ | refine Ext.drew ?_ | refine Ext.drewN ?_ _ | refine Ext.setCell ?_ (by first | exact Nat.le_refl _ | omega | (simp; done) | (simp; omega)) _)) own3.ext; replace own := own.up X_; have X3 := X_; clear X_; have hr3 := (hrows.up X3).snoc Hsl.out (own3.since (hEo.trans (by repeat with_reducible (first | exact Ext.refl _ | refine Ext.alloc ?_ _ | refine Ext.drew ?_ | refine Ext.drewN ?_ _ | refine Ext.setCell ?_ (by first | exact Nat.le_refl _ | omega | (simp; done) | (simp; omega)) _)))))
        | (at_builtin; refine wpList_one elemBB rfl (.tmp 16) (.tmp 21) rfl rfl own rfl (by first | rfl | simp) rfl (by omega) (by unfold maxLen; omega) ?_; intro A4 c4 w4 own4 g4; have hr4 := hr3.beside own (by decide) (Ext.alloc (Ext.refl _) _) g4 own4.ext))
      go_roundw
      case rel =>
        refine ⟨k + 1, A4, c4, _, by omega, by go_num, rfl, own4, ?_⟩
        rw [Htk.out, List.map_append]
        exact hr4
      case measure => simp [intOf]; omega
    · have hkl : k = U.length := by omega
      subst hkl
      rw [List.take_length] at hrows
      have hul : (U.map fun v => spanB bs v.r.f v.r.t).length = U.length := by simp
      go_wp2
      go_ret
      refine ⟨A2, c2, vs, ret_slice hul.symm, ?_, ?_⟩
      · rw [hul]; exact own.since hE
      · exact ⟨hrows.len, fun i r hr => by
          obtain ⟨A', n', c', h1, h2, h3⟩ := hrows.row i r hr
          exact ⟨A', n', c', h1, h2, h3.since hE⟩⟩

end Go.Proofs.Ytlmmlmmadgcmcaa
