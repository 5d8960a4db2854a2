/- Contracts of layer 10: what is left without unknown records. -/
import Derived.Test.YtlmmlmmadgcmcaaW10f
import Derived.Test.YtlmmlmmadgcmcaaS5c
namespace Go.Proofs.Ytlmmlmmadgcmcaa
open Go.RowKit Go.Shelf
set_option linter.unusedVariables false

theorem viewsV_each (l : List FieldD) (bs : List UInt8) : ∀ v ∈ (viewsV l bs).1, nextV bs v.r.f = (v.r, 0) ∧ seenV l v.r = (v, 0) :=
  scan_all (lookV_onward l bs) (fun p x hp h => by
    have h2 := lookV_of h
    refine ⟨?_, h2.2⟩
    rw [(nextV_ok h2.1).2.1]
    exact h2.1) bs.length 0 (by omega)

/-- The bytes of the views that are so. -/
def keptB (bs : List UInt8) (q : ViewD → Bool) (L : List ViewD) : List UInt8 := (L.filter q).flatMap fun v => spanB bs v.r.f v.r.t

def knownP (v : ViewD) : Bool := v.field != -1

theorem keptB_snoc {bs : List UInt8} {q : ViewD → Bool} {L : List ViewD} {k : Nat} {v : ViewD} (h : L[k]? = some v) : keptB bs q (L.take (k + 1)) = keptB bs q (L.take k) ++ (if q v = true then spanB bs v.r.f v.r.t else []) := by
  unfold keptB
  rw [take_filter h, List.flatMap_append]
  congr 1
  split <;> simp

theorem keptB_le (bs : List UInt8) (q : ViewD → Bool) : ∀ L : List ViewD, (keptB bs q L).length ≤ L.length * bs.length
  | [] => by simp [keptB]
  | v :: L => by
    have ih := keptB_le bs q L
    unfold keptB at ih ⊢
    rw [List.length_cons, Nat.succ_mul]
    by_cases hq : q v = true
    · rw [List.filter_cons_of_pos hq, List.flatMap_cons, List.length_append]
      have : (spanB bs v.r.f v.r.t).length ≤ bs.length := by unfold spanB; rw [List.length_drop, List.length_take]; omega
      omega
    · rw [List.filter_cons_of_neg hq]
      omega

theorem spanB_at10 {w : World} {A : Option Addr} {n c : Nat} {bs : List UInt8} (hb : BytesAt w A n c bs) {l m : Nat} (hl : l ≤ m) (hm : m ≤ n) :
    ∃ A', (∀ W : World, (Instr.slice 43 (.slice A n c) (some (.int .i64 (l : Int))) (some (.int .i64 (m : Int))) none).run Try.prog W = .ok (.slice A' (m - l) (c - l)) W) ∧ BytesAt w A' (m - l) (c - l) (spanB bs l m) := by
  obtain ⟨A', h1, h2⟩ := cut_both elemB hb .i64 .i64 hl hm
  exact ⟨A', h1, by simpa [BytesAt, spanB, List.map_drop, List.map_take] using h2⟩

set_option maxHeartbeats 1000000 in
theorem vDrop {s : ByteArray} {A B : Option Addr} {n c m d : Nat} {fs : List FieldD} {bs : List UInt8} {w : World} {L : List ViewD} {P C : Nat}
    (hf : FieldsAt w A n c fs) (hn : n ≤ 1000000000000) (hb : BytesAt w B m d bs) (hm : m ≤ 100000) (h : viewsV fs bs = (L, P, C)) :
    Calls Try.prog 46 #[.agg #[.string s, .slice A n c], .slice B m d] w fun e w' => ∃ A' c', e = .returned (.tuple #[.slice A' (keptB bs knownP L).length c', .int .u8 (C : Int)]) ∧ Own w w' 5 1 A' (keptB bs knownP L).length c' ((keptB bs knownP L).map bv) := by
  have hLm : L.length ≤ m := by have := (viewsV_bd fs bs).2.1; rw [h, hb.length] at this; exact this
  have heach := viewsV_each fs bs
  rw [h] at heach
  have Heach := Lib.hid heach
  have Hv := Lib.hid h
  clear h heach
  go_enter Try.func46, Try.ntmps46
  go_wp2_with (go_at_call 27; refine (vAllV (hf.up (by repeat with_reducible (first | exact Ext.refl _ | refine Ext.alloc ?_ _ | refine Ext.drew ?_ | refine Ext.drewN ?_ _ | refine Ext.setCell ?_ (by first | exact Nat.le_refl _ | omega | (simp; done) | (simp; omega)) _))) hn (hb.up (by repeat with_reducible (first | exact Ext.refl _ | refine Ext.alloc ?_ _ | refine Ext.drew ?_ | refine Ext.drewN ?_ _ | refine Ext.setCell ?_ (by first | exact Nat.le_refl _ | omega | (simp; done) | (simp; omega)) _))) (by omega) Hv.out).mono ?_; rintro e w1 ⟨A1, c1, rfl, own1⟩; have X_ : Ext w w1 := Ext.trans (by repeat with_reducible (first | exact Ext.refl _ | refine Ext.alloc ?_ _ | refine Ext.drew ?_ | refine Ext.drewN ?_ _ | refine Ext.setCell ?_ (by first | exact Nat.le_refl _ | omega | (simp; done) | (simp; omega)) _)) own1.ext; have hE := X_; clear X_)
  go_loopw [9, 21] (fun u i wr => ∃ (k : Nat) (A2 : Option Addr) (c2 : Nat), k ≤ L.length ∧ i = .int .i64 k ∧ u = .slice A2 (keptB bs knownP (L.take k)).length c2 ∧ Own w1 wr 5 1 A2 (keptB bs knownP (L.take k)).length c2 ((keptB bs knownP (L.take k)).map bv)) (fun _ i _ => L.length - (intOf i).toNat)
  case atStart => exact ⟨0, none, 0, Nat.zero_le _, rfl, rfl, Own.nil (Ext.refl _) 5 1⟩
  case round =>
    obtain ⟨k, A2, c2, hk, rfl, rfl, own⟩ := hrel
    by_cases hlt : k < L.length
    · have hlt2 : (k : Int) < L.length := by omega
      have hEw := hE.trans own.ext
      obtain ⟨b, off, v, rfl, hv, hb1, c0, c1', c2', c3, c4, c5, c6⟩ := (own1.up own.ext).reads.view' hlt
      have hev := Heach.out v (List.mem_of_getElem? hv)
      have hnx := nextV_ok hev.1
      have hsn := keptB_snoc (bs := bs) (q := knownP) hv
      have hle := keptB_le bs knownP (L.take k)
      rw [hb.length] at hnx hle
      have hle2 : (keptB bs knownP (L.take k)).length ≤ 10000000000 := by
        have h1 : (L.take k).length ≤ 100000 := by rw [List.length_take]; omega
        have := Nat.mul_le_mul h1 hm
        omega
      have hft : v.r.f ≤ v.r.t := by omega
      have htm : v.r.t ≤ m := by omega
      obtain ⟨A5, hcut, hb5⟩ := spanB_at10 hb hft htm
      have hsl := hb5.length
      obtain ⟨⟨vn, vw, vf, va, vt⟩, vfi, vr⟩ := v
      simp only at c0 c1' c2' c3 c4 c5 c6 hft htm hsl
      have Hsn := Lib.hid hsn
      have Hsl := Lib.hid hsl
      clear hev hnx hv hsn hle hsl
      generalize hG : keptB bs knownP (L.take k) = G at *
      have HG := Lib.hid hG
      clear hG
      by_cases hk1 : vfi = -1
      · have q1 : (vfi != -1) = false := by rw [hk1]; rfl
        have hk2 : knownP ⟨⟨vn, vw, vf, va, vt⟩, vfi, vr⟩ = false := q1
        clear hk1
        go_wp2
        go_roundw
        case rel =>
          refine ⟨k + 1, A2, c2, by omega, by go_num, ?_, ?_⟩
          · rw [Hsn.out, hk2]; simp
          · rw [Hsn.out, hk2]; simpa using own.up (by repeat with_reducible (first | exact Ext.refl _ | refine Ext.alloc ?_ _ | refine Ext.drew ?_ | refine Ext.drewN ?_ _ | refine Ext.setCell ?_ (by first | exact Nat.le_refl _ | omega | (simp; done) | (simp; omega)) _))
        case measure => simp [intOf]; omega
      · have q1 : (vfi != -1) = true := by rw [bne_iff_ne]; exact hk1
        have hk2 : knownP ⟨⟨vn, vw, vf, va, vt⟩, vfi, vr⟩ = true := q1
        have hfi : (vf : Int) ≤ vt := by omega
        have hti : (vt : Int) ≤ m := by omega
        clear hk1
        go_wp2_with (at_builtin; refine wpList_more elemB rfl (.tmp 28) (.tmp 36) rfl rfl (own.up (by repeat with_reducible (first | exact Ext.refl _ | refine Ext.alloc ?_ _ | refine Ext.drew ?_ | refine Ext.drewN ?_ _ | refine Ext.setCell ?_ (by first | exact Nat.le_refl _ | omega | (simp; done) | (simp; omega)) _))) rfl (hb5.up (hEw.trans (by repeat with_reducible (first | exact Ext.refl _ | refine Ext.alloc ?_ _ | refine Ext.drew ?_ | refine Ext.drewN ?_ _ | refine Ext.setCell ?_ (by first | exact Nat.le_refl _ | omega | (simp; done) | (simp; omega)) _)))) (bv_one _) (by omega) (by unfold maxLen; omega) ?_; intro A4 c4 w4 own4 _)
        go_roundw
        case rel =>
          refine ⟨k + 1, A4, c4, by omega, by go_num, ?_, ?_⟩
          · rw [Hsn.out, hk2]; simp [Hsl.out]
          · rw [Hsn.out, hk2]; simpa [Hsl.out] using own4
        case measure => simp [intOf]; omega
    · have hkl : k = L.length := by omega
      subst hkl
      rw [List.take_length] at own ⊢
      go_wp2
      go_ret2
      exact ⟨A2, c2, rfl, own.since hE⟩

end Go.Proofs.Ytlmmlmmadgcmcaa
