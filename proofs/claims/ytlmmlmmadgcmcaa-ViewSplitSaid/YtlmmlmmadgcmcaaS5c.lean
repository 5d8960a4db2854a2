/- Plain laws of layer 5: a record put alone; records lie without a gap. -/
import Derived.Test.YtlmmlmmadgcmcaaS5b
import Derived.Test.YtlmmlmmadgcmcaaW5d
namespace Go.Proofs.Ytlmmlmmadgcmcaa
open Go.RowKit Go.Lib
set_option linter.unusedVariables false

theorem tagV_putB {T V : Nat} (h : rightB (T : Int) (V : Int) = true) (more : List UInt8) : tagV (tagB (T : Int) (V : Int) ++ more) = (T, V, (tagB (T : Int) (V : Int)).length, 0) := by
  obtain ⟨h1, h2, h3, h4⟩ := right_bd h
  have e : (8 * (T : Int) + (V : Int)).toNat = 8 * T + V := by omega
  have hv : readV (tagB (T : Int) (V : Int) ++ more) = (8 * T + V, (tagB (T : Int) (V : Int)).length, 0) := by
    unfold tagB; rw [e]; exact readV_uvarint _ _ (by omega)
  have e1 : (8 * T + V) / 8 = T := by omega
  have e2 : (8 * T + V) % 8 = V := by omega
  have := tagV_of hv (by rw [e1, e2]; exact h)
  rwa [e1, e2] at this

/-- One behind the other, from p to q. -/
def Linked : Nat → List Rec → Nat → Prop
  | p, [], q => p = q
  | p, r :: l, q => r.f = p ∧ Linked r.t l q

theorem scan_linked (bs : List UInt8) : ∀ (m p : Nat), bs.length - p ≤ m → p ≤ bs.length → (scan (nextV bs) Rec.t bs.length p).2.2 = 0 → Linked p (scan (nextV bs) Rec.t bs.length p).1 bs.length := by
  intro m
  induction m with
  | zero =>
    intro p hm hp h0
    rw [scan_end (by omega)]
    show p = bs.length
    omega
  | succ m ih =>
    intro p hm hp h0
    by_cases he : p = bs.length
    · rw [scan_end (by omega)]; exact he
    · rcases hs : nextV bs p with ⟨r, C⟩
      have hlt : p < bs.length := by omega
      by_cases hC : C = 0
      · subst hC
        have h1 := nextV_ok hs
        have hok := scan_ok (nextV_onward bs) hlt hs
        rw [hok] at h0 ⊢
        unfold pre at h0 ⊢
        by_cases h : (scan (nextV bs) Rec.t bs.length r.t).2.2 = 0
        · rw [if_pos h]
          exact ⟨h1.2.1, ih r.t (by omega) (by omega) h⟩
        · rw [if_neg h] at h0
          exact absurd h0 h
      · rw [scan_fail hlt hs hC] at h0
        exact absurd h0 hC

/-- What each record of a whole split is. -/
theorem splitV_each (bs : List UInt8) : ∀ r ∈ (splitV bs).1, nextV bs r.f = (r, 0) :=
  scan_all (nextV_onward bs) (fun p x hp h => by rw [(nextV_ok h).2.1]; exact h) bs.length 0 (by omega)

/-- The bytes between two places. -/
def spanB (bs : List UInt8) (a t : Nat) : List UInt8 := (bs.take t).drop a

theorem spanB_length (bs : List UInt8) {a t : Nat} (h : t ≤ bs.length) : (spanB bs a t).length = t - a := by unfold spanB; rw [List.length_drop, List.length_take]; omega

theorem spanB_drop (bs : List UInt8) (p k g : Nat) : spanB bs (p + k) (p + k + g) = ((bs.drop p).drop k).take g := by
  unfold spanB
  rw [List.drop_drop, List.drop_take]
  congr 1
  omega

theorem splitV_one {c : List UInt8} {T V a : Nat} (h : headV c = (T, V, a, c.length, 0)) : splitV c = ([⟨T, V, 0, a, c.length⟩], 0, 0) := by
  have hb := headV_bd h
  have hn : nextV c 0 = (⟨T, V, 0, a, c.length⟩, 0) := by unfold nextV; rw [List.drop_zero, h]; simp [shiftR]
  unfold splitV
  rw [scan_ok (nextV_onward c) (by omega) hn, scan_end (Nat.le_refl _), pre_end]

/-- A record, put alone, is split to one of the same number, wire type and value, and has no more bytes. -/
theorem record_alone {bs : List UInt8} {p : Nat} {r : Rec} (h : nextV bs p = (r, 0)) (hl : bs.length ≤ 100000) :
    rightB (r.n : Int) (r.w : Int) = true ∧ fitsV (r.w : Int) (spanB bs r.a r.t) = true ∧ (putB (r.n : Int) (r.w : Int) (spanB bs r.a r.t)).length ≤ r.t - r.f ∧
      ∃ q, splitV (putB (r.n : Int) (r.w : Int) (spanB bs r.a r.t)) = ([⟨r.n, r.w, 0, q, (putB (r.n : Int) (r.w : Int) (spanB bs r.a r.t)).length⟩], 0, 0) ∧ q ≤ (putB (r.n : Int) (r.w : Int) (spanB bs r.a r.t)).length ∧
        spanB (putB (r.n : Int) (r.w : Int) (spanB bs r.a r.t)) q (putB (r.n : Int) (r.w : Int) (spanB bs r.a r.t)).length = spanB bs r.a r.t := by
  obtain ⟨h1, hf, h2, h3, h4⟩ := nextV_ok h
  rcases headV_cases (bs.drop p) with ⟨C, c1, c2, _⟩ | ⟨T, V, N, a, g, c1, c2, c3, c4, c5⟩
  · rw [c1] at h1; simp only [Prod.mk.injEq] at h1; exact absurd h1.2.2.2.2 c2
  · rw [c5] at h1
    simp only [Prod.mk.injEq, and_true] at h1
    obtain ⟨e1, e2, e3, e4⟩ := h1
    have ea : r.a = p + (N + a) := by omega
    have et : r.t = p + (N + a) + g := by omega
    rw [List.length_drop] at c3
    rw [← e1, ← e2, ea, et, hf]
    rw [spanB_drop, ← List.drop_drop]
    obtain ⟨W, w1, w2, w3, w4⟩ := tagV_inv c1
    have hmin := readV_minimal w1
    have htag : tagB (T : Int) (V : Int) = uvarint W := by unfold tagB; congr 1; omega
    generalize hD : (bs.drop p).drop N = D at *
    have hDl : D.length = bs.length - p - N := by rw [← hD, List.length_drop, List.length_drop]
    have hvl : ((D.drop a).take g).length = g := by rw [List.length_take, List.length_drop]; omega
    generalize hv : (D.drop a).take g = v at *
    have hw := w4
    unfold rightB at hw
    have hw := of_decide_eq_true hw
    -- the piece ahead of the value
    have key : ∃ a', (if (V : Int) = 2 then uvarint v.length else []).length = a' ∧ a' ≤ a ∧ fitsV (V : Int) v = true ∧ sizeV V ((if (V : Int) = 2 then uvarint v.length else []) ++ v) = (a', g, 0) := by
      unfold sizeV at c2
      rcases (show V = 0 ∨ V = 1 ∨ V = 5 ∨ V = 2 by omega) with rfl | rfl | rfl | rfl
      · rw [if_pos rfl] at c2
        simp only [Prod.mk.injEq] at c2
        obtain ⟨rfl, hg, hc⟩ := c2
        rcases hr : readV D with ⟨W', M, C'⟩
        rw [hr] at hg hc
        simp only at hg hc
        subst hg hc
        have ht := readV_take hr
        rw [List.drop_zero] at hv
        rw [hv] at ht
        refine ⟨0, by simp, Nat.le_refl _, ?_, ?_⟩
        · unfold fitsV; rw [ht]; simp [hvl]
        · simp; unfold sizeV; rw [if_pos rfl, ht]
      · rw [if_neg (by decide), if_pos rfl] at c2
        simp only [Prod.mk.injEq, and_true] at c2
        obtain ⟨rfl, rfl⟩ := c2
        refine ⟨0, by simp, Nat.le_refl _, ?_, ?_⟩
        · unfold fitsV; simp [hvl]
        · unfold sizeV; simp
      · rw [if_neg (by decide), if_neg (by decide), if_pos rfl] at c2
        simp only [Prod.mk.injEq, and_true] at c2
        obtain ⟨rfl, rfl⟩ := c2
        refine ⟨0, by simp, Nat.le_refl _, ?_, ?_⟩
        · unfold fitsV; simp [hvl]
        · unfold sizeV; simp
      · rw [if_neg (by decide), if_neg (by decide), if_neg (by decide)] at c2
        simp only [Prod.mk.injEq] at c2
        rcases hr : readV D with ⟨W', M, C'⟩
        rw [hr] at c2
        simp only at c2
        obtain ⟨rfl, rfl, rfl⟩ := c2
        have hm := readV_minimal hr
        refine ⟨(uvarint v.length).length, by simp, by rw [hvl]; exact hm, ?_, ?_⟩
        · unfold fitsV; simp
        · have hru := readV_uvarint v.length v (by omega)
          rw [hvl] at hru
          unfold sizeV
          simp [hru, hvl]
    obtain ⟨a', k1, k2, k3, k4⟩ := key
    have hput : putB (T : Int) (V : Int) v = tagB (T : Int) (V : Int) ++ ((if (V : Int) = 2 then uvarint v.length else []) ++ v) := rfl
    have hlen : (putB (T : Int) (V : Int) v).length = (tagB (T : Int) (V : Int)).length + a' + g := by rw [hput, List.length_append, List.length_append, k1, hvl]; omega
    have hhead : headV (putB (T : Int) (V : Int) v) = (T, V, (tagB (T : Int) (V : Int)).length + a', (putB (T : Int) (V : Int) v).length, 0) := by
      rw [hlen]
      refine headV_ok (by rw [hput]; exact tagV_putB w4 _) ?_ (by rw [hlen]; omega)
      rw [hput, List.drop_left]
      exact k4
    refine ⟨w4, k3, by rw [hlen, htag]; omega, (tagB (T : Int) (V : Int)).length + a', splitV_one hhead, by rw [hlen]; omega, ?_⟩
    unfold spanB
    rw [List.take_length, hput, ← List.drop_drop, List.drop_left, ← k1, List.drop_left]

end Go.Proofs.Ytlmmlmmadgcmcaa
