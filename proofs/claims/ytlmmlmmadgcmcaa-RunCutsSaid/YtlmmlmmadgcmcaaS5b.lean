/- Plain laws of layer 5: records of bytes behind others; a record put alone. No program is named. -/
import Derived.Test.YtlmmlmmadgcmcaaS5
namespace Go.Proofs.Ytlmmlmmadgcmcaa
open Go.RowKit Go.Lib
set_option linter.unusedVariables false

theorem Cont.append {bs : List UInt8} {k : Nat} (h : Cont bs k) (more : List UInt8) : Cont (bs ++ more) k := fun j hj => by
  obtain ⟨x, hx, hb⟩ := h j hj
  exact ⟨x, by rw [List.getElem?_append_left (List.getElem?_eq_some_iff.1 hx).1]; exact hx, hb⟩

theorem Cont.taken {bs : List UInt8} {k m : Nat} (h : Cont bs k) (hm : k ≤ m) : Cont (bs.take m) k := fun j hj => by
  obtain ⟨x, hx, hb⟩ := h j hj
  exact ⟨x, by rw [List.getElem?_take_of_lt (by omega)]; exact hx, hb⟩

/-- Bytes behind a varint play no part. -/
theorem readV_append {bs : List UInt8} {W N : Nat} (h : readV bs = (W, N, 0)) (more : List UInt8) : readV (bs ++ more) = (W, N, 0) := by
  rcases readV_cases bs with h1 | h1 | ⟨k, c, hC, hk, hc, h128, h9, h1⟩
  · rw [h1] at h; cases h
  · rw [h1] at h; cases h
  · have hlt := (List.getElem?_eq_some_iff.1 hc).1
    have h2 := readV_done (bs := bs ++ more) (hC.append more) hk (by rw [List.getElem?_append_left hlt]; exact hc) h128 h9
    rw [h2, ← h, h1, List.take_append_of_le_length (by omega)]

theorem readV_take {bs : List UInt8} {W N : Nat} (h : readV bs = (W, N, 0)) : readV (bs.take N) = (W, N, 0) := by
  rcases readV_cases bs with h1 | h1 | ⟨k, c, hC, hk, hc, h128, h9, h1⟩
  · rw [h1] at h; cases h
  · rw [h1] at h; cases h
  · rw [h1] at h
    simp only [Prod.mk.injEq, and_true] at h
    obtain ⟨rfl, rfl⟩ := h
    have h2 := readV_done (bs := bs.take (k + 1)) (hC.taken (by omega)) hk (by rw [List.getElem?_take_of_lt (by omega)]; exact hc) h128 h9
    rw [h2, List.take_take, Nat.min_self]

theorem uvarint_le : ∀ (k x : Nat), x < 128 ^ (k + 1) → (uvarint x).length ≤ k + 1
  | 0, x, h => by rw [uvarint_small (by simpa using h)]; simp
  | k + 1, x, h => by
    by_cases hx : x < 128
    · rw [uvarint_small hx]; simp
    · rw [uvarint_big (by omega), List.length_cons]
      have := uvarint_le k (x / 128) (by rw [Nat.div_lt_iff_lt_mul (by decide)]; rw [Nat.pow_succ] at h; exact h)
      omega

/-- A varint's word has no shorter bytes than its minimal ones. -/
theorem readV_minimal {bs : List UInt8} {W N : Nat} (h : readV bs = (W, N, 0)) : (uvarint W).length ≤ N := by
  rcases readV_cases bs with h1 | h1 | ⟨k, c, hC, hk, hc, h128, h9, h1⟩
  · rw [h1] at h; cases h
  · rw [h1] at h; cases h
  · rw [h1] at h
    simp only [Prod.mk.injEq, and_true] at h
    obtain ⟨rfl, rfl⟩ := h
    have hlt := (List.getElem?_eq_some_iff.1 hc).1
    have := wordV_lt (bs.take (k + 1))
    rw [List.length_take, Nat.min_eq_left (by omega)] at this
    exact uvarint_le k _ this

theorem tagV_inv {bs : List UInt8} {T V N : Nat} (h : tagV bs = (T, V, N, 0)) : ∃ W, readV bs = (W, N, 0) ∧ W / 8 = T ∧ W % 8 = V ∧ rightB (T : Int) (V : Int) = true := by
  rcases hv : readV bs with ⟨W, M, C⟩
  unfold tagV at h
  rw [hv] at h
  simp only at h
  by_cases hC : C = 0
  · subst hC
    rw [if_neg (by simp)] at h
    by_cases hr : rightB ((W / 8 : Nat) : Int) ((W % 8 : Nat) : Int) = true
    · rw [if_pos hr] at h
      simp only [Prod.mk.injEq, and_true] at h
      obtain ⟨rfl, rfl, rfl⟩ := h
      exact ⟨W, rfl, rfl, rfl, hr⟩
    · rw [if_neg hr] at h
      simp at h
  · rw [if_pos hC] at h
    simp only [Prod.mk.injEq] at h
    exact absurd h.2.2.2 hC

theorem tagV_of {bs : List UInt8} {W N : Nat} (h : readV bs = (W, N, 0)) (hr : rightB ((W / 8 : Nat) : Int) ((W % 8 : Nat) : Int) = true) : tagV bs = (W / 8, W % 8, N, 0) := by
  unfold tagV; rw [h]; simp only; rw [if_neg (by simp), if_pos hr]

theorem tagV_append {bs : List UInt8} {T V N : Nat} (h : tagV bs = (T, V, N, 0)) (more : List UInt8) : tagV (bs ++ more) = (T, V, N, 0) := by
  obtain ⟨W, hv, rfl, rfl, hr⟩ := tagV_inv h
  exact tagV_of (readV_append hv more) hr

theorem sizeV_append {V : Nat} {bs : List UInt8} {a g : Nat} (h : sizeV V bs = (a, g, 0)) (more : List UInt8) : sizeV V (bs ++ more) = (a, g, 0) := by
  have key : (readV bs).2.2 = 0 → readV (bs ++ more) = readV bs := by
    intro h0
    rcases hv : readV bs with ⟨W, N, C⟩
    rw [hv] at h0
    simp only at h0
    subst h0
    exact readV_append hv more
  unfold sizeV at h ⊢
  by_cases e0 : V = 0
  · rw [if_pos e0] at h ⊢
    rw [key (by simpa using congrArg (fun x => x.2.2) h)]
    exact h
  · rw [if_neg e0] at h ⊢
    by_cases e1 : V = 1
    · rw [if_pos e1] at h ⊢; exact h
    · rw [if_neg e1] at h ⊢
      by_cases e5 : V = 5
      · rw [if_pos e5] at h ⊢; exact h
      · rw [if_neg e5] at h ⊢
        rw [key (by simpa using congrArg (fun x => x.2.2) h)]
        exact h

/-- Bytes behind a record play no part. -/
theorem headV_append {bs : List UInt8} {T V a t : Nat} (h : headV bs = (T, V, a, t, 0)) (more : List UInt8) : headV (bs ++ more) = (T, V, a, t, 0) := by
  rcases headV_cases bs with ⟨C, h1, h2, _⟩ | ⟨T', V', N, a', g, h1, h2, h3, h4, h5⟩
  · rw [h1] at h; simp only [Prod.mk.injEq] at h; exact absurd h.2.2.2.2 h2
  · rw [h5] at h
    rw [← h]
    have hN : N ≤ bs.length := by omega
    exact headV_ok (tagV_append h1 more) (by rw [List.drop_append_of_le_length hN]; exact sizeV_append h2 more) (by rw [List.length_append]; omega)

def Rec.shift (k : Nat) (r : Rec) : Rec := ⟨r.n, r.w, r.f + k, r.a + k, r.t + k⟩

theorem nextV_left {a : List UInt8} {p : Nat} {r : Rec} (hp : p < a.length) (h : nextV a p = (r, 0)) (b : List UInt8) : nextV (a ++ b) p = (r, 0) := by
  obtain ⟨h1, hf, h2⟩ := nextV_ok h
  have h3 := headV_append h1 b
  rw [← List.drop_append_of_le_length (by omega)] at h3
  unfold nextV
  rw [h3]
  obtain ⟨rn, rw_, rf, ra, rt⟩ := r
  simp only at h2 hf
  simp [shiftR]
  omega

theorem nextV_right (a b : List UInt8) (q : Nat) : nextV (a ++ b) (a.length + q) = (if (nextV b q).2 = 0 then (nextV b q).1.shift a.length else Rec.zero, (nextV b q).2) := by
  unfold nextV
  have : (a ++ b).drop (a.length + q) = b.drop q := by rw [List.drop_append, List.drop_of_length_le (by omega)]; simp
  rw [this]
  unfold shiftR
  by_cases h : (headV (b.drop q)).2.2.2.2 = 0
  · simp only [if_pos h, if_true, Rec.shift]
    congr 2 <;> omega
  · simp only [if_neg h]

theorem scan_left (a b : List UInt8) : ∀ (m p : Nat), a.length - p ≤ m → p ≤ a.length → (scan (nextV a) Rec.t a.length p).2.2 = 0 →
    scan (nextV (a ++ b)) Rec.t (a ++ b).length p = pre (scan (nextV a) Rec.t a.length p).1 (scan (nextV (a ++ b)) Rec.t (a ++ b).length a.length) := by
  intro m
  induction m with
  | zero =>
    intro p hm hp h0
    obtain rfl : p = a.length := by omega
    rw [scan_end (step := nextV a) (Nat.le_refl _), pre_scan (nextV_onward _)]
  | succ m ih =>
    intro p hm hp h0
    by_cases he : p = a.length
    · subst he
      rw [scan_end (step := nextV a) (Nat.le_refl _), pre_scan (nextV_onward _)]
    · rcases hs : nextV a p with ⟨r, C⟩
      have hlt : p < a.length := by omega
      by_cases hC : C = 0
      · subst hC
        have h1 := nextV_onward a p hlt (by rw [hs])
        rw [hs] at h1
        simp only at h1
        have hok := scan_ok (nextV_onward a) hlt hs
        have hok2 := scan_ok (nextV_onward (a ++ b)) (p := p) (by rw [List.length_append]; omega) (nextV_left hlt hs b)
        rw [hok] at h0
        have h00 : (scan (nextV a) Rec.t a.length r.t).2.2 = 0 := by
          unfold pre at h0
          by_cases h : (scan (nextV a) Rec.t a.length r.t).2.2 = 0
          · exact h
          · rw [if_neg h] at h0; exact h0
        rw [hok, hok2, ih r.t (by omega) h1.2 h00, pre_pre]
        unfold pre
        rw [if_pos h00]
      · rw [scan_fail hlt hs hC] at h0
        exact absurd h0 hC

theorem scan_right (a b : List UInt8) : ∀ (m q : Nat), b.length - q ≤ m → q ≤ b.length →
    scan (nextV (a ++ b)) Rec.t (a ++ b).length (a.length + q) = ((scan (nextV b) Rec.t b.length q).1.map (Rec.shift a.length), (if (scan (nextV b) Rec.t b.length q).2.2 = 0 then 0 else a.length + (scan (nextV b) Rec.t b.length q).2.1), (scan (nextV b) Rec.t b.length q).2.2) := by
  intro m
  induction m with
  | zero =>
    intro q hm hq
    rw [scan_end (by rw [List.length_append]; omega), scan_end (by omega)]
    rfl
  | succ m ih =>
    intro q hm hq
    by_cases he : q = b.length
    · subst he
      rw [scan_end (by rw [List.length_append]; omega), scan_end (by omega)]
      rfl
    · rcases hs : nextV b q with ⟨r, C⟩
      have hlt : q < b.length := by omega
      have hr := nextV_right a b q
      rw [hs] at hr
      simp only at hr
      by_cases hC : C = 0
      · subst hC
        rw [if_pos rfl] at hr
        have h1 := nextV_onward b q hlt (by rw [hs])
        rw [hs] at h1
        simp only at h1
        have hok := scan_ok (nextV_onward b) hlt hs
        have hok2 := scan_ok (nextV_onward (a ++ b)) (p := a.length + q) (by rw [List.length_append]; omega) hr
        rw [hok, hok2]
        have := ih r.t (by omega) h1.2
        rw [show (r.shift a.length).t = a.length + r.t from by simp [Rec.shift]; omega, this]
        unfold pre
        by_cases h0 : (scan (nextV b) Rec.t b.length r.t).2.2 = 0
        · simp [h0]
        · simp [h0]
      · rw [scan_fail hlt hs hC, scan_fail (by rw [List.length_append]; omega) hr hC]
        simp [hC]

/-- Records of bytes behind other records are theirs, each so much further on. -/
theorem splitV_append {a b : List UInt8} (h : (splitV a).2.2 = 0) :
    splitV (a ++ b) = if (splitV b).2.2 = 0 then ((splitV a).1 ++ (splitV b).1.map (Rec.shift a.length), 0, 0) else ([], a.length + (splitV b).2.1, (splitV b).2.2) := by
  have hr := scan_right a b b.length 0 (by omega) (by omega)
  rw [Nat.add_zero] at hr
  unfold splitV at h ⊢
  rw [scan_left a b a.length 0 (by omega) (by omega) h, hr]
  unfold pre
  by_cases h0 : (scan (nextV b) Rec.t b.length 0).2.2 = 0
  · simp [h0]
  · simp [h0]

theorem splitV_all (bs : List UInt8) : ∀ r ∈ (splitV bs).1, r.f < r.a ∧ r.a ≤ r.t ∧ r.t ≤ bs.length :=
  scan_all (nextV_onward bs) (fun p x hp h => by have := nextV_ok h; omega) bs.length 0 (by omega)

end Go.Proofs.Ytlmmlmmadgcmcaa
