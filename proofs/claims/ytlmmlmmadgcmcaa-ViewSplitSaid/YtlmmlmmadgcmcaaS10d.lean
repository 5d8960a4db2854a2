/- Plain laws of layer 10: records behind others; known and unknown records together are all; with a field less. -/
import Derived.Test.YtlmmlmmadgcmcaaW10h
namespace Go.Proofs.Ytlmmlmmadgcmcaa
open Go.RowKit Go.Lib
set_option linter.unusedVariables false

section
variable {α : Type} {s1 s2 : Nat → α × Nat} {tt : α → Nat} {n m : Nat}

/-- What is read ahead of the end of the one is read there in the other. -/
theorem scan_leftG (hO1 : Onward s1 tt n) (hO2 : Onward s2 tt m) (hnm : n ≤ m) (hl : ∀ p x, p < n → s1 p = (x, 0) → s2 p = (x, 0)) : ∀ (k p : Nat), n - p ≤ k → p ≤ n → (scan s1 tt n p).2.2 = 0 →
    scan s2 tt m p = pre (scan s1 tt n p).1 (scan s2 tt m n) := by
  intro k
  induction k with
  | zero =>
    intro p hk hp h0
    obtain rfl : p = n := by omega
    rw [scan_end (step := s1) (Nat.le_refl _), pre_scan hO2]
  | succ k ih =>
    intro p hk hp h0
    by_cases he : p = n
    · subst he
      rw [scan_end (step := s1) (Nat.le_refl _), pre_scan hO2]
    · rcases hs : s1 p with ⟨r, C⟩
      have hlt : p < n := by omega
      by_cases hC : C = 0
      · subst hC
        have h1 := hO1 p hlt (by rw [hs])
        rw [hs] at h1
        simp only at h1
        have hok := scan_ok hO1 hlt hs
        have hok2 := scan_ok hO2 (p := p) (by omega) (hl p r hlt hs)
        rw [hok] at h0
        have h00 : (scan s1 tt n (tt r)).2.2 = 0 := by
          unfold pre at h0
          by_cases h : (scan s1 tt n (tt r)).2.2 = 0
          · exact h
          · rw [if_neg h] at h0; exact h0
        rw [hok, hok2, ih (tt r) (by omega) h1.2 h00, pre_pre]
        unfold pre
        rw [if_pos h00]
      · rw [scan_fail hlt hs hC] at h0
        exact absurd h0 hC

/-- What is read further on, each thing turned so. -/
theorem scan_rightG {sh : α → α} {k : Nat} (hO1 : Onward s1 tt n) (hO2 : Onward s2 tt (k + n)) (hto : ∀ p x, p < n → s1 p = (x, 0) → tt (sh x) = k + tt x) (hr : ∀ q, q < n → (s2 (k + q)).2 = (s1 q).2 ∧ ((s1 q).2 = 0 → (s2 (k + q)).1 = sh (s1 q).1)) : ∀ (j q : Nat), n - q ≤ j → q ≤ n →
    scan s2 tt (k + n) (k + q) = ((scan s1 tt n q).1.map sh, (if (scan s1 tt n q).2.2 = 0 then 0 else k + (scan s1 tt n q).2.1), (scan s1 tt n q).2.2) := by
  intro j
  induction j with
  | zero =>
    intro q hj hq
    rw [scan_end (by omega), scan_end (by omega)]
    rfl
  | succ j ih =>
    intro q hj hq
    by_cases he : q = n
    · subst he
      rw [scan_end (by omega), scan_end (by omega)]
      rfl
    · rcases hs : s1 q with ⟨r, C⟩
      have hlt : q < n := by omega
      obtain ⟨r1, r2⟩ := hr q hlt
      rw [hs] at r1 r2
      simp only at r1 r2
      by_cases hC : C = 0
      · subst hC
        have h1 := hO1 q hlt (by rw [hs])
        rw [hs] at h1
        simp only at h1
        have hs2 : s2 (k + q) = (sh r, 0) := by rw [← r2 rfl, ← r1]
        have hok := scan_ok hO1 hlt hs
        have hok2 := scan_ok hO2 (p := k + q) (by omega) hs2
        rw [hok, hok2]
        have := ih (tt r) (by omega) h1.2
        rw [hto q r hlt hs, this]
        unfold pre
        by_cases h0 : (scan s1 tt n (tt r)).2.2 = 0
        · simp [h0]
        · simp [h0]
      · have hs2 : s2 (k + q) = ((s2 (k + q)).1, C) := by rw [← r1]
        rw [scan_fail hlt hs hC, scan_fail (by omega) hs2 hC]
        simp [hC]

/-- Where nothing fails, each thing turned so. -/
theorem scan_turned {sh : α → α} (hO1 : Onward s1 tt n) (hO2 : Onward s2 tt n) (hto : ∀ p x, p < n → s1 p = (x, 0) → tt (sh x) = tt x) (hr : ∀ q x, q < n → s1 q = (x, 0) → s2 q = (sh x, 0)) : ∀ (j q : Nat), n - q ≤ j → (scan s1 tt n q).2.2 = 0 →
    scan s2 tt n q = ((scan s1 tt n q).1.map sh, 0, 0) := by
  intro j
  induction j with
  | zero =>
    intro q hj _
    rw [scan_end (by omega), scan_end (by omega)]
    rfl
  | succ j ih =>
    intro q hj h0
    by_cases he : n ≤ q
    · rw [scan_end (by omega), scan_end (by omega)]
      rfl
    · rcases hs : s1 q with ⟨r, C⟩
      have hlt : q < n := by omega
      by_cases hC : C = 0
      · subst hC
        have h1 := hO1 q hlt (by rw [hs])
        rw [hs] at h1
        simp only at h1
        have hok := scan_ok hO1 hlt hs
        have hok2 := scan_ok hO2 hlt (hr q r hlt hs)
        rw [hok] at h0
        have h00 : (scan s1 tt n (tt r)).2.2 = 0 := by
          unfold pre at h0
          by_cases h : (scan s1 tt n (tt r)).2.2 = 0
          · exact h
          · rw [if_neg h] at h0; exact h0
        rw [hok, hok2, hto q r hlt hs, ih (tt r) (by omega) h00]
        unfold pre
        rw [if_pos h00]
        simp
      · rw [scan_fail hlt hs hC] at h0
        exact absurd h0 hC
end

/-! Bytes ahead of a record's end alone play a part. -/

theorem readV_prefix {bs : List UInt8} {W N m : Nat} (h : readV bs = (W, N, 0)) (hm : N ≤ m) : readV (bs.take m) = (W, N, 0) := by
  have h1 := readV_append (readV_take h) ((bs.take m).drop N)
  have : bs.take N = (bs.take m).take N := by rw [List.take_take, Nat.min_eq_left hm]
  rwa [this, List.take_append_drop] at h1

theorem sizeV_prefix {V : Nat} {D : List UInt8} {a g m : Nat} (h : sizeV V D = (a, g, 0)) (hm : a + g ≤ m) : sizeV V (D.take m) = (a, g, 0) := by
  unfold sizeV at h ⊢
  by_cases h0 : V = 0
  · rw [if_pos h0] at h ⊢
    simp only [Prod.mk.injEq] at h
    obtain ⟨rfl, h2, h3⟩ := h
    rcases hr : readV D with ⟨W, N, C⟩
    rw [hr] at h2 h3
    simp only at h2 h3
    subst h2 h3
    rw [readV_prefix hr (by omega)]
  · rw [if_neg h0] at h ⊢
    by_cases h1 : V = 1
    · rw [if_pos h1] at h ⊢
      exact h
    · rw [if_neg h1] at h ⊢
      by_cases h5 : V = 5
      · rw [if_pos h5] at h ⊢
        exact h
      · rw [if_neg h5] at h ⊢
        rcases hr : readV D with ⟨W, N, C⟩
        rw [hr] at h
        simp only [Prod.mk.injEq] at h
        obtain ⟨h1, h2, h3⟩ := h
        subst h1 h2 h3
        rw [readV_prefix hr (by omega)]

theorem headV_prefix {bs : List UInt8} {T V a t m : Nat} (h : headV bs = (T, V, a, t, 0)) (hm : t ≤ m) : headV (bs.take m) = (T, V, a, t, 0) := by
  rcases headV_cases bs with ⟨C, h1, h2, _⟩ | ⟨T', V', N, a', g, h1, h2, h3, h4, h5⟩
  · rw [h1] at h; simp only [Prod.mk.injEq] at h; exact absurd h.2.2.2.2 h2
  · rw [h5] at h
    simp only [Prod.mk.injEq, and_true] at h
    obtain ⟨rfl, rfl, rfl, rfl⟩ := h
    obtain ⟨W, w1, w2, w3, w4⟩ := tagV_inv h1
    have ht : tagV (bs.take m) = (T', V', N, 0) := by
      have := tagV_of (readV_prefix w1 (m := m) (by omega)) (by rw [w2, w3]; exact w4)
      rwa [w2, w3] at this
    refine headV_ok ht ?_ (by rw [List.length_take]; omega)
    rw [List.drop_take]
    exact sizeV_prefix h2 (by omega)

/-! Views of bytes behind other bytes. -/

def ViewD.shift (k : Nat) (v : ViewD) : ViewD := ⟨v.r.shift k, v.field, v.run⟩

theorem seenV_shift {l : List FieldD} {r : Rec} (k : Nat) : (seenV l (r.shift k)).2 = (seenV l r).2 ∧ ((seenV l r).2 = 0 → (seenV l (r.shift k)).1 = (seenV l r).1.shift k) := by
  have hn : (r.shift k).n = r.n := rfl
  have hw : (r.shift k).w = r.w := rfl
  rcases idxB_cases (numP (r.n : Int)) l with ⟨h1, _⟩ | ⟨j, f, h1, h2, h3, _⟩
  · rw [seenV_none h1, seenV_none (r := r.shift k) (by rw [hn]; exact h1)]
    exact ⟨rfl, fun _ => rfl⟩
  · rw [seenV_some h1 h2, seenV_some (r := r.shift k) (by rw [hn]; exact h1) h2, hw]
    split
    · exact ⟨rfl, fun _ => rfl⟩
    · split
      · exact ⟨rfl, fun _ => rfl⟩
      · exact ⟨rfl, fun h => by simp at h⟩

theorem lookV_right (l : List FieldD) (a b : List UInt8) (q : Nat) : (lookV l (a ++ b) (a.length + q)).2 = (lookV l b q).2 ∧ ((lookV l b q).2 = 0 → (lookV l (a ++ b) (a.length + q)).1 = (lookV l b q).1.shift a.length) := by
  unfold lookV
  rw [nextV_right]
  simp only
  by_cases h : (nextV b q).2 = 0
  · rw [if_pos h, if_pos h, if_pos h]
    exact seenV_shift _
  · rw [if_neg h, if_neg h]
    exact ⟨rfl, fun h0 => absurd h0 h⟩

theorem lookV_left {l : List FieldD} {a : List UInt8} {p : Nat} {v : ViewD} (hp : p < a.length) (h : lookV l a p = (v, 0)) (b : List UInt8) : lookV l (a ++ b) p = (v, 0) := by
  obtain ⟨h1, h2⟩ := lookV_of h
  unfold lookV
  rw [nextV_left hp h1 b, if_pos rfl]
  exact h2

theorem viewsV_append {l : List FieldD} {a b : List UInt8} (h : (viewsV l a).2.2 = 0) :
    viewsV l (a ++ b) = if (viewsV l b).2.2 = 0 then ((viewsV l a).1 ++ (viewsV l b).1.map (ViewD.shift a.length), 0, 0) else ([], a.length + (viewsV l b).2.1, (viewsV l b).2.2) := by
  have hO := lookV_onward l (a ++ b)
  have hr := scan_rightG (sh := ViewD.shift a.length) (k := a.length) (lookV_onward l b) (by rw [← List.length_append]; exact hO) (fun p x _ _ => by unfold ViewD.to ViewD.shift Rec.shift; simp only; omega) (fun q _ => lookV_right l a b q) b.length 0 (by omega) (by omega)
  rw [Nat.add_zero, ← List.length_append] at hr
  unfold viewsV at h ⊢
  rw [scan_leftG (lookV_onward l a) hO (by rw [List.length_append]; omega) (fun p x hp h => lookV_left hp h b) a.length 0 (by omega) (by omega) h, hr]
  unfold pre
  by_cases h0 : (scan (lookV l b) ViewD.to b.length 0).2.2 = 0
  · simp [h0]
  · simp [h0]

theorem viewsV_nil (l : List FieldD) : viewsV l [] = ([], 0, 0) := scan_end (Nat.le_refl _)

/-- One record alone. -/
theorem viewsV_one {l : List FieldD} {c : List UInt8} {T V a : Nat} (h : headV c = (T, V, a, c.length, 0)) {v : ViewD} (hs : seenV l ⟨T, V, 0, a, c.length⟩ = (v, 0)) : viewsV l c = ([v], 0, 0) := by
  have hb := headV_bd h
  have hn : nextV c 0 = (⟨T, V, 0, a, c.length⟩, 0) := by unfold nextV; rw [List.drop_zero, h]; simp [shiftR]
  have hl : lookV l c 0 = (v, 0) := by unfold lookV; rw [hn, if_pos rfl]; exact hs
  have hv := seenV_of hs
  unfold viewsV
  rw [scan_ok (lookV_onward l c) (by omega) hl, show v.to = c.length by unfold ViewD.to; rw [hv], scan_end (Nat.le_refl _), pre_end]

/-- A record of bytes, cut out of them. -/
theorem span_head {bs : List UInt8} {r : Rec} (h : nextV bs r.f = (r, 0)) : headV (spanB bs r.f r.t) = (r.n, r.w, r.a - r.f, (spanB bs r.f r.t).length, 0) := by
  obtain ⟨h1, hf, h2, h3, h4⟩ := nextV_ok h
  have hl := spanB_length bs (a := r.f) (t := r.t) h4
  have := headV_prefix h1 (Nat.le_refl _)
  rw [← List.drop_take] at this
  rw [hl]
  exact this

/-- Records, cut out of bytes and put one behind the other, are seen as they were. -/
theorem viewsV_kept (l : List FieldD) (bs : List UInt8) : ∀ K : List ViewD, (∀ v ∈ K, nextV bs v.r.f = (v.r, 0) ∧ seenV l v.r = (v, 0)) →
    ∃ L, viewsV l (K.flatMap fun v => spanB bs v.r.f v.r.t) = (L, 0, 0) ∧ L.map (fun v => (v.field, v.run, v.r.n)) = K.map (fun v => (v.field, v.run, v.r.n))
  | [], _ => ⟨[], viewsV_nil l, rfl⟩
  | v :: K, h => by
    obtain ⟨L, h1, h2⟩ := viewsV_kept l bs K (fun u hu => h u (.tail _ hu))
    obtain ⟨g1, g2⟩ := h v (.head _)
    have hh := span_head g1
    obtain ⟨_, hf, n1, n2, n3⟩ := nextV_ok g1
    have hl := spanB_length bs (a := v.r.f) (t := v.r.t) n3
    have hsh := seenV_shift (l := l) (r := ⟨v.r.n, v.r.w, 0, v.r.a - v.r.f, (spanB bs v.r.f v.r.t).length⟩) v.r.f
    have hr : (Rec.shift v.r.f ⟨v.r.n, v.r.w, 0, v.r.a - v.r.f, (spanB bs v.r.f v.r.t).length⟩) = v.r := by
      rw [hl]
      obtain ⟨⟨a1, a2, a3, a4, a5⟩, _, _⟩ := v
      simp only at n1 n2
      simp [Rec.shift]
      omega
    rw [hr, g2] at hsh
    simp only at hsh
    obtain ⟨u, hu⟩ : ∃ u, seenV l ⟨v.r.n, v.r.w, 0, v.r.a - v.r.f, (spanB bs v.r.f v.r.t).length⟩ = (u, 0) := ⟨_, Prod.ext rfl hsh.1.symm⟩
    rw [hu] at hsh
    have hone := viewsV_one hh hu
    have hv2 : v = u.shift v.r.f := hsh.2 rfl
    refine ⟨u :: L.map (ViewD.shift (spanB bs v.r.f v.r.t).length), ?_, ?_⟩
    · rw [List.flatMap_cons, viewsV_append (by rw [hone]), hone, h1]
      simp
    · rw [List.map_cons, List.map_cons, ← h2, List.map_map]
      congr 1
      rw [hv2]
      rfl

/-- One behind the other. -/
def LinkV : Nat → List ViewD → Nat → Prop
  | p, [], q => p = q
  | p, v :: L, q => v.r.f = p ∧ v.r.f ≤ v.r.t ∧ LinkV v.r.t L q

theorem LinkV.le : ∀ {L : List ViewD} {p q : Nat}, LinkV p L q → p ≤ q
  | [], _, _, h => Nat.le_of_eq h
  | v :: L, p, q, h => by have := LinkV.le h.2.2; have := h.1; have := h.2.1; omega

theorem viewsV_link (l : List FieldD) (bs : List UInt8) : ∀ (m p : Nat), bs.length - p ≤ m → p ≤ bs.length → (scan (lookV l bs) ViewD.to bs.length p).2.2 = 0 → LinkV p (scan (lookV l bs) ViewD.to bs.length p).1 bs.length := by
  intro m
  induction m with
  | zero =>
    intro p hm hp h0
    rw [scan_end (by omega)]
    show p = bs.length
    omega
  | succ m ih =>
    intro p hm hp h0
    by_cases he : p = bs.length
    · rw [scan_end (by omega)]
      exact he
    · rcases hs : lookV l bs p with ⟨v, C⟩
      have hlt : p < bs.length := by omega
      by_cases hC : C = 0
      · subst hC
        have h1 := lookV_onward l bs p hlt (by rw [hs])
        rw [hs] at h1
        simp only at h1
        have hn := nextV_ok (lookV_of hs).1
        have hok := scan_ok (lookV_onward l bs) hlt hs
        rw [hok] at h0 ⊢
        have h00 : (scan (lookV l bs) ViewD.to bs.length v.to).2.2 = 0 := by
          unfold pre at h0
          by_cases h : (scan (lookV l bs) ViewD.to bs.length v.to).2.2 = 0
          · exact h
          · rw [if_neg h] at h0; exact h0
        have := ih v.to (by omega) h1.2 h00
        unfold pre
        rw [if_pos h00]
        exact ⟨hn.2.1, by omega, this⟩
      · rw [scan_fail hlt hs hC] at h0
        exact absurd h0 hC

/-- The lengths of all. -/
def lens (l : List (List UInt8)) : Nat := (l.map List.length).sum

theorem lens_snoc {l : List (List UInt8)} {k : Nat} {x : List UInt8} (h : l[k]? = some x) : lens (l.take (k + 1)) = lens (l.take k) + x.length := by
  unfold lens
  rw [take_snoc l k x h, List.map_append, List.sum_append]
  simp

theorem parts_sum (bs : List UInt8) : ∀ (L : List ViewD) (p q : Nat), LinkV p L q → q ≤ bs.length → (keptB bs knownP L).length + lens (unkB bs L) = q - p
  | [], p, q, h, _ => by have : p = q := h; subst this; simp [keptB, unkB, lens]
  | v :: L, p, q, h, hq => by
    obtain ⟨h1, h2, h3⟩ := h
    have ih := parts_sum bs L v.r.t q h3 hq
    have hle := LinkV.le h3
    have hl := spanB_length bs (a := v.r.f) (t := v.r.t) (by omega)
    by_cases hk : knownP v = true
    · have hu : unkP v = false := by unfold knownP at hk; unfold unkP; simpa using hk
      have e1 : keptB bs knownP (v :: L) = spanB bs v.r.f v.r.t ++ keptB bs knownP L := by unfold keptB; rw [List.filter_cons_of_pos hk, List.flatMap_cons]
      have e2 : unkB bs (v :: L) = unkB bs L := by unfold unkB; rw [List.filter_cons_of_neg (by rw [hu]; simp)]
      rw [e1, e2, List.length_append]
      omega
    · have hu : unkP v = true := by unfold knownP at hk; unfold unkP; simpa using hk
      have e1 : keptB bs knownP (v :: L) = keptB bs knownP L := by unfold keptB; rw [List.filter_cons_of_neg hk]
      have e2 : unkB bs (v :: L) = spanB bs v.r.f v.r.t :: unkB bs L := by unfold unkB; rw [List.filter_cons_of_pos hu, List.map_cons]
      rw [e1, e2]
      have : lens (spanB bs v.r.f v.r.t :: unkB bs L) = (spanB bs v.r.f v.r.t).length + lens (unkB bs L) := by simp [lens]
      omega

theorem viewsV_sum {l : List FieldD} {bs : List UInt8} {L : List ViewD} {P : Nat} (h : viewsV l bs = (L, P, 0)) : (keptB bs knownP L).length + lens (unkB bs L) = bs.length := by
  have hk := viewsV_link l bs bs.length 0 (by omega) (by omega)
  unfold viewsV at h
  rw [h] at hk
  have := parts_sum bs L 0 bs.length (hk rfl) (Nat.le_refl _)
  omega

/-- What is dropped has no unknown records. -/
theorem viewsV_left {l : List FieldD} {bs : List UInt8} {L : List ViewD} {P C : Nat} (h : viewsV l bs = (L, P, C)) : ∃ L', viewsV l (keptB bs knownP L) = (L', 0, 0) ∧ (unkB (keptB bs knownP L) L').length = 0 := by
  have he := viewsV_each l bs
  rw [h] at he
  obtain ⟨L', h1, h2⟩ := viewsV_kept l bs (L.filter knownP) (fun v hv => he v (List.mem_filter.1 hv).1)
  refine ⟨L', h1, ?_⟩
  have : L'.filter unkP = [] := by
    rw [List.filter_eq_nil_iff]
    intro v hv hu
    have : (v.field, v.run, v.r.n) ∈ (L.filter knownP).map (fun v => (v.field, v.run, v.r.n)) := by rw [← h2]; exact List.mem_map.2 ⟨v, hv, rfl⟩
    obtain ⟨u, hu1, hu2⟩ := List.mem_map.1 this
    have hk := (List.mem_filter.1 hu1).2
    simp only [Prod.mk.injEq] at hu2
    unfold knownP at hk
    unfold unkP at hu
    rw [hu2.1] at hk
    simp at hu hk
    exact hk hu
  unfold unkB
  rw [this]
  rfl

/-! With a field less. -/

theorem find_of_idx {α : Type} {p : α → Bool} {l : List α} : (idxB p l = -1 → l.find? p = none) ∧ ∀ (k : Nat) x, idxB p l = (k : Nat) → l[k]? = some x → l.find? p = some x := by
  constructor
  · intro h
    rcases idxB_cases p l with ⟨_, h2⟩ | ⟨k, x, h1, _⟩
    · rw [List.find?_eq_none]; intro x hx; rw [h2 x hx]; simp
    · rw [h] at h1; omega
  · intro k x h hx
    rcases idxB_cases p l with ⟨h1, _⟩ | ⟨k', x', h1, h2, h3, h4⟩
    · rw [h1] at h; omega
    · rw [h] at h1
      obtain rfl : k = k' := by omega
      rw [hx] at h2
      cases h2
      have aux : ∀ (l : List α) (k : Nat), l[k]? = some x → (∀ (j : Nat) y, j < k → l[j]? = some y → p y = false) → l.find? p = some x := by
        intro l
        induction l with
        | nil => intro k hk; simp at hk
        | cons a r ih =>
          intro k hk hj
          cases k with
          | zero =>
            simp only [List.getElem?_cons_zero, Option.some.injEq] at hk
            subst hk
            exact List.find?_cons_of_pos h3
          | succ k =>
            rw [List.find?_cons_of_neg (by rw [hj 0 a (by omega) rfl]; simp)]
            exact ih k hk (fun j y h1 h2 => hj (j + 1) y (by omega) h2)
      exact aux l k hx h4

/-- What a record is seen as, but for the field's place. -/
theorem seenV_find (l : List FieldD) (r : Rec) : (l.find? (numP (r.n : Int)) = none ∧ seenV l r = (⟨r, -1, false⟩, 0)) ∨ ∃ k f, l.find? (numP (r.n : Int)) = some f ∧ l[k]? = some f ∧ numP (r.n : Int) f = true ∧ idxB (numP (r.n : Int)) l = (k : Nat) ∧
    seenV l r = if (f.rep && numberB f.kind && r.w == 2) = true then (⟨r, (k : Int), true⟩, 0) else if kindB f.kind = true ∧ wireI f.kind = (r.w : Int) then (⟨r, (k : Int), false⟩, 0) else (ViewD.zero, 6) := by
  rcases idxB_cases (numP (r.n : Int)) l with ⟨h1, _⟩ | ⟨k, f, h1, h2, h3, _⟩
  · exact .inl ⟨find_of_idx.1 h1, seenV_none h1⟩
  · exact .inr ⟨k, f, find_of_idx.2 k f h1 h2, h2, h3, h1, seenV_some h1 h2⟩

theorem find_erase {α : Type} {p : α → Bool} : ∀ (l : List α) (k : Nat) (x : α), l[k]? = some x → p x = false → (l.eraseIdx k).find? p = l.find? p
  | [], _, _, h, _ => by simp at h
  | a :: r, 0, x, h, hp => by
    simp only [List.getElem?_cons_zero, Option.some.injEq] at h
    subst h
    rw [List.eraseIdx_cons_zero, List.find?_cons_of_neg (by rw [hp]; simp)]
  | a :: r, k + 1, x, h, hp => by
    rw [List.eraseIdx_cons_succ, List.find?_cons, List.find?_cons, find_erase r k x h hp]

theorem seen_less {l : List FieldD} {k : Nat} {f : FieldD} (hf : l[k]? = some f) (hno : idxB (numP f.number) (l.eraseIdx k) = -1) {r : Rec} {v : ViewD} (h : seenV l r = (v, 0)) :
    ∃ v', seenV (l.eraseIdx k) r = (v', 0) ∧ v'.r = r ∧ unkP v' = (unkP v || ofP f.number v) ∧ (ofP f.number v = true → unkP v = false) := by
  have hr := seenV_of h
  by_cases hn : (r.n : Int) = f.number
  · rw [← hn] at hno
    refine ⟨_, seenV_none hno, rfl, ?_, fun _ => ?_⟩
    · have : ofP f.number v = true := by unfold ofP; rw [hr, hn]; simp
      rw [this]
      simp [unkP]
    · rcases seenV_find l r with ⟨h1, _⟩ | ⟨j, g, h1, h2, h3, h4, h5⟩
      · rw [List.find?_eq_none] at h1
        exact absurd (show numP (r.n : Int) f = true by unfold numP; rw [hn]; simp) (h1 f (List.mem_of_getElem? hf))
      · rw [h5] at h
        split at h
        · cases h; unfold unkP; simp
        · split at h
          · cases h; unfold unkP; simp
          · simp at h
  · have hfe := find_erase (p := numP (r.n : Int)) l k f hf (by unfold numP; rw [beq_eq_false_iff_ne]; exact fun e => hn e.symm)
    have hof : ofP f.number v = false := by unfold ofP; rw [hr, beq_eq_false_iff_ne]; exact hn
    rw [hof, Bool.or_false]
    rcases seenV_find l r with ⟨h1, h2⟩ | ⟨j, g, h1, h2, h3, h4, h5⟩
    · rcases seenV_find (l.eraseIdx k) r with ⟨g1, g2⟩ | ⟨j', g', g1, _⟩
      · rw [h2] at h
        cases h
        exact ⟨_, g2, rfl, rfl, fun h => by cases h⟩
      · rw [hfe, h1] at g1; cases g1
    · rcases seenV_find (l.eraseIdx k) r with ⟨g1, g2⟩ | ⟨j', g', g1, _, _, _, g5⟩
      · rw [hfe, h1] at g1; cases g1
      · rw [hfe, h1] at g1
        cases g1
        rw [h5] at h
        rw [g5]
        have hu : ∀ (i : Nat) b, unkP ⟨r, (i : Int), b⟩ = false := fun i b => by unfold unkP; simp
        split at h
        · rename_i hc
          cases h
          rw [if_pos hc]
          exact ⟨_, rfl, rfl, by rw [hu, hu], fun h => by cases h⟩
        · rename_i hc
          rw [if_neg hc]
          split at h
          · rename_i hc2
            cases h
            rw [if_pos hc2]
            exact ⟨_, rfl, rfl, by rw [hu, hu], fun h => by cases h⟩
          · simp at h

theorem count_or {α : Type} {p q s : α → Bool} : ∀ (L : List α), (∀ v ∈ L, s v = (p v || q v) ∧ (q v = true → p v = false)) → (L.filter s).length = (L.filter p).length + (L.filter q).length
  | [], _ => rfl
  | v :: L, h => by
    have ih := count_or L (fun u hu => h u (.tail _ hu))
    obtain ⟨h1, h2⟩ := h v (.head _)
    simp only [List.filter_cons]
    rcases hp : p v with _ | _
    · rcases hq : q v with _ | _
      · rw [hp, hq] at h1
        simp [h1, ih]
      · rw [hp, hq] at h1
        simp [h1, ih]
        omega
    · have hq : q v = false := by rcases hq : q v with _ | _ <;> simp_all
      rw [hp, hq] at h1
      simp [h1, hq, ih]
      omega

/-- With a field less its records are unknown. -/
theorem viewsV_less {l : List FieldD} {bs : List UInt8} {k : Nat} {f : FieldD} (hf : l[k]? = some f) (hno : idxB (numP f.number) (l.eraseIdx k) = -1) {L : List ViewD} {P : Nat} (h : viewsV l bs = (L, P, 0)) :
    ∃ L', viewsV (l.eraseIdx k) bs = (L', 0, 0) ∧ L'.length = L.length ∧ (L'.filter (ofP f.number)).length = (L.filter (ofP f.number)).length ∧ (unkB bs L').length = (unkB bs L).length + (L.filter (ofP f.number)).length := by
  have he := viewsV_each l bs
  rw [h] at he
  have hs := scan_turned (sh := fun v => (seenV (l.eraseIdx k) v.r).1) (lookV_onward l bs) (lookV_onward (l.eraseIdx k) bs)
    (fun p x hp hx => by
      obtain ⟨v', g1, g2, _⟩ := seen_less hf hno (lookV_of hx).2
      rw [g1]; unfold ViewD.to; simp only; rw [g2])
    (fun q x hq hx => by
      obtain ⟨h1, h2⟩ := lookV_of hx
      obtain ⟨v', g1, g2, _⟩ := seen_less hf hno h2
      have hnq : nextV bs q = (x.r, 0) := h1
      unfold lookV
      rw [hnq, if_pos rfl, g1]) bs.length 0 (by omega) (by unfold viewsV at h; rw [h])
  have hs2 : viewsV (l.eraseIdx k) bs = (L.map (fun v => (seenV (l.eraseIdx k) v.r).1), 0, 0) := by
    unfold viewsV at h ⊢
    rw [hs, h]
  refine ⟨_, hs2, by simp, ?_, ?_⟩
  · rw [List.filter_map, List.length_map]
    congr 1
    refine List.filter_congr fun v hv => ?_
    obtain ⟨v', g1, g2, _⟩ := seen_less hf hno (he v hv).2
    simp only [Function.comp, g1]
    unfold ofP
    rw [g2]
  · unfold unkB
    rw [List.length_map, List.length_map, List.filter_map, List.length_map]
    refine count_or L fun v hv => ?_
    obtain ⟨v', g1, g2, g3, g4⟩ := seen_less hf hno (he v hv).2
    simp only [Function.comp, g1]
    exact ⟨g3, g4⟩

end Go.Proofs.Ytlmmlmmadgcmcaa
