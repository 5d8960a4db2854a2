/- Plain words for a stable sort in place: blocks that are merged, and the one sorted list. No program is named. -/
import Derived.Test.YtgjhglehghjoeaaGreatQaSort

namespace Go.Proofs.YtgjhglehghjoeaaGreat
set_option linter.unusedVariables false

section
variable {key : Nat → Int}

/-- What stands from a to b is sorted, and has stood there from the start. -/
structure Seg (key : Nat → Int) (ys : List Nat) (a b : Nat) : Prop where
  srt : Srt key ys a b
  home : ∀ u, a ≤ u → u < b → a ≤ atL ys u ∧ atL ys u < b

theorem Seg.raw {xs ys : List Nat} {a b : Nat} (hr : ∀ u, a ≤ u → u < b → atL xs u = u) (h : InsO key xs ys a b) : Seg key ys a b :=
  ⟨h.srt, fun u u1 u2 => by
    obtain ⟨v, v1, v2, e⟩ := h.mv.inn u u1 u2
    rw [e, hr v v1 v2]
    exact ⟨v1, v2⟩⟩

theorem Seg.none (xs : List Nat) (a : Nat) : Seg key xs a a := ⟨fun u v h1 h2 h3 => by omega, fun u h1 h2 => by omega⟩

theorem Seg.other {ys zs : List Nat} {a b c d : Nat} (h : Seg key ys c d) (m : Moves a b ys zs) (hd : d ≤ a ∨ b ≤ c) : Seg key zs c d := by
  have e : ∀ u, c ≤ u → u < d → atL zs u = atL ys u := fun u u1 u2 => m.out u (by omega)
  refine ⟨fun u v u1 u2 u3 => ?_, fun u u1 u2 => ?_⟩
  · rw [e u u1 (by omega), e v (by omega) u3]; exact h.srt u v u1 u2 u3
  · rw [e u u1 u2]; exact h.home u u1 u2

theorem Seg.two {ys : List Nat} {a m b : Nat} (h : Seg key ys a m) (k : Seg key ys m b) (h1 : a < m) (h2 : m < b) (hb : b ≤ ys.length) : MgP key ys a m b :=
  ⟨h1, h2, hb, h.srt, k.srt, fun u v u1 u2 v1 v2 => by
    have := (h.home u u1 u2).2
    have := (k.home v v1 v2).1
    omega⟩

theorem Seg.merged {ys zs : List Nat} {a m b : Nat} (h : Seg key ys a m) (k : Seg key ys m b) (h1 : a ≤ m) (h2 : m ≤ b) (d : MgD key ys zs a b) : Seg key zs a b :=
  ⟨d.srt, fun u u1 u2 => by
    obtain ⟨v, v1, v2, e⟩ := d.mv.inn u u1 u2
    rw [e]
    by_cases c : v < m
    · have := h.home v v1 c
      omega
    · have := k.home v (by omega) v2
      omega⟩

/-- All blocks of so many are sorted. -/
def Blocks (key : Nat → Int) (ys : List Nat) (n s : Nat) : Prop := ∀ lo, s ∣ lo → lo ≤ n → Seg key ys lo (min (lo + s) n)

/-- Blocks sorted by insertion, up to a. -/
structure Cut (key : Nat → Int) (ys : List Nat) (n s a : Nat) : Prop where
  done : ∀ lo, s ∣ lo → lo < a → Seg key ys lo (lo + s)
  raw : ∀ u, a ≤ u → u < n → atL ys u = u

theorem dvd_next {t lo a : Nat} (h : t ∣ lo) (k : t ∣ a) (hl : lo < a) : lo + t ≤ a := by
  obtain ⟨x, rfl⟩ := h
  obtain ⟨y, rfl⟩ := k
  have hxy : x < y := Nat.lt_of_mul_lt_mul_left hl
  have := Nat.mul_le_mul_left t (show x + 1 ≤ y from hxy)
  rwa [Nat.mul_succ] at this

theorem atL_range {n u : Nat} (h : u < n) : atL (List.range n) u = u := by
  unfold atL
  rw [List.getD_eq_getElem?_getD, List.getElem?_range h]
  rfl

theorem Cut.start (n s : Nat) : Cut key (List.range n) n s 0 := ⟨fun lo h1 h2 => by omega, fun u _ hu => atL_range hu⟩

theorem Cut.next {ys zs : List Nat} {n s a : Nat} (h : Cut key ys n s a) (ha : s ∣ a) (hn : a + s ≤ n) (hi : InsO key ys zs a (a + s)) : Cut key zs n s (a + s) := by
  refine ⟨fun lo h1 h2 => ?_, fun u u1 u2 => ?_⟩
  · by_cases c : lo < a
    · exact (h.done lo h1 c).other hi.mv (.inl (dvd_next h1 ha c))
    · have e : lo = a := by
        rcases Nat.lt_or_ge a lo with g | g
        · have := dvd_next ha h1 g; omega
        · omega
      subst e
      exact Seg.raw (fun u u1 u2 => h.raw u u1 (by omega)) hi
  · rw [hi.mv.out u (by omega)]
    exact h.raw u (by omega) u2

theorem Cut.last {ys zs : List Nat} {n s a : Nat} (h : Cut key ys n s a) (ha : s ∣ a) (han : a ≤ n) (hn : n < a + s) (hi : InsO key ys zs a n) : Blocks key zs n s := by
  intro lo h1 h2
  by_cases c : lo < a
  · have := dvd_next h1 ha c
    rw [Nat.min_eq_left (by omega)]
    exact (h.done lo h1 c).other hi.mv (.inl this)
  · have e : lo = a := by
      rcases Nat.lt_or_ge a lo with g | g
      · have := dvd_next ha h1 g; omega
      · omega
    subst e
    rw [Nat.min_eq_right (by omega)]
    exact Seg.raw (fun u u1 u2 => h.raw u u1 (by omega)) hi

/-- Blocks merged two and two, up to a. -/
structure Lvl (key : Nat → Int) (ys : List Nat) (n s a : Nat) : Prop where
  done : ∀ lo, 2 * s ∣ lo → lo < a → Seg key ys lo (lo + 2 * s)
  rest : ∀ lo, s ∣ lo → a ≤ lo → lo ≤ n → Seg key ys lo (min (lo + s) n)

theorem Lvl.start {ys : List Nat} {n s : Nat} (h : Blocks key ys n s) : Lvl key ys n s 0 := ⟨fun lo h1 h2 => by omega, fun lo h1 _ h3 => h lo h1 h3⟩

theorem dvd_half {s a : Nat} (h : 2 * s ∣ a) : s ∣ a := Nat.dvd_trans (Nat.dvd_mul_left s 2) h

theorem Lvl.segs {ys : List Nat} {n s a : Nat} (h : Lvl key ys n s a) (ha : 2 * s ∣ a) (hn : a + s ≤ n) : Seg key ys a (a + s) ∧ Seg key ys (a + s) (min (a + 2 * s) n) := by
  have h1 := h.rest a (dvd_half ha) (Nat.le_refl _) (by omega)
  have h2 := h.rest (a + s) (Nat.dvd_add (dvd_half ha) (Nat.dvd_refl s)) (by omega) hn
  rw [Nat.min_eq_left hn] at h1
  rw [Nat.add_assoc, ← Nat.two_mul] at h2
  exact ⟨h1, h2⟩

theorem Lvl.pre {ys : List Nat} {n s a b : Nat} (h : Lvl key ys n s a) (ha : 2 * s ∣ a) (hn : a + s < n) (hs : 0 < s) (hl : ys.length = n) (hb : b = min (a + 2 * s) n) : MgP key ys a (a + s) b := by
  obtain ⟨h1, h2⟩ := h.segs ha (by omega)
  subst hb
  exact h1.two h2 (by omega) (by omega) (by omega)

theorem Lvl.next {ys zs : List Nat} {n s a : Nat} (h : Lvl key ys n s a) (ha : 2 * s ∣ a) (hn : a + 2 * s ≤ n) (hs : 0 < s) (d : MgD key ys zs a (a + 2 * s)) : Lvl key zs n s (a + 2 * s) := by
  obtain ⟨h1, h2⟩ := h.segs ha (by omega)
  rw [Nat.min_eq_left hn] at h2
  refine ⟨fun lo l1 l2 => ?_, fun lo l1 l2 l3 => (h.rest lo l1 (by omega) l3).other d.mv (.inr l2)⟩
  by_cases c : lo < a
  · exact (h.done lo l1 c).other d.mv (.inl (dvd_next l1 ha c))
  · have e : lo = a := by
      rcases Nat.lt_or_ge a lo with g | g
      · have := dvd_next ha l1 g; omega
      · omega
    subst e
    exact h1.merged h2 (by omega) (by omega) d

theorem Lvl.last {ys zs : List Nat} {n s a : Nat} (h : Lvl key ys n s a) (ha : 2 * s ∣ a) (hn : n < a + 2 * s) (hm : a + s < n) (d : MgD key ys zs a n) : Blocks key zs n (2 * s) := by
  obtain ⟨h1, h2⟩ := h.segs ha (by omega)
  rw [Nat.min_eq_right (by omega)] at h2
  intro lo l1 l2
  by_cases c : lo < a
  · have := dvd_next l1 ha c
    rw [Nat.min_eq_left (by omega)]
    exact (h.done lo l1 c).other d.mv (.inl this)
  · have e : lo = a := by
      rcases Nat.lt_or_ge a lo with g | g
      · have := dvd_next ha l1 g; omega
      · omega
    subst e
    rw [Nat.min_eq_right (by omega)]
    exact h1.merged h2 (by omega) (by omega) d

theorem Lvl.stop {ys : List Nat} {n s a : Nat} (h : Lvl key ys n s a) (ha : 2 * s ∣ a) (han : a ≤ n) (hn : n < a + 2 * s) (hm : ¬ a + s < n) : Blocks key ys n (2 * s) := by
  intro lo l1 l2
  by_cases c : lo < a
  · have := dvd_next l1 ha c
    rw [Nat.min_eq_left (by omega)]
    exact h.done lo l1 c
  · have e : lo = a := by
      rcases Nat.lt_or_ge a lo with g | g
      · have := dvd_next ha l1 g; omega
      · omega
    subst e
    have := h.rest lo (dvd_half l1) (Nat.le_refl _) l2
    rw [Nat.min_eq_right (by omega)] at this ⊢
    exact this

theorem Blocks.all {ys : List Nat} {n s : Nat} (h : Blocks key ys n s) (hs : n ≤ s) : Srt key ys 0 n := by
  have := (h 0 (Nat.dvd_zero s) (Nat.zero_le _)).srt
  rwa [Nat.min_eq_right (by omega)] at this

/-! The one sorted list. -/

def insK (key : Nat → Int) (x : Nat) (l : List Nat) : List Nat := l.takeWhile (fun y => decide (key y ≤ key x)) ++ x :: l.dropWhile (fun y => decide (key y ≤ key x))

def sortK (key : Nat → Int) : Nat → List Nat
  | 0 => []
  | n + 1 => insK key n (sortK key n)

theorem insK_perm (key : Nat → Int) (x : Nat) (l : List Nat) : (insK key x l).Perm (x :: l) := by
  unfold insK
  refine List.perm_middle.trans ?_
  rw [List.takeWhile_append_dropWhile]

theorem sortK_perm (key : Nat → Int) : ∀ n, (sortK key n).Perm (List.range n)
  | 0 => List.Perm.refl _
  | n + 1 => by
    rw [List.range_succ]
    refine (insK_perm key n (sortK key n)).trans ?_
    refine ((sortK_perm key n).cons n).trans ?_
    exact (List.perm_append_comm (l₁ := [n]) (l₂ := List.range n))

theorem sortK_length (key : Nat → Int) (n : Nat) : (sortK key n).length = n := by rw [(sortK_perm key n).length_eq, List.length_range]

theorem sortK_mem {n i : Nat} : i ∈ sortK key n ↔ i < n := by rw [(sortK_perm key n).mem_iff, List.mem_range]

theorem insK_pair {x : Nat} : ∀ {l : List Nat}, l.Pairwise (ltK key) → (∀ y ∈ l, y < x) → (insK key x l).Pairwise (ltK key)
  | [], _, _ => by simp [insK]
  | y :: l, h, hx => by
    rw [List.pairwise_cons] at h
    by_cases c : key y ≤ key x
    · have e : insK key x (y :: l) = y :: insK key x l := by simp [insK, c]
      rw [e, List.pairwise_cons]
      refine ⟨fun z hz => ?_, insK_pair h.2 (fun z hz => hx z (List.mem_cons_of_mem _ hz))⟩
      rw [(insK_perm key x l).mem_iff] at hz
      rcases List.mem_cons.1 hz with rfl | hz
      · have := hx y List.mem_cons_self
        unfold ltK
        omega
      · exact h.1 z hz
    · have e : insK key x (y :: l) = x :: y :: l := by simp [insK, c]
      rw [e, List.pairwise_cons, List.pairwise_cons]
      refine ⟨fun z hz => ?_, h.1, h.2⟩
      rcases List.mem_cons.1 hz with rfl | hz
      · left; omega
      · have := ltK_key (h.1 z hz)
        left; omega

theorem sortK_pair (key : Nat → Int) : ∀ n, (sortK key n).Pairwise (ltK key)
  | 0 => List.Pairwise.nil
  | n + 1 => insK_pair (sortK_pair key n) (fun y hy => sortK_mem.1 hy)

theorem sorted_only {n : Nat} {ys : List Nat} (hp : ys.Perm (List.range n)) (h : Srt key ys 0 n) : ys = sortK key n := by
  have hl : ys.length = n := by rw [hp.length_eq, List.length_range]
  refine List.Perm.eq_of_pairwise (le := ltK key) (fun a b _ _ h1 h2 => by unfold ltK at h1 h2; omega) ?_ (sortK_pair key n) (hp.trans (sortK_perm key n).symm)
  rw [List.pairwise_iff_getElem]
  intro i j hi hj hij
  have := h i j (Nat.zero_le _) hij (by omega)
  unfold atL at this
  rw [List.getD_eq_getElem?_getD, List.getD_eq_getElem?_getD, List.getElem?_eq_getElem hi, List.getElem?_eq_getElem hj] at this
  exact this

end

end Go.Proofs.YtgjhglehghjoeaaGreat
