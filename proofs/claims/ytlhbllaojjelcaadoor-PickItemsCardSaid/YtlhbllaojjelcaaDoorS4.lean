/- Plain laws of layer 4: code points' bytes. No program is named. -/
import Derived.Test.YtlhbllaojjelcaaDoorLib
namespace Go.Proofs.YtlhbllaojjelcaaDoor
open Go.RowKit
set_option linter.unusedVariables false

/-- How many bytes a code point has by its first byte, and that byte's bits. -/
def headN (b : Nat) : Nat × Nat :=
  if b < 128 then (1, b) else if b / 32 = 6 then (2, b % 32) else if b / 16 = 14 then (3, b % 16) else if b / 8 = 30 then (4, b % 8) else (0, 0)

def leastN (n : Nat) : Nat := if n ≤ 1 then 0 else if n = 2 then 128 else if n = 3 then 2048 else 65536

def tailB (c : UInt8) : Bool := decide (c.toNat / 64 = 2)

/-- The bits of a head and of some tails. -/
def joinN (r : Nat) : List UInt8 → Nat
  | [] => r
  | c :: l => joinN (r * 64 + c.toNat % 64) l

/-- A code point? -/
def pointB (n R : Nat) : Bool := !(decide (R < leastN n) || decide (1114111 < R) || (decide (55296 ≤ R) && decide (R ≤ 57343)))

/-- How many bytes the next code point has; 0: there is none. -/
def nextU : List UInt8 → Nat
  | [] => 0
  | b :: t => if (headN b.toNat).1 = 0 ∨ t.length + 1 < (headN b.toNat).1 then 0
      else if (t.take ((headN b.toNat).1 - 1)).all tailB = true ∧ pointB (headN b.toNat).1 (joinN (headN b.toNat).2 (t.take ((headN b.toNat).1 - 1))) = true then (headN b.toNat).1 else 0

theorem nextU_cons (b : UInt8) (t : List UInt8) : nextU (b :: t) = if (headN b.toNat).1 = 0 ∨ t.length + 1 < (headN b.toNat).1 then 0
      else if (t.take ((headN b.toNat).1 - 1)).all tailB = true ∧ pointB (headN b.toNat).1 (joinN (headN b.toNat).2 (t.take ((headN b.toNat).1 - 1))) = true then (headN b.toNat).1 else 0 := rfl

theorem headN_bd (b : Nat) (h : b < 256) : (headN b).1 ≤ 4 ∧ (headN b).2 < 128 ∧ ((headN b).2 + 1) * 64 ^ ((headN b).1 - 1) ≤ 2097152 := by
  unfold headN
  repeat' split
  all_goals simp only
  all_goals omega

theorem joinN_lt : ∀ (l : List UInt8) (r : Nat), joinN r l + 1 ≤ (r + 1) * 64 ^ l.length
  | [], r => by simp [joinN]
  | c :: l, r => by
    have := joinN_lt l (r * 64 + c.toNat % 64)
    rw [joinN, List.length_cons, Nat.pow_succ]
    have h : (r * 64 + c.toNat % 64 + 1) * 64 ^ l.length ≤ (r + 1) * (64 ^ l.length * 64) := by
      rw [Nat.mul_comm (64 ^ l.length) 64, ← Nat.mul_assoc]
      exact Nat.mul_le_mul_right _ (by omega)
    omega

theorem joinN_snoc : ∀ (l : List UInt8) (r : Nat) (c : UInt8), joinN r (l ++ [c]) = joinN r l * 64 + c.toNat % 64
  | [], r, c => rfl
  | d :: l, r, c => by
    rw [List.cons_append, joinN, joinN]
    exact joinN_snoc l _ c

theorem nextU_le (bs : List UInt8) : nextU bs ≤ bs.length ∧ nextU bs ≤ 4 := by
  cases bs with
  | nil => exact ⟨Nat.le_refl _, by decide⟩
  | cons b t =>
    have := (headN_bd b.toNat b.toNat_lt).1
    rw [nextU_cons]
    split
    · exact ⟨Nat.zero_le _, Nat.zero_le _⟩
    · split
      · simp only [List.length_cons]; omega
      · exact ⟨Nat.zero_le _, Nat.zero_le _⟩

/-- The next code point hangs on its own bytes alone. -/
theorem nextU_take (bs : List UInt8) (m : Nat) (h : 0 < nextU bs) (hm : nextU bs ≤ m) : nextU (bs.take m) = nextU bs := by
  cases bs with
  | nil => exact absurd h (Nat.lt_irrefl _)
  | cons b t =>
    have key : nextU (b :: t) = (headN b.toNat).1 ∧ ¬ ((headN b.toNat).1 = 0 ∨ t.length + 1 < (headN b.toNat).1) ∧ (t.take ((headN b.toNat).1 - 1)).all tailB = true ∧ pointB (headN b.toNat).1 (joinN (headN b.toNat).2 (t.take ((headN b.toNat).1 - 1))) = true := by
      rw [nextU_cons] at h ⊢
      split at h
      · omega
      · rename_i h1
        split at h
        · rename_i h2
          rw [if_neg h1, if_pos h2]
          exact ⟨rfl, h1, h2⟩
        · omega
    obtain ⟨k1, k2, k3⟩ := key
    rw [k1] at hm ⊢
    have hm0 : m = (m - 1) + 1 := by omega
    rw [hm0, List.take_succ_cons]
    have ht : (t.take (m - 1)).take ((headN b.toNat).1 - 1) = t.take ((headN b.toNat).1 - 1) := by
      rw [List.take_take, Nat.min_eq_left (by omega)]
    rw [nextU_cons, ht, if_neg (by rw [List.length_take]; omega), if_pos k3]

theorem nextU_append (bs cs : List UInt8) (h : 0 < nextU bs) : nextU (bs ++ cs) = nextU bs := by
  cases bs with
  | nil => exact absurd h (Nat.lt_irrefl _)
  | cons b t =>
    have h' := h
    rw [nextU_cons] at h'
    split at h'
    · omega
    · rename_i h1
      split at h'
      · rename_i h2
        have ht : (t ++ cs).take ((headN b.toNat).1 - 1) = t.take ((headN b.toNat).1 - 1) := List.take_append_of_le_length (by omega)
        rw [List.cons_append, nextU_cons, nextU_cons, ht, if_neg (by rw [List.length_append]; omega), if_neg h1]
      · omega

/-- The place and the count of the walk over code points, as long as they have room. -/
def walkV (bs : List UInt8) (room : Nat) : Nat × Nat :=
  if h : nextU bs = 0 ∨ room < nextU bs then (0, 0)
  else
    let p := walkV (bs.drop (nextU bs)) (room - nextU bs)
    (nextU bs + p.1, p.2 + 1)
termination_by bs.length
decreasing_by
  have := nextU_le bs
  rw [List.length_drop]; omega

theorem walkV_stop {bs : List UInt8} {room : Nat} (h : nextU bs = 0 ∨ room < nextU bs) : walkV bs room = (0, 0) := by
  rw [walkV, dif_pos h]

theorem walkV_step {bs : List UInt8} {room : Nat} (h : ¬ (nextU bs = 0 ∨ room < nextU bs)) : walkV bs room = (nextU bs + (walkV (bs.drop (nextU bs)) (room - nextU bs)).1, (walkV (bs.drop (nextU bs)) (room - nextU bs)).2 + 1) := by
  rw [walkV, dif_neg h]

theorem walkV_le (bs : List UInt8) (room : Nat) : (walkV bs room).1 ≤ bs.length ∧ (walkV bs room).1 ≤ room ∧ (walkV bs room).2 ≤ (walkV bs room).1 := by
  by_cases h : nextU bs = 0 ∨ room < nextU bs
  · rw [walkV_stop h]; simp
  · have hl := nextU_le bs
    have ih := walkV_le (bs.drop (nextU bs)) (room - nextU bs)
    rw [walkV_step h]
    rw [List.length_drop] at ih
    simp only
    omega
termination_by bs.length
decreasing_by
  have := nextU_le bs
  rw [List.length_drop]; omega

/-- What is cut is right, and has as many code points. -/
theorem walkV_cut (bs : List UInt8) (room : Nat) : walkV (bs.take (walkV bs room).1) (walkV bs room).1 = walkV bs room := by
  by_cases h : nextU bs = 0 ∨ room < nextU bs
  · rw [walkV_stop h]
    exact walkV_stop (.inl rfl)
  · have hl := nextU_le bs
    have ih := walkV_cut (bs.drop (nextU bs)) (room - nextU bs)
    rw [walkV_step h]
    simp only
    generalize hp : walkV (bs.drop (nextU bs)) (room - nextU bs) = p at ih ⊢
    have ht := nextU_take bs (nextU bs + p.1) (by omega) (by omega)
    rw [walkV_step (by rw [ht]; omega), ht, List.drop_take, Nat.add_sub_cancel_left, ih]
termination_by bs.length
decreasing_by
  have := nextU_le bs
  rw [List.length_drop]; omega

theorem walkV_room {bs : List UInt8} {a b : Nat} (ha : bs.length ≤ a) (hb : bs.length ≤ b) : walkV bs a = walkV bs b := by
  have hl := nextU_le bs
  by_cases h : nextU bs = 0
  · rw [walkV_stop (.inl h), walkV_stop (.inl h)]
  · rw [walkV_step (bs := bs) (room := a) (by omega), walkV_step (bs := bs) (room := b) (by omega), walkV_room (bs := bs.drop (nextU bs)) (a := a - nextU bs) (b := b - nextU bs) (by rw [List.length_drop]; omega) (by rw [List.length_drop]; omega)]
termination_by bs.length
decreasing_by
  rw [List.length_drop]; omega

/-- Right text? -/
def rightT (bs : List UInt8) : Bool := decide ((walkV bs bs.length).1 = bs.length)

theorem right_append (bs cs : List UInt8) (h : rightT bs = true) : walkV (bs ++ cs) (bs ++ cs).length = (bs.length + (walkV cs cs.length).1, (walkV bs bs.length).2 + (walkV cs cs.length).2) := by
  have h1 : (walkV bs bs.length).1 = bs.length := of_decide_eq_true h
  by_cases hn : nextU bs = 0
  · rw [walkV_stop (.inl hn)] at h1 ⊢
    have : bs = [] := List.eq_nil_of_length_eq_zero h1.symm
    subst this
    simp
  · have hl := nextU_le bs
    rw [walkV_step (by omega)] at h1
    have hd : rightT (bs.drop (nextU bs)) = true := by
      apply decide_eq_true
      rw [List.length_drop]
      simp only at h1
      omega
    have ih := right_append (bs.drop (nextU bs)) cs hd
    have ha := nextU_append bs cs (by omega)
    rw [walkV_step (bs := bs ++ cs) (by rw [ha, List.length_append]; omega), ha, List.drop_append_of_le_length hl.1, walkV_step (bs := bs) (by omega)]
    rw [List.length_append, List.length_drop] at ih
    rw [List.length_append, show bs.length + cs.length - nextU bs = bs.length - nextU bs + cs.length by omega, ih]
    simp only [Prod.mk.injEq]
    omega
termination_by bs.length
decreasing_by
  rw [List.length_drop]; omega

theorem right_both (bs cs : List UInt8) (h : rightT bs = true) : rightT (bs ++ cs) = rightT cs := by
  unfold rightT
  rw [right_append bs cs h, List.length_append]
  simp

/-- A code point's bytes; none: it is none. -/
def putU (r : Nat) : List UInt8 :=
  if 1114111 < r ∨ (55296 ≤ r ∧ r ≤ 57343) then []
  else if r < 128 then [r.toUInt8]
  else if r < 2048 then [(192 + r / 64).toUInt8, (128 + r % 64).toUInt8]
  else if r < 65536 then [(224 + r / 4096).toUInt8, (128 + r / 64 % 64).toUInt8, (128 + r % 64).toUInt8]
  else [(240 + r / 262144).toUInt8, (128 + r / 4096 % 64).toUInt8, (128 + r / 64 % 64).toUInt8, (128 + r % 64).toUInt8]

theorem u8_eq (x : Nat) (h : x < 256) (c : UInt8) : x.toUInt8 = c ↔ x = c.toNat := by
  constructor
  · intro e; rw [← e]; exact (toNat_u8 x h).symm
  · intro e; apply UInt8.toNat_inj.1; rw [toNat_u8 x h, e]

/-- The code point that n bytes would be. -/
def tryN (n : Nat) : List UInt8 → Nat
  | [] => 0
  | b :: t => joinN (if n = 2 then b.toNat % 32 else if n = 3 then b.toNat % 16 else if n = 4 then b.toNat % 8 else b.toNat) (t.take (n - 1))

theorem tail_iff {c : UInt8} : tailB c = true ↔ 128 + c.toNat % 64 = c.toNat := by
  have := c.toNat_lt
  unfold tailB
  rw [decide_eq_true_iff]
  omega

theorem head_1 (b : Nat) (h : b < 256) : (headN b).1 = 1 ↔ b < 128 := by
  unfold headN; repeat' split
  all_goals constructor
  all_goals intro h
  all_goals first | omega | (simp only at h ⊢; omega)

theorem head_2 (b : Nat) (h : b < 256) : (headN b).1 = 2 ↔ b / 32 = 6 := by
  unfold headN; repeat' split
  all_goals constructor
  all_goals intro h
  all_goals first | omega | (simp only at h ⊢; omega)

theorem head_3 (b : Nat) (h : b < 256) : (headN b).1 = 3 ↔ b / 16 = 14 := by
  unfold headN; repeat' split
  all_goals constructor
  all_goals intro h
  all_goals first | omega | (simp only at h ⊢; omega)

theorem head_4 (b : Nat) (h : b < 256) : (headN b).1 = 4 ↔ b / 8 = 30 := by
  unfold headN; repeat' split
  all_goals constructor
  all_goals intro h
  all_goals first | omega | (simp only at h ⊢; omega)

theorem head_bits (b : Nat) (h : b < 256) : ((headN b).1 = 1 → (headN b).2 = b) ∧ ((headN b).1 = 2 → (headN b).2 = b % 32) ∧ ((headN b).1 = 3 → (headN b).2 = b % 16) ∧ ((headN b).1 = 4 → (headN b).2 = b % 8) := by
  unfold headN; repeat' split
  all_goals simp

theorem point_iff (n R : Nat) : pointB n R = true ↔ leastN n ≤ R ∧ R ≤ 1114111 ∧ (R < 55296 ∨ 57343 < R) := by
  unfold pointB
  simp
  omega

theorem nextU_is {b : UInt8} {t : List UInt8} {n : Nat} (h1 : 1 ≤ n) : nextU (b :: t) = n ↔ (headN b.toNat).1 = n ∧ n ≤ t.length + 1 ∧ (t.take (n - 1)).all tailB = true ∧ pointB n (joinN (headN b.toNat).2 (t.take (n - 1))) = true := by
  rw [nextU_cons]
  constructor
  · intro h
    split at h
    · omega
    · split at h
      · rename_i k1 k2
        subst h
        exact ⟨rfl, by omega, k2⟩
      · omega
  · rintro ⟨rfl, h2, h3⟩
    rw [if_neg (by omega), if_pos h3]

theorem putU_next (n : Nat) (h1 : 1 ≤ n) (h4 : n ≤ 4) (bs : List UInt8) (hn : n ≤ bs.length) : putU (tryN n bs) = bs.take n ↔ nextU bs = n := by
  cases bs with
  | nil => simp at hn; omega
  | cons b t =>
    have hb := b.toNat_lt
    have hle : n ≤ t.length + 1 := by simpa using hn
    rw [nextU_is h1]
    obtain ⟨e1, e2, e3, e4⟩ := head_bits b.toNat hb
    rcases (show n = 1 ∨ n = 2 ∨ n = 3 ∨ n = 4 by omega) with rfl | rfl | rfl | rfl
    · have hq := head_1 b.toNat hb
      simp only [tryN, List.take_succ_cons, List.take_zero, Nat.sub_self, joinN, List.all_nil, true_and, show ¬ (1 = 2) by decide, show ¬ (1 = 3) by decide, show ¬ (1 = 4) by decide, if_false]
      constructor
      · intro h
        have hlt : b.toNat < 128 := by
          unfold putU at h
          rw [if_neg (by omega)] at h
          split at h
          · assumption
          · rw [if_pos (by omega)] at h
            simp at h
        refine ⟨hq.2 hlt, by omega, ?_⟩
        rw [e1 (hq.2 hlt), point_iff]
        simp only [leastN, Nat.le_refl, if_true]
        omega
      · rintro ⟨h, _, _⟩
        have hlt := hq.1 h
        unfold putU
        rw [if_neg (by omega), if_pos hlt, (u8_eq _ (by omega) _).2 rfl]
    · rcases t with _ | ⟨c, t⟩
      · simp at hle
      · have hc := c.toNat_lt
        have hq := head_2 b.toNat hb
        simp only [tryN, List.take_succ_cons, List.take_zero, joinN, List.all_cons, List.all_nil, Bool.and_true, if_true, show 2 - 1 = 1 from rfl]
        generalize hR : b.toNat % 32 * 64 + c.toNat % 64 = R
        constructor
        · intro h
          unfold putU at h
          rw [if_neg (by omega)] at h
          split at h
          · simp at h
          · rw [if_pos (by omega)] at h
            simp only [List.cons.injEq, and_true] at h
            rw [u8_eq _ (by omega), u8_eq _ (by omega)] at h
            have hh := hq.2 (by omega)
            refine ⟨hh, by simp, tail_iff.2 (by omega), ?_⟩
            rw [e2 hh, hR, point_iff]
            simp only [leastN]
            simp
            omega
        · rintro ⟨h, _, ht, hp⟩
          rw [tail_iff] at ht
          rw [e2 h, hR, point_iff] at hp
          simp only [leastN] at hp
          simp at hp
          have := hq.1 h
          unfold putU
          rw [if_neg (by omega), if_neg (by omega), if_pos (by omega)]
          simp only [List.cons.injEq, and_true]
          rw [u8_eq _ (by omega), u8_eq _ (by omega)]
          omega
    · rcases t with _ | ⟨c, _ | ⟨d, t⟩⟩
      · simp at hle
      · simp at hle
      · have hc := c.toNat_lt
        have hd := d.toNat_lt
        have hq := head_3 b.toNat hb
        simp only [tryN, List.take_succ_cons, List.take_zero, joinN, List.all_cons, List.all_nil, Bool.and_true, Bool.and_eq_true, if_true, show 3 - 1 = 2 from rfl, show ¬ (3 = 2) by decide, if_false]
        generalize hR : (b.toNat % 16 * 64 + c.toNat % 64) * 64 + d.toNat % 64 = R
        constructor
        · intro h
          unfold putU at h
          split at h
          · simp at h
          · split at h
            · simp at h
            · split at h
              · simp at h
              · rw [if_pos (by omega)] at h
                simp only [List.cons.injEq, and_true] at h
                rw [u8_eq _ (by omega), u8_eq _ (by omega), u8_eq _ (by omega)] at h
                have hh := hq.2 (by omega)
                refine ⟨hh, by simp, ⟨tail_iff.2 (by omega), tail_iff.2 (by omega)⟩, ?_⟩
                rw [e3 hh, hR, point_iff]
                simp only [leastN]
                simp
                omega
        · rintro ⟨h, _, ⟨ht, ht2⟩, hp⟩
          rw [tail_iff] at ht ht2
          rw [e3 h, hR, point_iff] at hp
          simp only [leastN] at hp
          simp at hp
          have := hq.1 h
          unfold putU
          rw [if_neg (by omega), if_neg (by omega), if_neg (by omega), if_pos (by omega)]
          simp only [List.cons.injEq, and_true]
          rw [u8_eq _ (by omega), u8_eq _ (by omega), u8_eq _ (by omega)]
          omega
    · rcases t with _ | ⟨c, _ | ⟨d, _ | ⟨f, t⟩⟩⟩
      · simp at hle
      · simp at hle
      · simp at hle
      · have hc := c.toNat_lt
        have hd := d.toNat_lt
        have hf := f.toNat_lt
        have hq := head_4 b.toNat hb
        simp only [tryN, List.take_succ_cons, List.take_zero, joinN, List.all_cons, List.all_nil, Bool.and_true, Bool.and_eq_true, if_true, show 4 - 1 = 3 from rfl, show ¬ (4 = 2) by decide, show ¬ (4 = 3) by decide, if_false]
        generalize hR : ((b.toNat % 8 * 64 + c.toNat % 64) * 64 + d.toNat % 64) * 64 + f.toNat % 64 = R
        constructor
        · intro h
          unfold putU at h
          split at h
          · simp at h
          · split at h
            · simp at h
            · split at h
              · simp at h
              · split at h
                · simp at h
                · simp only [List.cons.injEq, and_true] at h
                  rw [u8_eq _ (by omega), u8_eq _ (by omega), u8_eq _ (by omega), u8_eq _ (by omega)] at h
                  have hh := hq.2 (by omega)
                  refine ⟨hh, by simp, ⟨tail_iff.2 (by omega), tail_iff.2 (by omega), tail_iff.2 (by omega)⟩, ?_⟩
                  rw [e4 hh, hR, point_iff]
                  simp only [leastN]
                  simp
                  omega
        · rintro ⟨h, _, ⟨ht, ht2, ht3⟩, hp⟩
          rw [tail_iff] at ht ht2 ht3
          rw [e4 h, hR, point_iff] at hp
          simp only [leastN] at hp
          simp at hp
          have := hq.1 h
          unfold putU
          rw [if_neg (by omega), if_neg (by omega), if_neg (by omega), if_neg (by omega)]
          simp only [List.cons.injEq, and_true]
          rw [u8_eq _ (by omega), u8_eq _ (by omega), u8_eq _ (by omega), u8_eq _ (by omega)]
          omega

end Go.Proofs.YtlhbllaojjelcaaDoor
