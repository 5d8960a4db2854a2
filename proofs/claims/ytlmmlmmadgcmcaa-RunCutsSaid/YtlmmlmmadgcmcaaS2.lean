/- Plain laws of layer 2: varints. No program is named. -/
import Derived.Test.YtlmmlmmadgcmcaaS1
namespace Go.Proofs.Ytlmmlmmadgcmcaa
open Go.RowKit Go.Lib
set_option linter.unusedVariables false

/-- The word of pieces of 7 bits, the lowest first. -/
def wordV : List UInt8 → Nat
  | [] => 0
  | b :: r => b.toNat % 128 + 128 * wordV r

theorem wordV_lt : ∀ l : List UInt8, wordV l < 128 ^ l.length
  | [] => by simp [wordV]
  | b :: r => by
    have := wordV_lt r
    rw [wordV, List.length_cons, Nat.pow_succ]
    omega

theorem wordV_snoc : ∀ (l : List UInt8) (b : UInt8), wordV (l ++ [b]) = wordV l + b.toNat % 128 * 128 ^ l.length
  | [], b => by simp [wordV]
  | a :: r, b => by
    rw [List.cons_append, wordV, wordV_snoc r b, wordV, List.length_cons, Nat.pow_succ, Nat.mul_add, Nat.mul_left_comm, Nat.mul_comm (128 ^ r.length) 128]
    omega

/-- A varint at the i-th byte: its word, how many bytes; the code. -/
def readI : Nat → List UInt8 → Nat × Nat × Nat
  | _, [] => (0, 0, 3)
  | i, b :: r =>
    if i = 9 ∧ 1 < b.toNat then (0, 0, 4)
    else if b.toNat < 128 then (b.toNat, 1, 0)
    else if (readI (i + 1) r).2.2 = 0 then (b.toNat % 128 + 128 * (readI (i + 1) r).1, (readI (i + 1) r).2.1 + 1, 0)
    else (0, 0, (readI (i + 1) r).2.2)

def readV (bs : List UInt8) : Nat × Nat × Nat := readI 0 bs

/-- The first k bytes say that more come. -/
def Cont (bs : List UInt8) (k : Nat) : Prop := ∀ j, j < k → ∃ x, bs[j]? = some x ∧ 128 ≤ x.toNat

theorem Cont.zero (bs : List UInt8) : Cont bs 0 := fun j h => absurd h (Nat.not_lt_zero j)

theorem Cont.succ {bs : List UInt8} {k : Nat} {x : UInt8} (h : Cont bs k) (hx : bs[k]? = some x) (hb : 128 ≤ x.toNat) : Cont bs (k + 1) := by
  intro j hj
  by_cases e : j = k
  · subst e; exact ⟨x, hx, hb⟩
  · exact h j (by omega)

theorem Cont.head {b : UInt8} {r : List UInt8} {k : Nat} (h : Cont (b :: r) (k + 1)) : 128 ≤ b.toNat ∧ Cont r k := by
  constructor
  · obtain ⟨x, hx, hb⟩ := h 0 (by omega)
    simp at hx; subst hx; exact hb
  · intro j hj
    obtain ⟨x, hx, hb⟩ := h (j + 1) (by omega)
    exact ⟨x, by simpa using hx, hb⟩

theorem Cont.le {bs : List UInt8} {k : Nat} (h : Cont bs k) : k ≤ bs.length := by
  rcases Nat.lt_or_ge bs.length k with hlt | hge
  · obtain ⟨x, hx, _⟩ := h bs.length hlt
    simp at hx
  · exact hge

theorem readI_over : ∀ (k i : Nat) (bs : List UInt8) (c : UInt8), Cont bs k → i + k = 9 → bs[k]? = some c → 1 < c.toNat → readI i bs = (0, 0, 4)
  | 0, i, bs, c, _, hi, hc, h1 => by
    match bs, hc with
    | b :: r, hc => simp at hc; subst hc; rw [readI, if_pos ⟨by omega, h1⟩]
  | k + 1, i, bs, c, h, hi, hc, h1 => by
    match bs, hc, h with
    | b :: r, hc, h =>
      have hh := h.head
      have ih := readI_over k (i + 1) r c hh.2 (by omega) (by simpa using hc) h1
      rw [readI, if_neg (by omega), if_neg (by omega), ih, if_neg (by decide)]

theorem readI_short : ∀ (k i : Nat) (bs : List UInt8), Cont bs k → i + k ≤ 9 → bs.length = k → readI i bs = (0, 0, 3)
  | 0, i, bs, _, _, hl => by
    have : bs = [] := List.eq_nil_of_length_eq_zero hl
    subst this; rfl
  | k + 1, i, bs, h, hi, hl => by
    match bs, hl, h with
    | b :: r, hl, h =>
      have hh := h.head
      have ih := readI_short k (i + 1) r hh.2 (by omega) (by simpa using hl)
      rw [readI, if_neg (by omega), if_neg (by omega), ih, if_neg (by decide)]

theorem readI_done : ∀ (k i : Nat) (bs : List UInt8) (c : UInt8), Cont bs k → i + k ≤ 9 → bs[k]? = some c → c.toNat < 128 → (i + k = 9 → c.toNat ≤ 1) →
    readI i bs = (wordV (bs.take (k + 1)), k + 1, 0)
  | 0, i, bs, c, _, hi, hc, h1, h9 => by
    match bs, hc with
    | b :: r, hc =>
      simp at hc; subst hc
      rw [readI, if_neg (by omega), if_pos h1]
      simp [wordV]; omega
  | k + 1, i, bs, c, h, hi, hc, h1, h9 => by
    match bs, hc, h with
    | b :: r, hc, h =>
      have hh := h.head
      have ih := readI_done k (i + 1) r c hh.2 (by omega) (by simpa using hc) h1 (fun e => h9 (by omega))
      rw [readI, if_neg (by omega), if_neg (by omega), ih, if_pos rfl, List.take_succ_cons, wordV]

theorem readV_over {bs : List UInt8} {c : UInt8} (h : Cont bs 9) (hc : bs[9]? = some c) (h1 : 1 < c.toNat) : readV bs = (0, 0, 4) := readI_over 9 0 bs c h rfl hc h1

theorem readV_short {bs : List UInt8} {k : Nat} (h : Cont bs k) (hk : k ≤ 9) (hl : bs.length = k) : readV bs = (0, 0, 3) := readI_short k 0 bs h (by omega) hl

theorem readV_done {bs : List UInt8} {k : Nat} {c : UInt8} (h : Cont bs k) (hk : k ≤ 9) (hc : bs[k]? = some c) (h1 : c.toNat < 128) (h9 : k = 9 → c.toNat ≤ 1) :
    readV bs = (wordV (bs.take (k + 1)), k + 1, 0) := readI_done k 0 bs c h (by omega) hc h1 (fun e => h9 (by omega))

/-- What any bytes begin with. -/
theorem readV_cases (bs : List UInt8) : readV bs = (0, 0, 4) ∨ readV bs = (0, 0, 3) ∨
    ∃ k c, Cont bs k ∧ k ≤ 9 ∧ bs[k]? = some c ∧ c.toNat < 128 ∧ (k = 9 → c.toNat ≤ 1) ∧ readV bs = (wordV (bs.take (k + 1)), k + 1, 0) := by
  have go : ∀ m k, m + k = 9 → Cont bs k → readV bs = (0, 0, 4) ∨ readV bs = (0, 0, 3) ∨
      ∃ k c, Cont bs k ∧ k ≤ 9 ∧ bs[k]? = some c ∧ c.toNat < 128 ∧ (k = 9 → c.toNat ≤ 1) ∧ readV bs = (wordV (bs.take (k + 1)), k + 1, 0) := by
    intro m
    induction m with
    | zero =>
      intro k hk h
      obtain rfl : k = 9 := by omega
      rcases hx : bs[9]? with _ | c
      · have := h.le
        have hl : bs.length = 9 := by
          have := List.getElem?_eq_none_iff.1 hx
          omega
        exact .inr (.inl (readV_short h (Nat.le_refl _) hl))
      · by_cases h1 : 1 < c.toNat
        · exact .inl (readV_over h hx h1)
        · exact .inr (.inr ⟨9, c, h, Nat.le_refl _, hx, by omega, fun _ => by omega, readV_done h (Nat.le_refl _) hx (by omega) (fun _ => by omega)⟩)
    | succ m ih =>
      intro k hk h
      rcases hx : bs[k]? with _ | c
      · have := h.le
        have hl : bs.length = k := by
          have := List.getElem?_eq_none_iff.1 hx
          omega
        exact .inr (.inl (readV_short h (by omega) hl))
      · by_cases h1 : c.toNat < 128
        · exact .inr (.inr ⟨k, c, h, by omega, hx, h1, fun _ => by omega, readV_done h (by omega) hx h1 (fun _ => by omega)⟩)
        · exact ih (k + 1) (by omega) (h.succ hx (by omega))
  exact go 9 0 rfl (Cont.zero bs)

theorem wordV_take_lt {bs : List UInt8} {k : Nat} {c : UInt8} (hk : k ≤ 9) (hc : bs[k]? = some c) (h9 : k = 9 → c.toNat ≤ 1) : wordV (bs.take (k + 1)) < 18446744073709551616 := by
  have hl : (bs.take k).length = k := by
    have := (List.getElem?_eq_some_iff.1 hc).1
    rw [List.length_take]; omega
  have h1 := wordV_lt (bs.take k)
  rw [take_snoc bs k c hc, wordV_snoc, hl]
  rw [hl] at h1
  by_cases e : k = 9
  · subst e
    have := h9 rfl
    have : c.toNat % 128 * 128 ^ 9 ≤ 1 * 128 ^ 9 := Nat.mul_le_mul (by omega) (Nat.le_refl _)
    have e1 : (128 : Nat) ^ 9 = 9223372036854775808 := by decide
    rw [e1] at *
    omega
  · have h2 : 128 ^ k ≤ 128 ^ 8 := Nat.pow_le_pow_right (by decide) (by omega)
    have h3 : c.toNat % 128 * 128 ^ k ≤ 127 * 128 ^ 8 := Nat.mul_le_mul (by omega) h2
    have e1 : (128 : Nat) ^ 8 = 72057594037927936 := by decide
    rw [e1] at *
    omega

/-- What is told of any bytes: the word fits, the count is within the bytes and 10, the code is Fine, Short or Over; beside an error the rest is zero. -/
theorem readV_bd (bs : List UInt8) : (readV bs).1 < 18446744073709551616 ∧ (readV bs).2.1 ≤ bs.length ∧ (readV bs).2.1 ≤ 10 ∧ (readV bs).2.2 ≤ 4 ∧
    ((readV bs).2.2 = 0 → 1 ≤ (readV bs).2.1) ∧ ((readV bs).2.2 ≠ 0 → (readV bs).1 = 0 ∧ (readV bs).2.1 = 0) := by
  rcases readV_cases bs with h | h | ⟨k, c, hC, hk, hc, h1, h9, h⟩
  · rw [h]; simp
  · rw [h]; simp
  · rw [h]
    have := (List.getElem?_eq_some_iff.1 hc).1
    refine ⟨wordV_take_lt hk hc h9, by show k + 1 ≤ _; omega, by show k + 1 ≤ _; omega, by simp, fun _ => by show 1 ≤ k + 1; omega, fun h => absurd rfl h⟩

theorem wordV_drop_le : ∀ (l : List UInt8) (j : Nat), wordV (l.drop j) ≤ wordV l
  | l, 0 => Nat.le_refl _
  | [], j + 1 => Nat.le_refl _
  | b :: r, j + 1 => by
    have := wordV_drop_le r j
    rw [List.drop_succ_cons, wordV]; omega

theorem wordV_step (l : List UInt8) (j : Nat) (x : UInt8) (h : l[j]? = some x) : wordV (l.drop j) = x.toNat % 128 + 128 * wordV (l.drop (j + 1)) := by
  have hj := (List.getElem?_eq_some_iff.1 h).1
  rw [List.drop_eq_getElem_cons hj, wordV]
  have : l[j] = x := by rw [List.getElem?_eq_getElem hj] at h; simpa using h
  rw [this]

theorem and127 (x : UInt8) : bits BinOp.and IntKind.u8 (x.toNat : Int) 127 = ((x.toNat % 128 : Nat) : Int) := by
  have h := x.toNat_lt
  rw [u8_and _ 127 (by omega) (by omega) (by decide) (by decide)]
  have e := nat_mask7 x.toNat
  rw [Int.toNat_natCast, show ((127 : Int)).toNat = 127 from rfl, e]

theorem pow_128 (k : Nat) : 2 ^ (7 * k) = 128 ^ k := by rw [Nat.pow_mul]

/-- The step of reading: one piece more. -/
theorem read_or (l : List UInt8) (k : Nat) (x : UInt8) (hl : l.length = k) (hk : k ≤ 9) (h9 : k = 9 → x.toNat ≤ 1) :
    bits BinOp.or IntKind.u64 (wordV l : Int) (IntKind.u64.wrap (((x.toNat % 128 : Nat) : Int) * 2 ^ (7 * k))) = ((wordV (l ++ [x]) : Nat) : Int) := by
  have hx := x.toNat_lt
  have hw1 := wordV_lt l
  rw [hl] at hw1
  have hp : x.toNat % 128 * 128 ^ k < 18446744073709551616 := by
    by_cases e : k = 9
    · subst e
      have := h9 rfl
      have h2 : x.toNat % 128 * 128 ^ 9 ≤ 1 * 128 ^ 9 := Nat.mul_le_mul (by omega) (Nat.le_refl _)
      exact Nat.lt_of_le_of_lt h2 (by decide)
    · have h2 : 128 ^ k ≤ 128 ^ 8 := Nat.pow_le_pow_right (by decide) (by omega)
      exact Nat.lt_of_le_of_lt (Nat.mul_le_mul (show x.toNat % 128 ≤ 127 by omega) h2) (by decide)
  have h64 : wordV l < 18446744073709551616 := Nat.lt_of_lt_of_le hw1 (Nat.le_trans (Nat.pow_le_pow_right (by decide) hk) (by decide))
  have hor := or_low (wordV l) (x.toNat % 128) (7 * k) (by rw [pow_128]; exact hw1) (by rw [pow_128]; exact hp) h64
  have e : IntKind.u64.wrap (((x.toNat % 128 : Nat) : Int) * 2 ^ (7 * k)) = ((x.toNat % 128 * 2 ^ (7 * k) : Nat) : Int) := by
    have hq : (2 : Int) ^ (7 * k) = ((128 ^ k : Nat) : Int) := by rw [← pow_128]; simp
    rw [IntKind.wrap_u64, hq, pow_128, ← Int.natCast_mul, Int.emod_eq_of_lt (by omega) (by omega)]
  rw [e, hor, wordV_snoc, hl, pow_128]

theorem read_or' (l : List UInt8) (k : Nat) (x : UInt8) (hl : l.length = k) (hk : k ≤ 9) (h9 : k = 9 → x.toNat ≤ 1) :
    bits BinOp.or IntKind.u64 (wordV l : Int) (IntKind.u64.wrap (IntKind.u64.wrap (bits BinOp.and IntKind.u8 (x.toNat : Int) 127) * 2 ^ (7 * k))) = ((wordV (l ++ [x]) : Nat) : Int) := by
  have hx := x.toNat_lt
  have e : IntKind.u64.wrap ((x.toNat % 128 : Nat) : Int) = ((x.toNat % 128 : Nat) : Int) := by rw [IntKind.wrap_u64]; omega
  rw [and127, e, read_or l k x hl hk h9]

theorem or128 (x : Nat) : bits BinOp.or IntKind.u8 ((x : Int) % 256) 128 = ((x % 128 + 128 : Nat) : Int) := by
  have h := u8_or128_any ((x : Int) % 256) (by omega) (by omega)
  rw [h]; omega

theorem uvarint_ne (x : Nat) : uvarint x ≠ [] := by
  intro h
  have := uvarint_pos x
  rw [h] at this
  simp at this

/-- The minimal varint reads as its word, whatever stands behind it. -/
theorem readI_uvarint : ∀ (x i : Nat) (more : List UInt8), i ≤ 9 → x < 2 ^ (64 - 7 * i) → readI i (uvarint x ++ more) = (x, (uvarint x).length, 0) := by
  intro x
  induction x using Nat.strongRecOn with
  | _ x ih =>
    intro i more hi hx
    by_cases h : x < 128
    · rw [uvarint_small h, List.singleton_append, readI, toNat_u8' x (by omega), if_neg, if_pos h]
      · rfl
      · rintro ⟨rfl, h1⟩
        simp at hx
        omega
    · have hi8 : i ≤ 8 := by
        rcases Nat.lt_or_ge i 9 with h | h
        · omega
        · obtain rfl : i = 9 := by omega
          simp at hx; omega
      have hb : (x % 128 + 128).toUInt8.toNat = x % 128 + 128 := toNat_u8' _ (by omega)
      have hx' : x / 128 < 2 ^ (64 - 7 * (i + 1)) := by
        have : 2 ^ (64 - 7 * i) = 2 ^ (64 - 7 * (i + 1)) * 128 := by
          rw [show 64 - 7 * i = (64 - 7 * (i + 1)) + 7 by omega, Nat.pow_add]
        rw [this] at hx
        exact Nat.div_lt_of_lt_mul (by rw [Nat.mul_comm]; exact hx)
      have := ih (x / 128) (by omega) (i + 1) more (by omega) hx'
      rw [uvarint_big (by omega), List.cons_append, readI, hb, if_neg (by omega), if_neg (by omega), this, if_pos rfl]
      simp only [List.length_cons]
      congr 1
      omega
where toNat_u8' (x : Nat) (h : x < 256) : x.toUInt8.toNat = x := by show x % 256 = x; omega

theorem readV_uvarint (x : Nat) (more : List UInt8) (h : x < 18446744073709551616) : readV (uvarint x ++ more) = (x, (uvarint x).length, 0) :=
  readI_uvarint x 0 more (by omega) (by simpa using h)

/-- A varint is the minimal one of its word just if its last piece isn't 0, or it has one alone. -/
theorem uvarint_wordV : ∀ (k : Nat) (l : List UInt8) (c : UInt8), Cont l k → l[k]? = some c → c.toNat < 128 → l.length = k + 1 → (uvarint (wordV l) = l ↔ (k = 0 ∨ c ≠ 0)) ∧ (c ≠ 0 → 1 ≤ wordV l) ∧ (c = 0 → k = 0 → wordV l = 0)
  | 0, l, c, _, hc, h1, hl => by
    match l, hl, hc with
    | [b], _, hc =>
      simp at hc; subst hc
      have e : wordV [b] = b.toNat := by simp [wordV]; omega
      rw [e, uvarint_small h1]
      refine ⟨⟨fun _ => .inl rfl, fun _ => by simp⟩, ?_, ?_⟩
      · intro h
        rcases Nat.eq_zero_or_pos b.toNat with h0 | h0
        · exact absurd (UInt8.toNat_inj.1 (by simpa using h0)) h
        · exact h0
      · intro h _; subst h; rfl
  | k + 1, l, c, hC, hc, h1, hl => by
    match l, hl, hc, hC with
    | b :: r, hl, hc, hC =>
      have hh := hC.head
      have ih := uvarint_wordV k r c hh.2 (by simpa using hc) h1 (by simpa using hl)
      have hb := b.toNat_lt
      rw [wordV]
      refine ⟨?_, fun h => ?_, fun _ h => by omega⟩
      · by_cases h0 : wordV r = 0
        · have hc0 : c = 0 := by
            rcases Decidable.em (c = 0) with h | h
            · exact h
            · have := ih.2.1 h; omega
          rw [h0, uvarint_small (by omega)]
          constructor
          · intro h
            have := congrArg List.length h
            rw [List.length_cons, List.length_cons, List.length_nil] at this
            rw [List.length_cons] at hl
            omega
          · rintro (h | h)
            · omega
            · exact absurd hc0 h
        · have e1 : (b.toNat % 128 + 128 * wordV r) % 128 + 128 = b.toNat := by omega
          have e2 : (b.toNat % 128 + 128 * wordV r) / 128 = wordV r := by omega
          rw [uvarint_big (by omega), e1, e2]
          have e3 : b.toNat.toUInt8 = b := by simp
          rw [e3, List.cons.injEq]
          constructor
          · rintro ⟨_, h⟩
            rcases ih.1.1 h with hk | hk
            · right
              intro hc0
              exact h0 (ih.2.2 hc0 hk)
            · exact .inr hk
          · rintro (h | h)
            · omega
            · exact ⟨rfl, ih.1.2 (.inr h)⟩
      · have := ih.2.1 h
        omega

/-- All varints of any bytes, or why they end. -/
def allF : Nat → List UInt8 → List Nat × Nat
  | 0, _ => ([], 0)
  | f + 1, bs =>
    if bs = [] then ([], 0)
    else if (readV bs).2.2 ≠ 0 then ([], (readV bs).2.2)
    else if (allF f (bs.drop (readV bs).2.1)).2 ≠ 0 then ([], (allF f (bs.drop (readV bs).2.1)).2)
    else ((readV bs).1 :: (allF f (bs.drop (readV bs).2.1)).1, 0)

theorem allF_fuel : ∀ (f g : Nat) (bs : List UInt8), bs.length ≤ f → bs.length ≤ g → allF f bs = allF g bs
  | 0, g, bs, h, _ => by
    have : bs = [] := List.eq_nil_of_length_eq_zero (by omega)
    subst this
    cases g <;> simp [allF]
  | f + 1, 0, bs, _, h => by
    have : bs = [] := List.eq_nil_of_length_eq_zero (by omega)
    subst this
    simp [allF]
  | f + 1, g + 1, bs, hf, hg => by
    rw [allF, allF]
    by_cases h : bs = []
    · rw [if_pos h, if_pos h]
    · rw [if_neg h, if_neg h]
      by_cases hc : (readV bs).2.2 = 0
      · have hb := (readV_bd bs).2.2.2.2.1 hc
        have hl : 0 < bs.length := List.length_pos_iff.2 h
        have ih := allF_fuel f g (bs.drop (readV bs).2.1) (by rw [List.length_drop]; omega) (by rw [List.length_drop]; omega)
        rw [ih]
      · rw [if_pos hc, if_pos hc]

def allV (bs : List UInt8) : List Nat × Nat := allF bs.length bs

/-- Words read so far, and what the rest gives. -/
def comb (l : List Nat) (r : List Nat × Nat) : List Nat × Nat := if r.2 ≠ 0 then ([], r.2) else (l ++ r.1, 0)

theorem comb_comb (l m : List Nat) (r : List Nat × Nat) : comb l (comb m r) = comb (l ++ m) r := by
  unfold comb
  by_cases h : r.2 = 0
  · simp [h]
  · simp [h]

theorem allV_nil : allV [] = ([], 0) := rfl

theorem allF_code : ∀ (f : Nat) (bs : List UInt8), (allF f bs).2 ≠ 0 → (allF f bs).1 = []
  | 0, bs, h => by simp [allF] at h
  | f + 1, bs, h => by
    rw [allF] at h ⊢
    split
    · rfl
    · split
      · rfl
      · split
        · rfl
        · rename_i h1 h2 h3
          rw [if_neg h1, if_neg h2, if_neg h3] at h
          exact absurd rfl h

theorem comb_nil (bs : List UInt8) : comb [] (allV bs) = allV bs := by
  unfold comb
  split
  · rename_i h
    have := allF_code _ _ h
    exact Prod.ext this.symm rfl
  · rename_i h
    exact Prod.ext rfl (by simpa using (Eq.symm (by simpa using h)))

theorem allV_step {bs : List UInt8} (h : bs ≠ []) {W N : Nat} (hv : readV bs = (W, N, 0)) : allV bs = comb [W] (allV (bs.drop N)) := by
  have hl : 0 < bs.length := List.length_pos_iff.2 h
  have hb := (readV_bd bs).2.2.2.2.1 (by rw [hv])
  rw [hv] at hb
  obtain ⟨m, hm⟩ : ∃ m, bs.length = m + 1 := ⟨bs.length - 1, by omega⟩
  have e : allF m (bs.drop N) = allV (bs.drop N) := by
    unfold allV
    apply allF_fuel
    · rw [List.length_drop]; simp at hb; omega
    · exact Nat.le_refl _
  unfold allV comb
  rw [hm, allF, if_neg h, hv, if_neg (by simp), e]
  rfl

theorem allV_fail {bs : List UInt8} (h : bs ≠ []) {W N C : Nat} (hv : readV bs = (W, N, C)) (hC : C ≠ 0) : allV bs = ([], C) := by
  have hl : 0 < bs.length := List.length_pos_iff.2 h
  obtain ⟨m, hm⟩ : ∃ m, bs.length = m + 1 := ⟨bs.length - 1, by omega⟩
  unfold allV
  rw [hm, allF, if_neg h, hv, if_pos hC]

theorem comb_fail {l : List Nat} {C : Nat} (hC : C ≠ 0) : comb l ([], C) = ([], C) := by
  unfold comb
  rw [if_pos hC]

/-- Varints, one behind the other. -/
theorem allV_uvarints : ∀ (l : List Nat), (∀ x ∈ l, x < 18446744073709551616) → allV (l.flatMap uvarint) = (l, 0)
  | [], _ => rfl
  | x :: r, h => by
    have hx := h x (by simp)
    have ih := allV_uvarints r (fun y hy => h y (by simp [hy]))
    have hv := readV_uvarint x (r.flatMap uvarint) hx
    rw [List.flatMap_cons, allV_step (by simp [uvarint_ne]) hv, List.drop_left, ih]
    rfl

theorem allF_bd : ∀ (f : Nat) (bs : List UInt8), (allF f bs).2 ≤ 4 ∧ (allF f bs).1.length ≤ bs.length ∧ ∀ x ∈ (allF f bs).1, x < 18446744073709551616
  | 0, bs => by simp [allF]
  | f + 1, bs => by
    have hb := readV_bd bs
    have ih := allF_bd f (bs.drop (readV bs).2.1)
    rw [allF]
    split
    · simp
    · split
      · simp; exact hb.2.2.2.1
      · split
        · simp; exact ih.1
        · rename_i h1 h2 h3
          have h2' : (readV bs).2.2 = 0 := by simpa using h2
          have := hb.2.2.2.2.1 h2'
          have := hb.2.1
          refine ⟨by simp, ?_, ?_⟩
          · have := ih.2.1
            rw [List.length_drop] at this
            simp only [List.length_cons]
            omega
          · intro x hx
            rcases List.mem_cons.1 hx with rfl | hx
            · exact hb.1
            · exact ih.2.2 x hx

theorem cont_uvarint (x : Nat) : Cont (uvarint x) ((uvarint x).length - 1) := by
  induction x using Nat.strongRecOn with
  | _ x ih =>
    by_cases h : x < 128
    · rw [uvarint_small h]; exact Cont.zero _
    · have ih' := ih (x / 128) (by omega)
      have hp := uvarint_pos (x / 128)
      rw [uvarint_big (by omega)]
      intro j hj
      match j with
      | 0 => exact ⟨_, rfl, by show 128 ≤ (x % 128 + 128) % 256; omega⟩
      | j + 1 =>
        obtain ⟨y, hy, hb⟩ := ih' j (by simp at hj; omega)
        exact ⟨y, by simpa using hy, hb⟩

theorem readV_less (x : Nat) (h : x < 18446744073709551616) : readV ((uvarint x).take ((uvarint x).length - 1)) = (0, 0, 3) := by
  have hle := uvarint_length64 h
  refine readV_short (k := (uvarint x).length - 1) ?_ (by omega) (by rw [List.length_take]; omega)
  intro j hj
  obtain ⟨y, hy, hb⟩ := cont_uvarint x j hj
  exact ⟨y, by rw [List.getElem?_take_of_lt hj]; exact hy, hb⟩

theorem allV_less : ∀ (l : List Nat) (t : List UInt8), (∀ x ∈ l, x < 18446744073709551616) → t ≠ [] → readV t = (0, 0, 3) → allV (l.flatMap uvarint ++ t) = ([], 3)
  | [], t, _, hne, ht => by simpa using allV_fail hne ht (by decide)
  | x :: r, t, h, hne, ht => by
    have hx := h x (by simp)
    have ih := allV_less r t (fun y hy => h y (by simp [hy])) hne ht
    have hv := readV_uvarint x (r.flatMap uvarint ++ t) hx
    rw [List.flatMap_cons, List.append_assoc, allV_step (by simp [uvarint_ne]) hv, List.drop_left, ih]
    exact comb_fail (by decide)

theorem flatMap_le : ∀ (l : List Nat), (∀ x ∈ l, x < 18446744073709551616) → (l.flatMap uvarint).length ≤ 10 * l.length
  | [], _ => by simp
  | x :: r, h => by
    have := uvarint_length64 (h x (by simp))
    have := flatMap_le r (fun y hy => h y (by simp [hy]))
    rw [List.flatMap_cons, List.length_append, List.length_cons]
    omega

/-- Right tag? -/
def rightB (number wire : Int) : Bool := decide (1 ≤ number ∧ number ≤ 536870911 ∧ (wire = 0 ∨ wire = 1 ∨ wire = 2 ∨ wire = 5))

/-- The tag that any bytes begin with: number, wire type, how many bytes; the code. -/
def tagV (bs : List UInt8) : Nat × Nat × Nat × Nat :=
  if (readV bs).2.2 ≠ 0 then (0, 0, 0, (readV bs).2.2)
  else if rightB ((readV bs).1 / 8 : Nat) ((readV bs).1 % 8 : Nat) = true then ((readV bs).1 / 8, (readV bs).1 % 8, (readV bs).2.1, 0)
  else (0, 0, 0, 5)

theorem tagV_bd (bs : List UInt8) : (tagV bs).2.2.2 ≤ 5 ∧ (tagV bs).2.2.1 ≤ bs.length ∧ (tagV bs).2.2.1 ≤ 10 ∧ (tagV bs).1 ≤ 536870911 ∧ (tagV bs).2.1 ≤ 5 ∧
    ((tagV bs).2.2.2 = 0 → 1 ≤ (tagV bs).2.2.1 ∧ rightB (tagV bs).1 (tagV bs).2.1 = true) := by
  have h := readV_bd bs
  unfold tagV
  split
  · rename_i hc
    refine ⟨by show (readV bs).2.2 ≤ 5; omega, by simp, by simp, by simp, by simp, fun h0 => absurd h0 hc⟩
  · rename_i hc
    have hc : (readV bs).2.2 = 0 := by simpa using hc
    split
    · rename_i hr
      have hr' := hr
      unfold rightB at hr'
      have hd := of_decide_eq_true hr'
      refine ⟨by simp, h.2.1, h.2.2.1, ?_, ?_, fun _ => ⟨h.2.2.2.2.1 hc, hr⟩⟩
      · show (readV bs).1 / 8 ≤ _; omega
      · show (readV bs).1 % 8 ≤ _; omega
    · simp

theorem and7 (x : Nat) (h : x < 18446744073709551616) : bits BinOp.and IntKind.u64 (x : Int) 7 = (x : Int) % 8 := by
  rw [u64_and _ 7 (by omega) (by omega) (by decide) (by decide)]
  have e := nat_mask3 x
  rw [Int.toNat_natCast, show ((7 : Int)).toNat = 7 from rfl, e]; omega

theorem minimal_eq (bs : List UInt8) : (decide ((readV bs).2.2 = 0 ∧ (readV bs).2.1 = bs.length ∧ (bs.length = 1 ∨ bs.getLast? ≠ some 0))) = decide ((readV bs).2.2 = 0 ∧ (readV bs).2.1 = bs.length ∧ bs = uvarint (readV bs).1) := by
  rcases readV_cases bs with h | h | ⟨k, c, hC, hk, hc, h1, h9, h⟩
  · rw [h]; simp
  · rw [h]; simp
  · rw [h]
    by_cases hl : k + 1 = bs.length
    · have ht : bs.take (k + 1) = bs := List.take_of_length_le (by omega)
      have hu := (uvarint_wordV k bs c hC hc h1 hl.symm).1
      have hlast : bs.getLast? = some c := by rw [List.getLast?_eq_getElem?, ← hl]; exact hc
      rw [Bool.eq_iff_iff]
      simp only [decide_eq_true_eq, true_and, ht, hlast]
      constructor
      · rintro ⟨_, h⟩
        refine ⟨hl, (hu.2 ?_).symm⟩
        rcases h with h | h
        · left; omega
        · right; intro h0; exact h (by rw [h0])
      · rintro ⟨_, h⟩
        refine ⟨hl, ?_⟩
        rcases hu.1 h.symm with h | h
        · left; omega
        · right; intro h0; exact h (by simpa using h0)
    · rw [Bool.eq_iff_iff]
      simp only [decide_eq_true_eq, true_and]
      constructor
      · rintro ⟨h, _⟩; exact absurd h hl
      · rintro ⟨h, _⟩; exact absurd h hl

end Go.Proofs.Ytlmmlmmadgcmcaa
