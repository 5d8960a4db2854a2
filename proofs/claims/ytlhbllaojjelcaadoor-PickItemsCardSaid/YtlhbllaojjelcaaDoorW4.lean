/- Contracts of layer 4. -/
import Derived.Test.YtlhbllaojjelcaaDoorWA
import Derived.Test.YtlhbllaojjelcaaDoorS4
import Derived.Test.YtlhbllaojjelcaaDoorW6
import Derived.Laws.BitsAllLaws
import Derived.Deep.RegionWith

/- Contracts of layer 4: a code point's head; the next code point. -/
namespace Go.Proofs.YtlhbllaojjelcaaDoor
open Go.RowKit
set_option linter.unusedVariables false

theorem and31 : ∀ c : Nat, c < 256 → (bits BinOp.and IntKind.u8 (c : Int) 31 = ((c % 32 : Nat) : Int)) ∧ (bits BinOp.and IntKind.u8 (c : Int) 15 = ((c % 16 : Nat) : Int)) ∧ (bits BinOp.and IntKind.u8 (c : Int) 7 = ((c % 8 : Nat) : Int)) ∧ (bits BinOp.and IntKind.u8 (c : Int) 192 = ((c / 64 * 64 : Nat) : Int)) ∧ (bits BinOp.andNot IntKind.u8 (c : Int) 192 = ((c % 64 : Nat) : Int)) := by decide +kernel

theorem uHead (c : Nat) (hc : c < 256) (w : World) :
    Calls Tryd.prog 98 #[.int .u8 c] w fun e w' => e = .returned (.tuple #[.int .i64 ((headN c).1 : Nat), .int .i32 ((headN c).2 : Nat)]) ∧ w = w' := by
  obtain ⟨b1, b2, b3, _, _⟩ := and31 c hc
  by_cases h1 : (c : Int) < 128
  · have e : headN c = (1, c) := if_pos (by omega)
    rw [e]
    clear e b1 b2 b3
    go_enter Tryd.func98, Tryd.ntmps98
    go_wp2
    go_ret2
    exact ⟨rfl, rfl⟩
  · by_cases h2 : c / 32 = 6
    · have e : headN c = (2, c % 32) := by unfold headN; rw [if_neg (by omega), if_pos h2]
      have q2 : ((c : Int) / 32 == 6) = true := by simp; omega
      rw [e]
      clear e b2 b3
      go_enter Tryd.func98, Tryd.ntmps98
      go_wp2
      go_ret2
      exact ⟨rfl, rfl⟩
    · have q2 : ((c : Int) / 32 == 6) = false := by simp; omega
      by_cases h3 : c / 16 = 14
      · have e : headN c = (3, c % 16) := by unfold headN; rw [if_neg (by omega), if_neg h2, if_pos h3]
        have q3 : ((c : Int) / 16 == 14) = true := by simp; omega
        rw [e]
        clear e b1 b3
        go_enter Tryd.func98, Tryd.ntmps98
        go_wp2
        go_ret2
        exact ⟨rfl, rfl⟩
      · have q3 : ((c : Int) / 16 == 14) = false := by simp; omega
        by_cases h4 : c / 8 = 30
        · have e : headN c = (4, c % 8) := by unfold headN; rw [if_neg (by omega), if_neg h2, if_neg h3, if_pos h4]
          have q4 : ((c : Int) / 8 == 30) = true := by simp; omega
          rw [e]
          clear e b1 b2
          go_enter Tryd.func98, Tryd.ntmps98
          go_wp2
          go_ret2
          exact ⟨rfl, rfl⟩
        · have e : headN c = (0, 0) := by unfold headN; rw [if_neg (by omega), if_neg h2, if_neg h3, if_neg h4]
          have q4 : ((c : Int) / 8 == 30) = false := by simp; omega
          rw [e]
          clear e b1 b2 b3
          go_enter Tryd.func98, Tryd.ntmps98
          go_wp2
          go_ret2
          exact ⟨rfl, rfl⟩

def leastA : Value := .agg #[.int .i32 0, .int .i32 0, .int .i32 128, .int .i32 2048, .int .i32 65536]

set_option maxRecDepth 100000 in
theorem least_at (n : Nat) (h : n ≤ 4) : ∀ w : World, (Instr.index 171 (.agg #[.int .i32 0, .int .i32 0, .int .i32 128, .int .i32 2048, .int .i32 65536]) (.int .i64 (n : Nat))).run Tryd.prog w = .ok (.int .i32 (leastN n : Nat)) w := by
  rcases (show n = 0 ∨ n = 1 ∨ n = 2 ∨ n = 3 ∨ n = 4 by omega) with rfl | rfl | rfl | rfl | rfl <;> exact fun _ => by kernel_rfl

theorem uLeast (n : Nat) (h : n ≤ 4) (w : World) :
    Calls Tryd.prog 99 #[.int .i64 n] w fun e w' => e = .returned (.int .i32 (leastN n : Nat)) ∧ w = w' := by
  have hi := least_at n h
  go_enter Tryd.func99, Tryd.ntmps99
  go_wp2
  go_ret
  exact ⟨rfl, rfl⟩

theorem run_or_i32 (r x : Nat) (hr : r < 32768) (hx : x < 64) : bits BinOp.or IntKind.i32 ((r : Int) * 64) (x : Int) = ((r * 64 + x : Nat) : Int) := by
  have e : ((r : Int) * 64) = ((r * 64 : Nat) : Int) := by omega
  have ho : r * 64 ||| x = r * 64 + x := nat_join 6 _ _ (by omega) (by omega)
  rw [e]
  show IntKind.i32.wrap ((BitVec.ofInt 32 ((r * 64 : Nat) : Int) ||| BitVec.ofInt 32 (x : Int)).toNat : Int) = _
  rw [BitVec.toNat_or, ofInt_u32 _ (by omega), ofInt_u32 _ (by omega), ho, IntKind.wrap_i32]
  omega

theorem tail_yes (y : Nat) (h : y / 64 = 2) : (((y : Nat) : Int) / 64 * 64 != 128) = false := by
  have : ((y : Nat) : Int) / 64 = 2 := by omega
  rw [this]; rfl

theorem tail_no (y : Nat) (h : ¬ y / 64 = 2) : (((y : Nat) : Int) / 64 * 64 != 128) = true := by
  simp
  omega

set_option maxRecDepth 100000 in
set_option maxHeartbeats 2000000 in
theorem uNext {A : Option Addr} {n c : Nat} {bs : List UInt8} {w : World} (hb : BytesAt w A n c bs) :
    Calls Tryd.prog 97 #[.slice A n c] w fun e w' => e = .returned (.int .i64 (nextU bs : Nat)) ∧ w = w' := by
  have hmax := Reads.max hb
  have hcap := Reads.cap hb
  have hl := hb.length
  unfold maxLen at hmax
  cases bs with
  | nil =>
    have h0 : n = 0 := by simpa using hl.symm
    subst h0
    go_enter Tryd.func97, Tryd.ntmps97
    go_wp2
    go_ret
    exact ⟨rfl, rfl⟩
  | cons b t =>
    have hn : 0 < n := by simp at hl; omega
    obtain ⟨bb, off, x, rfl, hx, hcell⟩ := hb.byte hn
    have hxb : x = b := by simpa using hx.symm
    subst hxb
    have hlt : n = t.length + 1 := by simpa using hl.symm
    rcases hh : headN x.toNat with ⟨m, r⟩
    have hbd := headN_bd x.toNat x.toNat_lt
    have hcons := nextU_cons x t
    rw [hh] at hbd hcons
    obtain ⟨hm4, hr128, hpow⟩ := hbd
    simp only at hm4 hr128 hpow hcons
    have hc0 : w.cell? ⟨bb, off, none⟩ = some (.int .u8 (x.toNat : Int)) := hcell
    have q0 : ((n : Int) == 0) = false := by simp; omega
    have Hc := Lib.hid hcons
    have Hh := Lib.hid hh
    have hcall : ∀ w0 : World, Calls Tryd.prog 98 #[.int .u8 (x.toNat : Int)] w0 fun e w' => e = .returned (.tuple #[.int .i64 (m : Nat), .int .i32 (r : Nat)]) ∧ w0 = w' := by
      intro w0
      have := uHead x.toNat x.toNat_lt w0
      rwa [hh] at this
    clear hcons hh hcell hx hl
    by_cases hm0 : m = 0 ∨ n < m
    · have fin : nextU (x :: t) = 0 := by rw [Hc.out, if_pos (by omega)]
      rw [fin]
      clear fin
      have qq : ((m : Int) == 0) = true ∨ ((m : Int) == 0) = false ∧ (n : Int) < m := by
        by_cases h : m = 0
        · left; simp [h]
        · right; simp [h]; omega
      clear hm0
      rcases qq with q | ⟨q, q2⟩
      · go_enter Tryd.func97, Tryd.ntmps97
        go_wp2_with (go_at_call 98; refine (hcall _).mono ?_; rintro e w1 ⟨rfl, rfl⟩)
        go_ret
        exact ⟨rfl, rfl⟩
      · go_enter Tryd.func97, Tryd.ntmps97
        go_wp2_with (go_at_call 98; refine (hcall _).mono ?_; rintro e w1 ⟨rfl, rfl⟩)
        go_ret
        exact ⟨rfl, rfl⟩
    · have q : ((m : Int) == 0) = false := by simp; omega
      have q2 : ¬ (n : Int) < m := by omega
      have HM := Lib.hid (show ¬ (m = 0 ∨ n < m) from hm0)
      by_cases hc1 : c = 1
      · subst hc1
        have HT := Lib.hid hlt
        clear hlt
        have hmc : (m : Int) ≤ 1 := by omega
        have hm1 : (1 : Int) ≤ m := by omega
        go_enter Tryd.func97, Tryd.ntmps97
        go_wp2_with (go_at_call 98; refine (hcall _).mono ?_; rintro e w1 ⟨rfl, rfl⟩)
        go_loop [4, 29] (fun u v => ∃ j : Nat, j ≤ m - 1 ∧ u = .int .i32 (joinN r (t.take j) : Nat) ∧ v = .int .i64 (j : Nat) ∧ (t.take j).all tailB = true) (fun _ v => m - (intOf v).toNat)
        case atStart => exact ⟨0, by omega, rfl, rfl, rfl⟩
        case round =>
          obtain ⟨j, hj, rfl, rfl, hall⟩ := hrel
          have HA := Lib.hid hall
          clear hall
          by_cases hjm : (j : Int) < (m : Int) - 1
          · exfalso; omega
          · have hjm1 : j = m - 1 := by omega
            have hall := HA.out
            have hfin : nextU (x :: t) = if pointB m (joinN r (t.take j)) = true then m else 0 := by
              rw [Hc.out, if_neg (by have := HM.out; have := HT.out; omega)]
              rw [hjm1] at hall ⊢
              by_cases hp : pointB m (joinN r (t.take (m - 1))) = true
              · rw [if_pos ⟨hall, hp⟩, if_pos hp]
              · rw [if_neg (fun h => hp h.2), if_neg hp]
            have hR : joinN r (t.take j) < 2097152 := by
              have h1 := joinN_lt (t.take j) r
              have hlen : (t.take j).length ≤ m - 1 := by rw [List.length_take]; omega
              have h2 : (r + 1) * 64 ^ (t.take j).length ≤ (r + 1) * 64 ^ (m - 1) := Nat.mul_le_mul_left _ (Nat.pow_le_pow_right (by decide) hlen)
              omega
            generalize joinN r (t.take j) = R at hR hfin
            have hmj : ¬ (j : Int) < ((m - 1 : Nat) : Int) := by omega
            have Hpow := Lib.hid hpow
            have Hjm := Lib.hid hjm1
            clear hpow hall hjm hjm1
            have hL : leastN m ≤ 65536 := by unfold leastN; repeat' split
                                             all_goals omega
            by_cases a1 : (R : Int) < (leastN m : Nat)
            · have hp : pointB m R = false := by unfold pointB; simp; omega
              rw [hp] at hfin
              have Hf := Lib.hid hfin
              clear hfin hp
              go_wp2_with (go_at_call 99; refine (uLeast m hm4 _).mono ?_; rintro e w1 ⟨rfl, rfl⟩)
              go_ret
              rw [Hf.out]
              exact ⟨rfl, rfl⟩
            · by_cases a2 : (1114111 : Int) < R
              · have hp : pointB m R = false := by unfold pointB; simp; omega
                rw [hp] at hfin
                have Hf := Lib.hid hfin
                clear hfin hp
                go_wp2_with (go_at_call 99; refine (uLeast m hm4 _).mono ?_; rintro e w1 ⟨rfl, rfl⟩)
                go_ret
                rw [Hf.out]
                exact ⟨rfl, rfl⟩
              · by_cases a3 : (55296 : Int) ≤ R
                · by_cases a4 : (R : Int) ≤ 57343
                  · have hp : pointB m R = false := by unfold pointB; simp; omega
                    rw [hp] at hfin
                    have Hf := Lib.hid hfin
                    clear hfin hp
                    go_wp2_with (go_at_call 99; refine (uLeast m hm4 _).mono ?_; rintro e w1 ⟨rfl, rfl⟩)
                    go_ret
                    rw [Hf.out]
                    exact ⟨rfl, rfl⟩
                  · have hp : pointB m R = true := (point_iff _ _).2 (by omega)
                    have hq : decide ((R : Int) ≤ 57343) = false := decide_eq_false a4
                    have hq3 : decide ((55296 : Int) ≤ R) = true := decide_eq_true a3
                    have HA3 := Lib.hid a3
                    rw [hp] at hfin
                    have Hf := Lib.hid hfin
                    clear hfin hp a4 a3
                    go_wp2_with (go_at_call 99; refine (uLeast m hm4 _).mono ?_; rintro e w1 ⟨rfl, rfl⟩)
                    go_ret
                    rw [Hf.out]
                    exact ⟨rfl, rfl⟩
                · have hp : pointB m R = true := (point_iff _ _).2 (by omega)
                  have hq3 : decide ((55296 : Int) ≤ R) = false := decide_eq_false a3
                  rw [hp] at hfin
                  have Hf := Lib.hid hfin
                  clear hfin hp a3
                  go_wp2_with (go_at_call 99; refine (uLeast m hm4 _).mono ?_; rintro e w1 ⟨rfl, rfl⟩)
                  go_ret
                  rw [Hf.out]
                  exact ⟨rfl, rfl⟩
      · have HT := Lib.hid hlt
        clear hlt
        have hmc : (m : Int) ≤ c := by omega
        have hm1 : (1 : Int) ≤ m := by omega
        go_enter Tryd.func97, Tryd.ntmps97
        go_wp2_with (go_at_call 98; refine (hcall _).mono ?_; rintro e w1 ⟨rfl, rfl⟩)
        go_loop [4, 29] (fun u v => ∃ j : Nat, j ≤ m - 1 ∧ u = .int .i32 (joinN r (t.take j) : Nat) ∧ v = .int .i64 (j : Nat) ∧ (t.take j).all tailB = true) (fun _ v => m - (intOf v).toNat)
        case atStart => exact ⟨0, by omega, rfl, rfl, rfl⟩
        case round =>
          obtain ⟨j, hj, rfl, rfl, hall⟩ := hrel
          have HA := Lib.hid hall
          clear hall
          by_cases hjm : (j : Int) < (m : Int) - 1
          · have hjn : j + 1 < n := by omega
            obtain ⟨bb2, off2, y, e2, hy, hcell⟩ := hb.byte hjn
            obtain ⟨rfl, rfl⟩ : bb = bb2 ∧ off = off2 := by simpa using e2
            have hcy : w.cell? ⟨bb, off + 1 + j, none⟩ = some (.int .u8 (y.toNat : Int)) := by rw [show off + 1 + j = off + (j + 1) by omega]; exact hcell
            have hyt : t[j]? = some y := by simpa using hy
            have hs := List.take_add_one (l := t) (i := j)
            rw [hyt] at hs
            have hy256 := y.toNat_lt
            obtain ⟨_, _, _, b4, b5⟩ := and31 y.toNat y.toNat_lt
            have hR : joinN r (t.take j) < 32768 := by
              have h1 := joinN_lt (t.take j) r
              have hlen : (t.take j).length = j := by have := HT.out; rw [List.length_take]; omega
              rw [hlen] at h1
              have h2 : (r + 1) * 64 ^ j * 64 ≤ (r + 1) * 64 ^ (m - 1) := by
                rw [Nat.mul_assoc, ← Nat.pow_succ]
                exact Nat.mul_le_mul_left _ (Nat.pow_le_pow_right (by decide) (by omega))
              omega
            generalize hRR : joinN r (t.take j) = R at hR
            have Hs := Lib.hid hs
            have HR := Lib.hid hRR
            clear hs hRR hcell hy hyt
            have Hpow := Lib.hid hpow
            clear hpow
            by_cases ht : y.toNat / 64 = 2
            · have htest := tail_yes y.toNat ht
              have hor := run_or_i32 R (y.toNat % 64) hR (by omega)
              go_wp2
              go_round
              case rel =>
                refine ⟨j + 1, by omega, ?_, by go_num, ?_⟩
                · rw [Hs.out]
                  simp only [Option.toList]
                  rw [joinN_snoc, HR.out]
                  exact congrArg (Value.int .i32) (by omega)
                · rw [Hs.out]
                  simp only [Option.toList, List.all_append, HA.out, List.all_cons, List.all_nil, Bool.true_and, Bool.and_true]
                  exact decide_eq_true ht
              case measure => simp [intOf]; omega
            · have htest := tail_no y.toNat ht
              have fin : nextU (x :: t) = 0 := by
                rw [Hc.out, if_neg (by have := HM.out; have := HT.out; omega), if_neg]
                rintro ⟨h, _⟩
                have hall := List.all_eq_true.1 h y
                have hmem : y ∈ t.take (m - 1) := by
                  have hj1 : t.take (j + 1) = (t.take (m - 1)).take (j + 1) := by rw [List.take_take, Nat.min_eq_left (by omega)]
                  have : y ∈ t.take (j + 1) := by rw [Hs.out]; simp
                  rw [hj1] at this
                  exact List.mem_of_mem_take this
                exact ht (of_decide_eq_true (hall hmem))
              have Hf := Lib.hid fin
              clear fin ht
              go_wp2
              go_ret
              rw [Hf.out]
              exact ⟨rfl, rfl⟩
          · have hjm1 : j = m - 1 := by omega
            have hall := HA.out
            have hfin : nextU (x :: t) = if pointB m (joinN r (t.take j)) = true then m else 0 := by
              rw [Hc.out, if_neg (by have := HM.out; have := HT.out; omega)]
              rw [hjm1] at hall ⊢
              by_cases hp : pointB m (joinN r (t.take (m - 1))) = true
              · rw [if_pos ⟨hall, hp⟩, if_pos hp]
              · rw [if_neg (fun h => hp h.2), if_neg hp]
            have hR : joinN r (t.take j) < 2097152 := by
              have h1 := joinN_lt (t.take j) r
              have hlen : (t.take j).length ≤ m - 1 := by rw [List.length_take]; omega
              have h2 : (r + 1) * 64 ^ (t.take j).length ≤ (r + 1) * 64 ^ (m - 1) := Nat.mul_le_mul_left _ (Nat.pow_le_pow_right (by decide) hlen)
              omega
            generalize joinN r (t.take j) = R at hR hfin
            have hmj : ¬ (j : Int) < ((m - 1 : Nat) : Int) := by omega
            have Hpow := Lib.hid hpow
            have Hjm := Lib.hid hjm1
            clear hpow hall hjm hjm1
            have hL : leastN m ≤ 65536 := by unfold leastN; repeat' split
                                             all_goals omega
            by_cases a1 : (R : Int) < (leastN m : Nat)
            · have hp : pointB m R = false := by unfold pointB; simp; omega
              rw [hp] at hfin
              have Hf := Lib.hid hfin
              clear hfin hp
              go_wp2_with (go_at_call 99; refine (uLeast m hm4 _).mono ?_; rintro e w1 ⟨rfl, rfl⟩)
              go_ret
              rw [Hf.out]
              exact ⟨rfl, rfl⟩
            · by_cases a2 : (1114111 : Int) < R
              · have hp : pointB m R = false := by unfold pointB; simp; omega
                rw [hp] at hfin
                have Hf := Lib.hid hfin
                clear hfin hp
                go_wp2_with (go_at_call 99; refine (uLeast m hm4 _).mono ?_; rintro e w1 ⟨rfl, rfl⟩)
                go_ret
                rw [Hf.out]
                exact ⟨rfl, rfl⟩
              · by_cases a3 : (55296 : Int) ≤ R
                · by_cases a4 : (R : Int) ≤ 57343
                  · have hp : pointB m R = false := by unfold pointB; simp; omega
                    rw [hp] at hfin
                    have Hf := Lib.hid hfin
                    clear hfin hp
                    go_wp2_with (go_at_call 99; refine (uLeast m hm4 _).mono ?_; rintro e w1 ⟨rfl, rfl⟩)
                    go_ret
                    rw [Hf.out]
                    exact ⟨rfl, rfl⟩
                  · have hp : pointB m R = true := (point_iff _ _).2 (by omega)
                    have hq : decide ((R : Int) ≤ 57343) = false := decide_eq_false a4
                    have hq3 : decide ((55296 : Int) ≤ R) = true := decide_eq_true a3
                    have HA3 := Lib.hid a3
                    rw [hp] at hfin
                    have Hf := Lib.hid hfin
                    clear hfin hp a4 a3
                    go_wp2_with (go_at_call 99; refine (uLeast m hm4 _).mono ?_; rintro e w1 ⟨rfl, rfl⟩)
                    go_ret
                    rw [Hf.out]
                    exact ⟨rfl, rfl⟩
                · have hp : pointB m R = true := (point_iff _ _).2 (by omega)
                  have hq3 : decide ((55296 : Int) ≤ R) = false := decide_eq_false a3
                  rw [hp] at hfin
                  have Hf := Lib.hid hfin
                  clear hfin hp a3
                  go_wp2_with (go_at_call 99; refine (uLeast m hm4 _).mono ?_; rintro e w1 ⟨rfl, rfl⟩)
                  go_ret
                  rw [Hf.out]
                  exact ⟨rfl, rfl⟩

end Go.Proofs.YtlhbllaojjelcaaDoor

/- Contracts of layer 4: the walk over code points; a code point's bytes. -/
namespace Go.Proofs.YtlhbllaojjelcaaDoor
open Go.RowKit
set_option linter.unusedVariables false

theorem ret_ii {a a' b b' : Int} (h1 : a = a') (h2 : b = b') : Ending.returned (.tuple #[.int .i64 a, .int .i64 b]) = .returned (.tuple #[.int .i64 a', .int .i64 b']) := by rw [h1, h2]

/-- The walk, so far: at p, with k code points behind it. -/
def Walked (bs : List UInt8) (room p k : Nat) : Prop :=
  p ≤ bs.length ∧ p ≤ room ∧ k ≤ p ∧ walkV bs room = (p + (walkV (bs.drop p) (room - p)).1, k + (walkV (bs.drop p) (room - p)).2)

theorem Walked.zero (bs : List UInt8) (room : Nat) : Walked bs room 0 0 := ⟨Nat.zero_le _, Nat.zero_le _, Nat.le_refl _, by simp⟩

theorem Walked.stop {bs : List UInt8} {room p k : Nat} (h : Walked bs room p k) (hs : nextU (bs.drop p) = 0 ∨ room < p + nextU (bs.drop p)) : walkV bs room = (p, k) := by
  rw [h.2.2.2, walkV_stop (bs := bs.drop p) (room := room - p) (by have := h.2.1; omega)]
  rfl

theorem Walked.step {bs : List UInt8} {room p k : Nat} (h : Walked bs room p k) (hs : ¬ (nextU (bs.drop p) = 0 ∨ room < p + nextU (bs.drop p))) : Walked bs room (p + nextU (bs.drop p)) (k + 1) := by
  have hl := nextU_le (bs.drop p)
  rw [List.length_drop] at hl
  obtain ⟨h1, h2, h3, h4⟩ := h
  refine ⟨by omega, by omega, by omega, ?_⟩
  rw [h4, walkV_step (bs := bs.drop p) (room := room - p) (by omega), List.drop_drop, Nat.sub_sub]
  simp only [Prod.mk.injEq]
  omega

/-- As many bytes as have room. -/
theorem uWalk {A : Option Addr} {n c : Nat} {bs : List UInt8} {w : World} {room : Int} (hb : BytesAt w A n c bs) (hr : -9223372036854775808 ≤ room ∧ room < 9223372036854775808) :
    Calls Tryd.prog 94 #[.slice A n c, .int .i64 room] w fun e w' => e = .returned (.tuple #[.int .i64 ((walkV bs room.toNat).1 : Nat), .int .i64 ((walkV bs room.toNat).2 : Nat)]) ∧ w = w' := by
  have hl := hb.length
  have hmax := Reads.max hb
  have hcap := Reads.cap hb
  unfold maxLen at hmax
  go_enter Tryd.func94, Tryd.ntmps94
  go_wp2
  go_loop [6, 7] (fun u v => ∃ p k : Nat, u = .int .i64 (p : Nat) ∧ v = .int .i64 (k : Nat) ∧ Walked bs room.toNat p k) (fun u _ => n - (intOf u).toNat)
  case atStart => exact ⟨0, 0, rfl, rfl, Walked.zero _ _⟩
  case round =>
    obtain ⟨p, k, rfl, rfl, hW⟩ := hrel
    obtain ⟨A2, hcut, hr2⟩ := cut_from elemB hb .i64 (l := p) (by have := hW.1; omega)
    have hb2 : BytesAt w A2 (n - p) (c - p) (bs.drop p) := by
      have h := hr2
      simp only [Nat.mul_one, ← List.map_drop] at h
      exact h
    have hpn : p ≤ n := by have := hW.1; omega
    have hkp := hW.2.2.1
    have hnl := nextU_le (bs.drop p)
    rw [List.length_drop, hl] at hnl
    obtain ⟨hnl1, hnl2⟩ := hnl
    have hst := hW.stop
    have hsp := hW.step
    have HW := Lib.hid hW
    clear hr2 hW
    generalize hN : nextU (bs.drop p) = N at hnl1 hnl2 hst hsp
    have hcall : ∀ w0, w0 = w → Calls Tryd.prog 97 #[.slice A2 (n - p) (c - p)] w0 fun e w' => e = .returned (.int .i64 (N : Nat)) ∧ w0 = w' := by
      intro w0 h
      subst h
      have := uNext hb2
      rwa [hN] at this
    by_cases h0 : N = 0
    · have q : ((N : Int) == 0) = true := by simp; omega
      have hf := hst (.inl h0)
      have Hf := Lib.hid hf
      clear hst hsp hf h0 hN hl
      go_wp2_with (go_at_call 97; refine (hcall _ rfl).mono ?_; rintro e w1 ⟨rfl, rfl⟩)
      go_ret2
      rw [Hf.out]
      exact ⟨rfl, rfl⟩
    · have q : ((N : Int) == 0) = false := by simp; omega
      by_cases h1 : room < (p : Int) + N
      · have hf := hst (.inr (by omega))
        have Hf := Lib.hid hf
        clear hst hsp hf h0 hN hl
        go_wp2_with (go_at_call 97; refine (hcall _ rfl).mono ?_; rintro e w1 ⟨rfl, rfl⟩)
        go_ret2
        rw [Hf.out]
        exact ⟨rfl, rfl⟩
      · have hs := hsp (by omega)
        have Hs := Lib.hid hs
        clear hst hsp hs hN hl
        go_wp2_with (go_at_call 97; refine (hcall _ rfl).mono ?_; rintro e w1 ⟨rfl, rfl⟩)
        go_round
        case rel => exact ⟨p + N, k + 1, by go_num, by go_num, Hs.out⟩
        case measure => simp [intOf]; omega

theorem uFirst {A : Option Addr} {n c : Nat} {bs : List UInt8} {w : World} (hb : BytesAt w A n c bs) :
    Calls Tryd.prog 88 #[.slice A n c] w fun e w' => e = .returned (.int .i64 ((walkV bs bs.length).1 : Nat)) ∧ w = w' := by
  have hl := hb.length
  have hmax := Reads.max hb
  have hcap := Reads.cap hb
  unfold maxLen at hmax
  have hw := uWalk (room := (n : Int)) hb (by omega)
  rw [show ((n : Int)).toNat = bs.length from hl.symm] at hw
  clear hl
  go_enter Tryd.func88, Tryd.ntmps88
  go_wp2_with (go_at_call 94; refine hw.mono ?_; rintro e w1 ⟨rfl, rfl⟩)
  go_ret
  exact ⟨rfl, rfl⟩

theorem uRight {A : Option Addr} {n c : Nat} {bs : List UInt8} {w : World} (hb : BytesAt w A n c bs) :
    Calls Tryd.prog 81 #[.slice A n c] w fun e w' => e = .returned (.bool (rightT bs)) ∧ w = w' := by
  have hl := hb.length
  have hr : rightT bs = (((walkV bs bs.length).1 : Int) == (n : Int)) := by
    unfold rightT
    rw [Bool.eq_iff_iff]
    simp
    omega
  rw [hr]
  clear hr hl
  go_enter Tryd.func81, Tryd.ntmps81
  go_wp2_with (go_at_call 88; refine (uFirst hb).mono ?_; rintro e w1 ⟨rfl, rfl⟩)
  go_ret
  exact ⟨rfl, rfl⟩

/-- A text, cut. -/
def cutT (bs : List UInt8) (room : Int) : List UInt8 := bs.take (walkV bs room.toNat).1

end Go.Proofs.YtlhbllaojjelcaaDoor

/- Contracts of layer 4's reference: a code point's bytes. -/
namespace Go.Proofs.YtlhbllaojjelcaaDoor
open Go.RowKit
set_option linter.unusedVariables false

end Go.Proofs.YtlhbllaojjelcaaDoor

/- Contracts of layer 4's reference: the next code point; the first place that isn't right. -/
namespace Go.Proofs.YtlhbllaojjelcaaDoor
open Go.RowKit
set_option linter.unusedVariables false

/-- The head's bits, as the reference takes them. -/
def headR (n : Nat) (b : Nat) : Nat := if n = 2 then b % 32 else if n = 3 then b % 16 else if n = 4 then b % 8 else b

theorem tryN_cons (n : Nat) (b : UInt8) (t : List UInt8) : tryN n (b :: t) = joinN (headR n b.toNat) (t.take (n - 1)) := rfl

theorem list_yes {xs ys : List UInt8} (h : xs = ys) : (xs == ys) = true := by simpa using h

theorem list_no {xs ys : List UInt8} (h : xs ≠ ys) : (xs == ys) = false := by simpa using h

end Go.Proofs.YtlhbllaojjelcaaDoor

/- The contract of layer 4's reference: the first place that isn't right. -/
namespace Go.Proofs.YtlhbllaojjelcaaDoor
open Go.RowKit
set_option linter.unusedVariables false

end Go.Proofs.YtlhbllaojjelcaaDoor
