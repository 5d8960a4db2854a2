/- Contracts of layers 1 to 3. -/
import Derived.Test.YtpicpebolghcfaaGreatDoorChecked
import Derived.Test.YtpicpebolghcfaaGreatDoorQjSA
import Derived.Test.YtpicpebolghcfaaGreatDoorQjLib
import Derived.WalkKit
import Derived.WalkSpells
import Derived.WalkLawsBesides
import Derived.BigQuiet
import Derived.Deep.QuietTactic
import Derived.Deep.RegionLaw

/- Contracts of the functions of layer 1 that only reckon: package bits and its reference. -/
namespace Go.Proofs.YtpicpebolghcfaaGreatDoor
open Go.RowKit
set_option linter.unusedVariables false

theorem low32 (n : Int) (w : World) (h0 : 0 ≤ n) (h1 : n < 18446744073709551616) :
    Calls Tryz.prog 112 #[.int .u64 n] w fun e w' => e = .returned (.int .u32 (n % 4294967296)) ∧ w = w' := by
  go_enter Tryz.func112, Tryz.ntmps112
  go_wp2
  go_ret
  exact ⟨rfl, rfl⟩

theorem sign32 (n : Int) (w : World) (h0 : 0 ≤ n) (h1 : n < 18446744073709551616) :
    Calls Tryz.prog 111 #[.int .u64 n] w fun e w' => e = .returned (.int .i32 (sign32I n)) ∧ w = w' := by
  go_enter Tryz.func111, Tryz.ntmps111
  go_wp2
  go_ret
  exact ⟨ret_int (sign32I_wrap n), rfl⟩

theorem sign32R (n : Int) (w : World) (h0 : 0 ≤ n) (h1 : n < 18446744073709551616) :
    Calls Tryz.prog 84 #[.int .u64 n] w fun e w' => e = .returned (.int .i64 (sign32I n)) ∧ w = w' := by
  go_enter Tryz.func84, Tryz.ntmps84
  go_wp2
  · go_ret
    exact ⟨ret_int (by unfold sign32I; rw [if_pos ‹_›]), rfl⟩
  · go_ret
    exact ⟨ret_int (by unfold sign32I; rw [if_neg (by omega)]), rfl⟩

theorem wide32 (n : Int) (w : World) (h0 : -2147483648 ≤ n) (h1 : n < 2147483648) :
    Calls Tryz.prog 110 #[.int .i32 n] w fun e w' => e = .returned (.int .u64 (wideI n)) ∧ w = w' := by
  go_enter Tryz.func110, Tryz.ntmps110
  go_wp2
  go_ret
  exact ⟨ret_int (wideI_wrap n (by omega) (by omega)), rfl⟩

theorem wideR (n : Int) (w : World) (h0 : -9223372036854775808 ≤ n) (h1 : n < 9223372036854775808) :
    Calls Tryz.prog 83 #[.int .i64 n] w fun e w' => e = .returned (.int .u64 (wideI n)) ∧ w = w' := by
  go_enter Tryz.func83, Tryz.ntmps83
  go_wp2
  · go_ret
    exact ⟨ret_int (by unfold wideI; rw [if_pos ‹_›]), rfl⟩
  · go_ret
    exact ⟨ret_int (by unfold wideI; rw [if_neg (by omega)]; omega), rfl⟩

end Go.Proofs.YtpicpebolghcfaaGreatDoor

/- Contracts of layer 1's functions that read or make memory. -/
namespace Go.Proofs.YtpicpebolghcfaaGreatDoor
open Go.RowKit
set_option linter.unusedVariables false

theorem elemB : Elem Tryz.prog 24 5 1 1 := Elem.mk' (z := .int .u8 0) Tryz.underlying24 (by kernel_rfl) rfl (by omega)

theorem same {A B : Option Addr} {n c m d : Nat} {xs ys : List UInt8} {w : World} (ha : BytesAt w A n c xs) (hb : BytesAt w B m d ys) :
    Calls Tryz.prog 22 #[.slice A n c, .slice B m d] w fun e w' => e = .returned (.bool (decide (xs = ys))) ∧ w = w' := by
  have c1 := ha.convert (P := Tryz.prog) 24 5 9 Tryz.underlying24 Tryz.underlying5 Tryz.underlying9
  have c2 := hb.convert (P := Tryz.prog) 24 5 9 Tryz.underlying24 Tryz.underlying5 Tryz.underlying9
  go_enter Tryz.func22, Tryz.ntmps22
  go_wp2
  go_ret
  exact ⟨ret_bool (by rw [Bool.eq_iff_iff]; simp), rfl⟩

theorem clone {A : Option Addr} {n c : Nat} {bs : List UInt8} {w : World} (ha : BytesAt w A n c bs) (hn : n ≤ 100000000000000) :
    Calls Tryz.prog 50 #[.slice A n c] w fun e w' => ∃ A' c', e = .returned (.slice A' n c') ∧ Own w w' 5 1 A' n c' (bs.map bv) := by
  have hnil := Lib.run_eql_slice_nil (P := Tryz.prog) w 24 5 A n c 0 0 Tryz.underlying24
  rcases A with _ | ad
  · have h0 : n = 0 := by
      rcases Nat.eq_zero_or_pos n with h | h
      · exact h
      · obtain ⟨b, off, e, _⟩ := Reads.at_ ha h; cases e
    subst h0
    have hbs : bs = [] := List.eq_nil_of_length_eq_zero ha.length
    subst hbs
    go_enter Tryz.func50, Tryz.ntmps50
    go_wp2
    go_ret
    exact ⟨_, _, rfl, Own.nil (Ext.refl _) 5 1⟩
  · go_enter Tryz.func50, Tryz.ntmps50
    go_wp2_with (at_builtin; refine wpList_more elemB rfl (.tmp 5) (.tmp 6) rfl rfl (Own.empty (Ext.refl _) 5 1) rfl (ha.ext ((Ext.refl _).alloc _)) (bv_one _) (by omega) (by unfold maxLen; omega) ?_; intro A' c' w' hown _)
    go_ret
    exact ⟨_, _, ret_slice (by simp), by simpa using hown⟩

end Go.Proofs.YtpicpebolghcfaaGreatDoor

/- Contracts of layer 1: the word of bytes. -/
namespace Go.Proofs.YtpicpebolghcfaaGreatDoor
open Go.RowKit
set_option linter.unusedVariables false

theorem word {A : Option Addr} {n c : Nat} {bs : List UInt8} {w : World} (ha : BytesAt w A n c bs) :
    Calls Tryz.prog 95 #[.slice A n c] w fun e w' => e = .returned (.int .u64 (wordN (bs.take 8))) ∧ w = w' := by
  have hl := ha.length
  have hmax := Reads.max ha
  have hcap := Reads.cap ha
  unfold maxLen at hmax
  obtain ⟨m, hm⟩ : ∃ m : Nat, m = min n 8 := ⟨_, rfl⟩
  have hmn : ∀ ts t (W : World), (Builtin.min_ ts t #[.int .i64 (n : Int), .int .i64 8]).run Tryz.prog W = .ok (.int .i64 (m : Int)) W := by
    intro ts t W; rw [run_min_i]; congr 2; omega
  have hle : m ≤ n := by omega
  have h8 : m ≤ 8 := by omega
  have ht : bs.take 8 = bs.take m := by
    rw [hm, ← hl]
    rcases Nat.le_total bs.length 8 with h | h
    · rw [Nat.min_eq_left h, List.take_of_length_le h, List.take_of_length_le (Nat.le_refl _)]
    · rw [Nat.min_eq_right h]
  obtain ⟨A', hcut, hr⟩ := cut_to elemB ha .i64 hle
  have hr' : BytesAt w A' m c (bs.take m) := by simpa [BytesAt, List.map_take] using hr
  rw [ht]
  clear hm ht
  go_enter Tryz.func95, Tryz.ntmps95
  go_wp2
  go_loop [3, 4, 5, 12] (fun v _ _ i => ∃ k : Nat, k ≤ m ∧ i = .int .i64 k ∧ v = .int .u64 (wordN (bs.take k) : Nat)) (fun _ _ _ i => m - (intOf i).toNat)
  case atStart => exact ⟨0, Nat.zero_le _, rfl, by simp [wordN]⟩
  case round =>
    obtain ⟨k, hk, rfl, rfl⟩ := hrel
    by_cases hlt : k < m
    · obtain ⟨b, off, x, rfl, hx, hcell⟩ := hr'.byte hlt
      have hx' : bs[k]? = some x := by rwa [List.getElem?_take_of_lt hlt] at hx
      have hsn := take_snoc bs k x hx'
      have hlk : (bs.take k).length = k := by rw [List.length_take]; omega
      have hor := word_or (bs.take k) k x hlk (by omega)
      rw [← hsn] at hor
      have H := Lib.hid hor
      clear hor hsn hx hx' hlk hcut hmn hr hr'
      go_wp2
      go_round
      case rel => exact ⟨k + 1, by omega, by go_num, by rw [H.out]⟩
      case measure => simp [intOf]; omega
    · have hkm : k = m := by omega
      subst hkm
      go_wp2
      go_ret
      exact ⟨rfl, rfl⟩

theorem wordR {A : Option Addr} {n c : Nat} {bs : List UInt8} {w : World} (ha : BytesAt w A n c bs) :
    Calls Tryz.prog 69 #[.slice A n c] w fun e w' => e = .returned (.int .u64 (wordN (bs.take 8))) ∧ w = w' := by
  have hl := ha.length
  have hmax := Reads.max ha
  have hcap := Reads.cap ha
  unfold maxLen at hmax
  go_enter Tryz.func69, Tryz.ntmps69
  go_wp2
  go_loop [3, 4, 5] (fun v p i => ∃ k : Nat, k ≤ n ∧ k ≤ 8 ∧ i = .int .i64 k ∧ v = .int .u64 (wordN (bs.take k) : Nat) ∧ p = .int .u64 ((256 ^ k % 18446744073709551616 : Nat) : Int)) (fun _ _ i => 8 - (intOf i).toNat)
  case atStart => exact ⟨0, Nat.zero_le _, Nat.zero_le _, rfl, by simp [wordN], rfl⟩
  case round =>
    obtain ⟨k, hk, hk8, rfl, rfl, rfl⟩ := hrel
    by_cases hlt : k < n
    · by_cases hl8 : k < 8
      · obtain ⟨b, off, x, rfl, hx, hcell⟩ := ha.byte hlt
        have hsn := take_snoc bs k x hx
        have hlk : (bs.take k).length = k := by rw [List.length_take]; omega
        have hw := wordN_snoc (bs.take k) x
        have hw1 := wordN_lt (bs.take k)
        rw [← hsn, hlk] at hw
        rw [hlk] at hw1
        have hx256 := u8_lt x
        have hk7 : 256 ^ k ≤ 256 ^ 7 := Nat.pow_le_pow_right (by decide) (by omega)
        have hmod : 256 ^ k % 18446744073709551616 = 256 ^ k := Nat.mod_eq_of_lt (Nat.lt_of_le_of_lt hk7 (by decide))
        have hmod1 : 256 ^ (k + 1) % 18446744073709551616 = (256 ^ k * 256) % 18446744073709551616 := by rw [Nat.pow_succ]
        have hpz : x.toNat * 256 ^ k < 18446744073709551616 :=
          Nat.lt_of_le_of_lt (Nat.mul_le_mul (show x.toNat ≤ 255 by omega) hk7) (by decide)
        have hsum : wordN (bs.take k) + x.toNat * 256 ^ k < 18446744073709551616 := by
          have : x.toNat * 256 ^ k ≤ 255 * 256 ^ k := Nat.mul_le_mul (by omega) (Nat.le_refl _)
          have : 256 * 256 ^ k ≤ 256 * 256 ^ 7 := Nat.mul_le_mul (Nat.le_refl _) hk7
          have : 256 * 256 ^ 7 = 18446744073709551616 := by decide
          omega
        rw [hmod]
        have e1 : IntKind.u64.wrap ((x.toNat : Int) * ((256 ^ k : Nat) : Int)) = ((x.toNat * 256 ^ k : Nat) : Int) := by
          rw [IntKind.wrap_u64, ← Int.natCast_mul, Int.emod_eq_of_lt (by omega) (by omega)]
        have e2 : IntKind.u64.wrap ((wordN (bs.take k) : Int) + ((x.toNat * 256 ^ k : Nat) : Int)) = ((wordN (bs.take (k + 1)) : Nat) : Int) := by
          rw [IntKind.wrap_u64, hw, ← Int.natCast_add, Int.emod_eq_of_lt (by omega) (by omega)]
        generalize hp : 256 ^ k = p at *
        generalize hW : wordN (bs.take k) = W at *
        generalize hW' : wordN (bs.take (k + 1)) = W' at *
        have H1 := Lib.hid e1
        have H2 := Lib.hid e2
        have H3 := Lib.hid hmod1
        have H4 := Lib.hid hp
        have H5 := Lib.hid hW'
        clear e1 e2 hmod1 hp hW' hW hw hmod hx hsn hlk hk7 hpz
        have hk8' : (k : Int) < 8 := by omega
        go_wp2
        go_round
        case rel => exact ⟨k + 1, by omega, by omega, by go_num, by rw [H5.out, ← H2.out, IntKind.wrap_u64]; congr 1; rw [Int.natCast_mul]; omega, by rw [H3.out, IntKind.wrap_u64]; congr 1⟩
        case measure => simp [intOf]; omega
      · have hk8' : ¬ (k : Int) < 8 := by omega
        have ht : bs.take 8 = bs.take k := by rw [show k = 8 by omega]
        have H := Lib.hid ht
        clear ht
        go_wp2
        go_ret
        exact ⟨ret_int (by rw [H.out]), rfl⟩
    · have ht : bs.take 8 = bs.take k := by
        rw [show k = n by omega, ← hl, List.take_of_length_le (show bs.length ≤ 8 by omega), List.take_of_length_le (Nat.le_refl _)]
      have H := Lib.hid ht
      clear ht
      go_wp2
      go_ret
      exact ⟨ret_int (by rw [H.out]), rfl⟩

end Go.Proofs.YtpicpebolghcfaaGreatDoor

/- Contracts of layer 2: reading varints. -/
namespace Go.Proofs.YtpicpebolghcfaaGreatDoor
open Go.RowKit
set_option linter.unusedVariables false

theorem ret_v {a a' b b' c c' : Int} (h1 : a = a') (h2 : b = b') (h3 : c = c') : Ending.returned (.tuple #[.int .u64 a, .int .i64 b, .int .u8 c]) = .returned (.tuple #[.int .u64 a', .int .i64 b', .int .u8 c']) := by rw [h1, h2, h3]

theorem ret_vr {a a' b b' c c' : Int} (h1 : a = a') (h2 : b = b') (h3 : c = c') : Ending.returned (.tuple #[.int .u64 a, .int .i64 b, .int .i64 c]) = .returned (.tuple #[.int .u64 a', .int .i64 b', .int .i64 c']) := by rw [h1, h2, h3]

theorem vRead {A : Option Addr} {n c : Nat} {bs : List UInt8} {w : World} {W N C : Nat} (hb : BytesAt w A n c bs) (hv : readV bs = (W, N, C)) :
    Calls Tryz.prog 96 #[.slice A n c] w fun e w' => e = .returned (.tuple #[.int .u64 W, .int .i64 N, .int .u8 C]) ∧ w = w' := by
  have hl := hb.length
  have hmax := Reads.max hb
  have hcap := Reads.cap hb
  unfold maxLen at hmax
  have Hv := Lib.hid hv
  clear hv
  go_enter Tryz.func96, Tryz.ntmps96
  go_wp2
  go_loop [5, 6, 7, 10] (fun v _ _ i => ∃ k : Nat, k ≤ n ∧ k ≤ 9 ∧ i = .int .i64 k ∧ v = .int .u64 (wordV (bs.take k) : Nat) ∧ Cont bs k) (fun _ _ _ i => n - (intOf i).toNat)
  case atStart => exact ⟨0, Nat.zero_le _, Nat.zero_le _, rfl, by simp [wordV], Cont.zero bs⟩
  case round =>
    obtain ⟨k, hk, hk9, rfl, rfl, hC⟩ := hrel
    by_cases hlt : k < n
    · obtain ⟨b, off, x, rfl, hx, hcell⟩ := hb.byte hlt
      have hsn := take_snoc bs k x hx
      have hlk : (bs.take k).length = k := by rw [List.length_take]; omega
      have hx256 := u8_ltI x
      by_cases hbig : (9 : Int) ≤ k ∧ (1 : Int) < x.toNat
      · obtain ⟨h9, h1⟩ := hbig
        have hr := readV_over (bs := bs) (c := x) (by rw [show 9 = k by omega]; exact hC) (by rw [show 9 = k by omega]; exact hx) (by omega)
        have Hr := Lib.hid hr
        clear hr hsn hlk hx hC hl
        have hq : ((k : Int) == 9) = true := by simp; omega
        go_wp2
        go_ret3
        have e := Hv.out.symm.trans Hr.out
        exact ⟨ret_v (by simp at e; omega) (by simp at e; omega) (by simp at e; omega), rfl⟩
      · have hor := read_or' (bs.take k) k x hlk hk9 (fun e => by omega)
        rw [← hsn] at hor
        have Ho := Lib.hid hor
        have Hx := Lib.hid hx
        clear hor hx hsn hlk hl
        have done : ∀ (h : (x.toNat : Int) < 128), (W : Int) = (wordV (bs.take (k + 1)) : Nat) ∧ N = k + 1 ∧ C = 0 := by
          intro h
          have e := Hv.out.symm.trans (readV_done hC hk9 Hx.out (by omega) (fun e => by omega))
          simp at e
          exact ⟨by rw [e.1], e.2.1, e.2.2⟩
        have Hd := Lib.hid done
        clear done
        by_cases h9 : (9 : Int) ≤ k
        · have h1 : (x.toNat : Int) ≤ 1 := by omega
          have h128 : (x.toNat : Int) < 128 := by omega
          have hd : ¬ ((1 : Int) < x.toNat) := by omega
          clear hbig hx256 h1
          have hq : ((k : Int) == 9) = true := by simp; omega
          go_wp2
          go_ret3
          have d := Hd.out (by omega)
          exact ⟨ret_v (by rw [d.1, ← Ho.out]) (by omega) (by omega), rfl⟩
        · clear hbig
          have hq : ((k : Int) == 9) = false := by simp; omega
          by_cases h128 : (x.toNat : Int) < 128
          · go_wp2
            go_ret3
            have d := Hd.out h128
            exact ⟨ret_v (by rw [d.1, ← Ho.out]) (by omega) (by omega), rfl⟩
          · go_wp2
            go_round
            case rel => exact ⟨k + 1, by omega, by omega, by go_num, by rw [← Ho.out], hC.succ Hx.out (by omega)⟩
            case measure => simp [intOf]; omega
    · have hr := readV_short hC hk9 (by omega)
      have Hr := Lib.hid hr
      clear hr hl
      go_wp2
      go_ret3
      have e := Hv.out.symm.trans Hr.out
      exact ⟨ret_v (by simp at e; omega) (by simp at e; omega) (by simp at e; omega), rfl⟩

theorem vReadR {A : Option Addr} {n c : Nat} {bs : List UInt8} {w : World} {W N C p : Nat} {at_ : Int} (hb : BytesAt w A n c bs) (hat : at_ = p) (hp : p ≤ n) (hn : n ≤ 9000000000000000000) (hv : readV (bs.drop p) = (W, N, C)) :
    Calls Tryz.prog 70 #[.slice A n c, .int .i64 at_] w fun e w' => e = .returned (.tuple #[.int .u64 W, .int .i64 N, .int .i64 C]) ∧ w = w' := by
  subst hat
  have hl := hb.length
  have hcap := Reads.cap hb
  have Hv := Lib.hid hv
  clear hv
  go_enter Tryz.func70, Tryz.ntmps70
  go_wp2
  go_loop [7] (fun i => ∃ k : Nat, p + k ≤ n ∧ k ≤ 10 ∧ i = .int .i64 k ∧ Cont (bs.drop p) k) (fun i => 10 - (intOf i).toNat)
  case atStart => exact ⟨0, by omega, by omega, rfl, Cont.zero _⟩
  case round =>
    obtain ⟨k, hk, hk10, rfl, hC⟩ := hrel
    by_cases hlt : (p : Int) + k < n
    · obtain ⟨b, off, x, rfl, hx, hcell⟩ := hb.byte (show p + k < n by omega)
      have hxd : (bs.drop p)[k]? = some x := by rw [List.getElem?_drop]; exact hx
      by_cases h10 : (k : Int) < 10
      · have hq10 : ((k : Int) == 10) = false := by simp; omega
        have hql : ((p : Int) + k == (n : Int)) = false := by simp; omega
        by_cases hbig : (128 : Int) ≤ x.toNat
        · have Hx := Lib.hid hxd
          clear hx hxd hl
          go_wp2
          go_round
          case rel => exact ⟨k + 1, by omega, by omega, by go_num, hC.succ Hx.out (by omega)⟩
          case measure => simp [intOf]; omega
        · by_cases h9 : (9 : Int) ≤ k ∧ (1 : Int) < x.toNat
          · obtain ⟨h9, h1⟩ := h9
            have hq9 : ((k : Int) == 9) = true := by simp; omega
            have e := Hv.out.symm.trans (readV_over (bs := bs.drop p) (c := x) (by rw [show 9 = k by omega]; exact hC) (by rw [show 9 = k by omega]; exact hxd) (by omega))
            have He := Lib.hid e
            clear e hx hxd hl hC
            go_wp2
            go_ret3
            have e := He.out
            exact ⟨ret_vr (by simp at e; omega) (by simp at e; omega) (by simp at e; omega), rfl⟩
          · have e := Hv.out.symm.trans (readV_done hC (by omega) hxd (by omega) (fun e => by omega))
            have hW := wordV_take_lt (bs := bs.drop p) (k := k) (by omega) hxd (fun e => by omega)
            obtain ⟨L, hL⟩ : ∃ L, L = (bs.drop p).take (k + 1) := ⟨_, rfl⟩
            rw [← hL] at e hW
            have hLl : L.length = k + 1 := by rw [hL, List.length_take, List.length_drop]; omega
            have hLi : ∀ j, j ≤ k → L[j]? = bs[p + j]? := by
              intro j hj
              rw [hL, List.getElem?_take_of_lt (by omega), List.getElem?_drop]
            have He := Lib.hid e
            have HL := Lib.hid hLl
            have HI := Lib.hid hLi
            clear e hx hxd hl hC hL hLl hLi
            by_cases h9' : (9 : Int) ≤ k
            all_goals
              first
                | (have hq9 : ((k : Int) == 9) = true := by simp; omega
                   have hx1 : ¬ (1 : Int) < x.toNat := by omega
                   skip)
                | have hq9 : ((k : Int) == 9) = false := by simp; omega
              clear h9 h9'
              go_wp2
              go_loop [8, 9] (fun v i => ∃ j : Nat, j ≤ k + 1 ∧ i = .int .i64 ((j : Int) - 1) ∧ v = .int .u64 (wordV (L.drop j) : Nat)) (fun _ i => (intOf i + 1).toNat)
              case atStart => exact ⟨k + 1, Nat.le_refl _, by congr 1; omega, by rw [List.drop_of_length_le (by rw [HL.out]; exact Nat.le_refl _)]; rfl⟩
              case round =>
                obtain ⟨j, hj, rfl, rfl⟩ := hrel
                by_cases hj0 : (0 : Int) ≤ (j : Int) - 1
                · obtain ⟨b', off', y, hbo, hy, hcy⟩ := hb.byte (show p + (j - 1) < n by omega)
                  cases hbo
                  obtain ⟨i, rfl⟩ : ∃ i, j = i + 1 := ⟨j - 1, by omega⟩
                  have hst := wordV_step L i y (by rw [HI.out i (by omega)]; exact hy)
                  have hle := wordV_drop_le L i
                  rw [Nat.add_sub_cancel] at hcy hy
                  generalize hA : wordV (L.drop i) = WA at *
                  generalize hB : wordV (L.drop (i + 1)) = WB at *
                  have HA := Lib.hid hA
                  have HS := Lib.hid hst
                  have hy256 := u8_ltI y
                  have hov : 128 * WB < 18446744073709551616 - y.toNat % 128 := by omega
                  clear hst hA hB hy
                  go_wp2
                  go_round
                  case rel => exact ⟨i, by omega, by go_num, by rw [HA.out, HS.out]; go_num⟩
                  case measure => simp [intOf] <;> omega
                · have j0 : j = 0 := by omega
                  subst j0
                  go_wp2
                  go_ret3
                  have e := He.out
                  exact ⟨ret_vr (by simp at e; omega) (by simp at e; omega) (by simp at e; omega), rfl⟩
      · have hq10 : ((k : Int) == 10) = true := by simp; omega
        obtain ⟨z, hz, hz8⟩ := hC 9 (by omega)
        have e := Hv.out.symm.trans (readV_over (bs := bs.drop p) (fun j hj => hC j (by omega)) hz (by omega))
        have He := Lib.hid e
        clear e hx hxd hl hC hz hz8
        go_wp2
        go_ret3
        have e := He.out
        exact ⟨ret_vr (by simp at e; omega) (by simp at e; omega) (by simp at e; omega), rfl⟩
    · have hql : ((p : Int) + k == (n : Int)) = true := by simp; omega
      by_cases h10 : (k : Int) < 10
      · have hq10 : ((k : Int) == 10) = false := by simp; omega
        have e := Hv.out.symm.trans (readV_short hC (by omega) (by rw [List.length_drop]; omega))
        have He := Lib.hid e
        clear e hl hC
        go_wp2
        go_ret3
        have e := He.out
        exact ⟨ret_vr (by simp at e; omega) (by simp at e; omega) (by simp at e; omega), rfl⟩
      · have hq10 : ((k : Int) == 10) = true := by simp; omega
        obtain ⟨z, hz, hz8⟩ := hC 9 (by omega)
        have e := Hv.out.symm.trans (readV_over (bs := bs.drop p) (fun j hj => hC j (by omega)) hz (by omega))
        have He := Lib.hid e
        clear e hl hC hz hz8
        go_wp2
        go_ret3
        have e := He.out
        exact ⟨ret_vr (by simp at e; omega) (by simp at e; omega) (by simp at e; omega), rfl⟩

end Go.Proofs.YtpicpebolghcfaaGreatDoor

/- Contracts of layer 2: skipping, putting, reading all, comparing. -/
namespace Go.Proofs.YtpicpebolghcfaaGreatDoor
open Go.RowKit
set_option linter.unusedVariables false

def uv (x : Nat) : Value := .int .u64 (x : Int)

theorem uv_one (l : List Nat) : ∀ u ∈ l.map uv, u.oneCell' = true := by
  intro u hu
  obtain ⟨b, _, rfl⟩ := List.mem_map.1 hu
  rfl

theorem elemU : Elem Tryz.prog 27 68 1 8 := Elem.mk' (z := .int .u64 0) Tryz.underlying27 (by kernel_rfl) rfl (by omega)

theorem vSkip {A : Option Addr} {n c : Nat} {bs : List UInt8} {w : World} {W N C : Nat} (hb : BytesAt w A n c bs) (hv : readV bs = (W, N, C)) :
    Calls Tryz.prog 121 #[.slice A n c] w fun e w' => e = .returned (.tuple #[.int .i64 N, .int .u8 C]) ∧ w = w' := by
  have Hv := Lib.hid hv
  clear hv
  go_enter Tryz.func121, Tryz.ntmps121
  go_wp2_with (go_at_call 96; refine (vRead hb Hv.out).mono ?_; rintro e w' ⟨rfl, rfl⟩)
  go_ret2
  exact ⟨rfl, rfl⟩

theorem uvarint_bv_small {x : Nat} (h : x < 128) : List.map bv (Lib.uvarint x) = [.int .u8 (x : Int)] := by
  rw [Lib.uvarint_small h, List.map_cons, List.map_nil, bv_of x (by omega)]

theorem uvarint_bv_big {x : Nat} (h : 128 ≤ x) : List.map bv (Lib.uvarint x) = .int .u8 ((x % 128 + 128 : Nat) : Int) :: List.map bv (Lib.uvarint (x / 128)) := by
  rw [Lib.uvarint_big h, List.map_cons, bv_of _ (by omega)]

theorem vPut {A : Option Addr} {n c : Nat} {bs : List UInt8} {w : World} {x : Int} (hb : BytesAt w A n c bs) (hx0 : 0 ≤ x) (hx : x < 18446744073709551616) (hn : n ≤ 1000000000000) :
    Calls Tryz.prog 78 #[.slice A n c, .int .u64 x] w fun e w' => ∃ A' c', e = .returned (.slice A' (n + (Lib.uvarint x.toNat).length) c') ∧ Own w w' 5 1 A' (n + (Lib.uvarint x.toNat).length) c' (List.map bv (bs ++ Lib.uvarint x.toNat)) := by
  obtain ⟨X, rfl⟩ := Int.eq_ofNat_of_zero_le hx0
  rw [Int.toNat_natCast]
  have hX : X < 18446744073709551616 := by omega
  clear hx hx0
  have hle := Lib.uvarint_length64 hX
  go_enter Tryz.func78, Tryz.ntmps78
  go_wp2_with (go_at_call 50; refine (clone hb (by omega)).mono ?_; rintro e w1 ⟨A1, c1, rfl, own1⟩)
  go_loopw [0, 1] (fun v y wr => ∃ (z k : Nat) (A2 : Option Addr) (c2 : Nat) (xs : List Value), z < 18446744073709551616 ∧ k ≤ 10 ∧ y = .int .u64 z ∧ v = .slice A2 (n + k) c2 ∧ Own w wr 5 1 A2 (n + k) c2 xs ∧
    Hid (xs ++ List.map bv (Lib.uvarint z) = List.map bv (bs ++ Lib.uvarint X)) ∧ Hid (k + (Lib.uvarint z).length = (Lib.uvarint X).length)) (fun _ y _ => (intOf y).toNat)
  case atStart => exact ⟨X, 0, A1, c1, _, hX, by omega, rfl, rfl, own1, (List.map_append ..).symm, Nat.zero_add _⟩
  case round =>
    obtain ⟨z, k, A2, c2, xs, hz, hk, rfl, rfl, own2, H1, H2⟩ := hrel
    have hor := or128 z
    have Ho := Lib.hid hor
    have hp := Lib.uvarint_pos z
    have hk9 : k ≤ 9 := by have := H2.out; omega
    clear hor hp hle
    by_cases hlt : (128 : Int) ≤ z
    · have hb1 := uvarint_bv_big (show 128 ≤ z by omega)
      have hb2 : (Lib.uvarint z).length = (Lib.uvarint (z / 128)).length + 1 := by rw [Lib.uvarint_big (by omega)]; rfl
      have H3 := Lib.hid hb1
      have H4 := Lib.hid hb2
      clear hb1 hb2
      go_wp2_with (at_builtin; refine wpList_one elemB rfl (.tmp 11) (.tmp 15) rfl rfl own2 rfl (by first | rfl | simp) rfl (by omega) (by unfold maxLen; omega) ?_; intro A3 c3 w3 own3 _)
      go_roundw
      case rel =>
        refine ⟨z / 128, k + 1, A3, c3, _, by omega, by omega, by go_num, rfl, own3, ?_, ?_⟩
        · have := H1.out
          rw [H3.out] at this
          show _ = _
          rw [← this, List.append_assoc, List.singleton_append, Ho.out]
        · have a := H2.out
          have b := H4.out
          show _ = _
          omega
      case measure => simp [intOf]; omega
    · have hb1 := uvarint_bv_small (show z < 128 by omega)
      have hb2 : (Lib.uvarint z).length = 1 := by rw [Lib.uvarint_small (by omega)]; rfl
      have H3 := Lib.hid hb1
      have H4 := Lib.hid hb2
      clear hb1 hb2
      have hz8 : (z : Int) % 256 = z := by omega
      have H5 := Lib.hid hz8
      clear hz8
      go_wp2_with (at_builtin; refine wpList_one elemB rfl (.tmp 17) (.tmp 20) rfl rfl own2 rfl (by first | rfl | simp) rfl (by omega) (by unfold maxLen; omega) ?_; intro A3 c3 w3 own3 _)
      go_ret
      have a := H2.out
      rw [H4.out] at a
      have e := H1.out
      rw [H3.out] at e
      refine ⟨A3, c3, ret_slice (by omega), ?_⟩
      have own4 : Own w w3 5 1 A3 (n + k + 1) c3 (xs ++ [Value.int IntKind.u8 (z : Int)]) := by first | exact own3 | (rw [H5.out] at own3; exact own3)
      rw [e] at own4
      rw [show n + (Lib.uvarint X).length = n + k + 1 by omega]
      simpa using own4

def WordsAt (w : World) (A : Option Addr) (n c : Nat) (l : List Nat) : Prop := Reads w A n c 1 (l.map uv)

theorem WordsAt.length {w : World} {A : Option Addr} {n c : Nat} {l : List Nat} (h : WordsAt w A n c l) : l.length = n := by have := Reads.len h; simpa using this

theorem WordsAt.word {w : World} {A : Option Addr} {n c : Nat} {l : List Nat} (h : WordsAt w A n c l) {k : Nat} (hk : k < n) :
    ∃ b off x, A = some ⟨b, off, none⟩ ∧ l[k]? = some x ∧ w.cell? ⟨b, off + k, none⟩ = some (.int .u64 (x : Int)) := by
  obtain ⟨b, off, e, _, hc⟩ := Reads.at_ h (by omega)
  have hl := h.length
  have hx : l[k]? = some (l[k]'(by omega)) := List.getElem?_eq_getElem (by omega)
  exact ⟨b, off, _, e, hx, hc k _ (by rw [List.getElem?_map, hx]; rfl)⟩

theorem sameU {A B : Option Addr} {n c m d : Nat} {xs ys : List Nat} {w : World} (ha : WordsAt w A n c xs) (hb : WordsAt w B m d ys) (hn : n ≤ 1000000000000) :
    Calls Tryz.prog 15 #[.slice A n c, .slice B m d] w fun e w' => e = .returned (.bool (decide (xs = ys))) ∧ Ext w w' := by
  have hx := ha.length
  have hy := hb.length
  by_cases hnm : n = m
  · subst hnm
    have q1 : ((n : Int) != (n : Int)) = false := by simp
    go_enter Tryz.func15, Tryz.ntmps15
    go_wp2
    go_loopw [5] (fun i wr => ∃ k : Nat, k ≤ n ∧ i = .int .i64 k ∧ Ext w wr ∧ Hid (xs.take k = ys.take k)) (fun i _ => n - (intOf i).toNat)
    case atStart => exact ⟨0, Nat.zero_le _, rfl, Ext.refl _, rfl⟩
    case round =>
      obtain ⟨k, hk, rfl, hE, hT⟩ := hrel
      by_cases hlt : k < n
      · obtain ⟨b, off, x, rfl, hxk, hcx⟩ := WordsAt.word (ha.ext hE) hlt
        obtain ⟨b', off', y, rfl, hyk, hcy⟩ := WordsAt.word (hb.ext hE) hlt
        have Hx := Lib.hid hxk
        have Hy := Lib.hid hyk
        have Hlx := Lib.hid hx
        have Hly := Lib.hid hy
        have hltI : (k : Int) < n := by omega
        have hk0 : (0 : Int) ≤ k := by omega
        clear hxk hyk hx hy
        by_cases hxy : x = y
        · subst hxy
          have q2 : ((x : Int) != (x : Int)) = false := by simp
          go_wp2
          go_quiet (fail)
          go_wp2
          go_roundw
          case rel => exact ⟨k + 1, by omega, by go_num, hE.drewN _, by show _ = _; rw [take_snoc _ _ _ Hx.out, take_snoc _ _ _ Hy.out, hT.out]⟩
          case measure => simp [intOf]; omega
        · have q2 : ((x : Int) != (y : Int)) = true := by simp; omega
          have Hxy := Lib.hid hxy
          clear hxy
          go_wp2
          go_quiet (fail)
          go_wp2
          go_ret
          refine ⟨ret_bool (decide_eq_false ?_).symm, hE.drewN _⟩
          rintro rfl
          have := Hx.out.symm.trans Hy.out
          exact Hxy.out (by simpa using this)
      · have hkn : k = n := by omega
        subst hkn
        have hfin : xs = ys := by
          have := hT.out
          rwa [List.take_of_length_le (by omega), List.take_of_length_le (by omega)] at this
        have Hf := Lib.hid hfin
        clear hfin hx hy
        go_wp2
        go_ret
        exact ⟨ret_bool (decide_eq_true Hf.out).symm, hE⟩
  · have q1 : ((n : Int) != (m : Int)) = true := by simp; omega
    have hne : ¬ xs = ys := by rintro rfl; omega
    have Hne := Lib.hid hne
    clear hne hnm hx hy
    go_enter Tryz.func15, Tryz.ntmps15
    go_wp2
    go_ret
    exact ⟨ret_bool (decide_eq_false Hne.out).symm, Ext.refl _⟩

theorem ret_len {A : Option Addr} {n n' c : Nat} (h : n = n') : Value.slice A n c = Value.slice A n' c := by rw [h]

end Go.Proofs.YtpicpebolghcfaaGreatDoor

/- Contracts of layer 3: reading tags. -/
namespace Go.Proofs.YtpicpebolghcfaaGreatDoor
open Go.RowKit
set_option linter.unusedVariables false

theorem tRightR (number wire : Int) (w : World) :
    Calls Tryz.prog 143 #[.int .i64 number, .int .i64 wire] w fun e w' => e = .returned (.bool (rightB number wire)) ∧ w = w' := by
  by_cases h1 : (1 : Int) ≤ number
  · by_cases h2 : number ≤ (536870911 : Int)
    · by_cases e0 : wire = 0
      · subst e0
        go_enter Tryz.func143, Tryz.ntmps143
        go_wp2
        go_ret
        exact ⟨ret_bool (by unfold rightB; exact (decide_eq_true (by omega)).symm), rfl⟩
      · by_cases e1 : wire = 1
        · subst e1
          go_enter Tryz.func143, Tryz.ntmps143
          go_wp2
          go_ret
          exact ⟨ret_bool (by unfold rightB; exact (decide_eq_true (by omega)).symm), rfl⟩
        · by_cases e2 : wire = 2
          · subst e2
            go_enter Tryz.func143, Tryz.ntmps143
            go_wp2
            go_ret
            exact ⟨ret_bool (by unfold rightB; exact (decide_eq_true (by omega)).symm), rfl⟩
          · have q0 : (wire == 0) = false := by simp; omega
            have q1 : (wire == 1) = false := by simp; omega
            have q2 : (wire == 2) = false := by simp; omega
            go_enter Tryz.func143, Tryz.ntmps143
            go_wp2
            go_ret
            refine ⟨ret_bool ?_, rfl⟩
            unfold rightB
            rw [Bool.eq_iff_iff]
            simp only [beq_iff_eq, decide_eq_true_eq]
            omega
    · go_enter Tryz.func143, Tryz.ntmps143
      go_wp2
      go_ret
      exact ⟨ret_bool (by unfold rightB; exact (decide_eq_false (by omega)).symm), rfl⟩
  · go_enter Tryz.func143, Tryz.ntmps143
    go_wp2
    go_ret
    exact ⟨ret_bool (by unfold rightB; exact (decide_eq_false (by omega)).symm), rfl⟩

theorem tRight (number wire : Int) (w : World) :
    Calls Tryz.prog 155 #[.agg #[.int .i64 number, .int .i64 wire]] w fun e w' => e = .returned (.bool (rightB number wire)) ∧ Ext w w' := by
  by_cases h1 : (1 : Int) ≤ number
  · by_cases h2 : number ≤ (536870911 : Int)
    · by_cases h3 : (0 : Int) ≤ wire
      · by_cases h4 : wire < (8 : Int)
        · rcases (show wire = 0 ∨ wire = 1 ∨ wire = 2 ∨ wire = 3 ∨ wire = 4 ∨ wire = 5 ∨ wire = 6 ∨ wire = 7 by omega) with h | h | h | h | h | h | h | h
          all_goals
            subst h
            go_enter Tryz.func155, Tryz.ntmps155
            go_wp2
            go_ret
            exact ⟨ret_bool (by unfold rightB; first | exact (decide_eq_true (by omega)).symm | exact (decide_eq_false (by omega)).symm), (Ext.refl _).alloc _⟩
        · go_enter Tryz.func155, Tryz.ntmps155
          go_wp2
          go_ret
          exact ⟨ret_bool (by unfold rightB; exact (decide_eq_false (by omega)).symm), (Ext.refl _).alloc _⟩
      · go_enter Tryz.func155, Tryz.ntmps155
        go_wp2
        go_ret
        exact ⟨ret_bool (by unfold rightB; exact (decide_eq_false (by omega)).symm), (Ext.refl _).alloc _⟩
    · go_enter Tryz.func155, Tryz.ntmps155
      go_wp2
      go_ret
      exact ⟨ret_bool (by unfold rightB; exact (decide_eq_false (by omega)).symm), (Ext.refl _).alloc _⟩
  · go_enter Tryz.func155, Tryz.ntmps155
    go_wp2
    go_ret
    exact ⟨ret_bool (by unfold rightB; exact (decide_eq_false (by omega)).symm), (Ext.refl _).alloc _⟩

end Go.Proofs.YtpicpebolghcfaaGreatDoor

/- Contracts of layer 3: the tag that bytes begin with. -/
namespace Go.Proofs.YtpicpebolghcfaaGreatDoor
open Go.RowKit
set_option linter.unusedVariables false

theorem tRead {A : Option Addr} {n c : Nat} {bs : List UInt8} {w : World} {T V N C : Nat} (hb : BytesAt w A n c bs) (ht : tagV bs = (T, V, N, C)) :
    Calls Tryz.prog 141 #[.slice A n c] w fun e w' => e = .returned (.tuple #[.agg #[.int .i64 T, .int .i64 V], .int .i64 N, .int .u8 C]) ∧ Ext w w' := by
  rcases hv : readV bs with ⟨W, M, E⟩
  have hbd := (readV_bd bs).1
  have hE4 := (readV_bd bs).2.2.2.1
  rw [hv] at hbd hE4
  simp only at hbd hE4
  unfold tagV at ht
  rw [hv] at ht
  simp only at ht
  have Hv := Lib.hid hv
  clear hv
  have hb' : ∀ o : Obj, BytesAt (w.alloc o) A n c bs := fun o => hb.ext ((Ext.refl _).alloc o)
  have Hb := Lib.hid hb'
  clear hb'
  by_cases hE : E = 0
  · subst hE
    rw [if_neg (by simp)] at ht
    have h7 := and7 W hbd
    by_cases hbig : (536870911 : Int) < (W : Int) / 8
    · have hr : rightB ((W / 8 : Nat) : Int) ((W % 8 : Nat) : Int) = false := by unfold rightB; exact decide_eq_false (by omega)
      rw [hr, if_neg (by simp)] at ht
      simp only [Prod.mk.injEq] at ht
      obtain ⟨rfl, rfl, rfl, rfl⟩ := ht
      clear hr
      go_enter Tryz.func141, Tryz.ntmps141
      go_wp2_with (go_at_call 96; refine (vRead (Hb.out _) Hv.out).mono ?_; rintro e w' ⟨rfl, rfl⟩)
      exact bodyPost_ret (v := .tuple #[.agg #[.int .i64 0, .int .i64 0], .int .i64 0, .int .u8 5]) (by simp [results, Tryz.results141, go_sem]) rfl ⟨rfl, (Ext.refl _).alloc _⟩
    · have hcell : ∀ (w1 : World) (E1 : Ext ((w.alloc (.cells #[.int .i64 0, .int .i64 0] 227)).alloc (.cells #[.int .i64 ((W : Int) / 8), .int .i64 ((W : Int) % 8)] 227)) w1),
          (w1.cell? ⟨w.heap.size, 0, none⟩ = some (.int .i64 0) ∧ w1.cell? ⟨w.heap.size, 1, none⟩ = some (.int .i64 0) ∧ w1.cell? ⟨w.heap.size + 1, 0, none⟩ = some (.int .i64 ((W : Int) / 8)) ∧ w1.cell? ⟨w.heap.size + 1, 1, none⟩ = some (.int .i64 ((W : Int) % 8))) ∧
          w1.frozen? ⟨w.heap.size, 0, none⟩ = false ∧ w1.frozen? ⟨w.heap.size, 1, none⟩ = false ∧ w.heap.size < w1.heap.size ∧ Ext w w1 := fun w1 E1 => by
        have h := two_blocks E1
        exact ⟨⟨h.1 0, h.1 1, h.2.1 0, h.2.1 1⟩, h.2.2.1 0, h.2.2.1 1, by have := h.2.2.2.2; omega, ((Ext.refl w).alloc _ |>.alloc _).trans E1⟩
      have Hc := Lib.hid hcell
      clear hcell
      by_cases hr : rightB ((W / 8 : Nat) : Int) ((W % 8 : Nat) : Int) = true
      · rw [if_pos hr] at ht
        simp only [Prod.mk.injEq] at ht
        obtain ⟨rfl, rfl, rfl, rfl⟩ := ht
        have hr' : rightB ((W : Int) / 8) ((W : Int) % 8) = true := hr
        clear hr
        go_enter Tryz.func141, Tryz.ntmps141
        go_wp2_with (first | (go_at_call 96; refine (vRead (Hb.out _) Hv.out).mono ?_; rintro e w' ⟨rfl, rfl⟩) | (go_at_call 155; refine (tRight _ _ _).mono ?_; rintro e w1 ⟨rfl, E1⟩; obtain ⟨⟨c1, c2, c3, c4⟩, f1, f2, hlt, E2⟩ := Hc.out w1 E1))
        exact bodyPost_ret (v := .tuple #[.agg #[.int .i64 ((W : Int) / 8), .int .i64 ((W : Int) % 8)], .int .i64 M, .int .u8 0]) (by simp [results, Tryz.results141, go_sem, c1, c2]) rfl ⟨rfl, (E2.setCell (Nat.le_refl _) _).setCell (Nat.le_refl _) _⟩
      · have hr0 : rightB ((W / 8 : Nat) : Int) ((W % 8 : Nat) : Int) = false := by simpa using hr
        rw [if_neg hr] at ht
        simp only [Prod.mk.injEq] at ht
        obtain ⟨rfl, rfl, rfl, rfl⟩ := ht
        have hr' : rightB ((W : Int) / 8) ((W : Int) % 8) = false := hr0
        clear hr hr0
        go_enter Tryz.func141, Tryz.ntmps141
        go_wp2_with (first | (go_at_call 96; refine (vRead (Hb.out _) Hv.out).mono ?_; rintro e w' ⟨rfl, rfl⟩) | (go_at_call 155; refine (tRight _ _ _).mono ?_; rintro e w1 ⟨rfl, E1⟩; obtain ⟨⟨c1, c2, c3, c4⟩, f1, f2, hlt, E2⟩ := Hc.out w1 E1))
        exact bodyPost_ret (v := .tuple #[.agg #[.int .i64 0, .int .i64 0], .int .i64 0, .int .u8 5]) (by simp [results, Tryz.results141, go_sem, c1, c2]) rfl ⟨rfl, (E2.setCell (Nat.le_refl _) _).setCell (Nat.le_refl _) _⟩
  · have q : ((E : Int) != 0) = true := by simp; omega
    rw [if_pos hE] at ht
    simp only [Prod.mk.injEq] at ht
    obtain ⟨rfl, rfl, rfl, rfl⟩ := ht
    go_enter Tryz.func141, Tryz.ntmps141
    go_wp2_with (go_at_call 96; refine (vRead (Hb.out _) Hv.out).mono ?_; rintro e w' ⟨rfl, rfl⟩)
    exact bodyPost_ret (v := .tuple #[.agg #[.int .i64 0, .int .i64 0], .int .i64 0, .int .u8 E]) (by simp [results, Tryz.results141, go_sem]) rfl ⟨rfl, (Ext.refl _).alloc _⟩

theorem tReadR {A : Option Addr} {n c p : Nat} {bs : List UInt8} {w : World} {T V N C : Nat} {at_ : Int} (hb : BytesAt w A n c bs) (hat : at_ = p) (hp : p ≤ n) (hn : n ≤ 9000000000000000000) (ht : tagV (bs.drop p) = (T, V, N, C)) :
    Calls Tryz.prog 124 #[.slice A n c, .int .i64 at_] w fun e w' => e = .returned (.tuple #[.int .i64 T, .int .i64 V, .int .i64 N, .int .i64 C]) ∧ w = w' := by
  rcases hv : readV (bs.drop p) with ⟨W, M, E⟩
  have hbd := (readV_bd (bs.drop p)).1
  have hE4 := (readV_bd (bs.drop p)).2.2.2.1
  rw [hv] at hbd hE4
  simp only at hbd hE4
  unfold tagV at ht
  rw [hv] at ht
  simp only at ht
  have Hv := Lib.hid hv
  have Hat := Lib.hid hat
  clear hv hat
  by_cases hE : E = 0
  · subst hE
    rw [if_neg (by simp)] at ht
    by_cases hbig : (4294967295 : Int) < (W : Int)
    · have hr : rightB ((W / 8 : Nat) : Int) ((W % 8 : Nat) : Int) = false := by unfold rightB; exact decide_eq_false (by omega)
      rw [hr, if_neg (by simp)] at ht
      simp only [Prod.mk.injEq] at ht
      obtain ⟨rfl, rfl, rfl, rfl⟩ := ht
      clear hr
      go_enter Tryz.func124, Tryz.ntmps124
      go_wp2_with (go_at_call 70; refine (vReadR hb Hat.out hp hn Hv.out).mono ?_; rintro e w' ⟨rfl, rfl⟩)
      exact bodyPost_ret (v := .tuple #[.int .i64 0, .int .i64 0, .int .i64 0, .int .i64 5]) (by simp [results, Tryz.results124, go_sem]) rfl ⟨rfl, rfl⟩
    · by_cases hr : rightB ((W / 8 : Nat) : Int) ((W % 8 : Nat) : Int) = true
      · rw [if_pos hr] at ht
        simp only [Prod.mk.injEq] at ht
        obtain ⟨rfl, rfl, rfl, rfl⟩ := ht
        have hr' : rightB ((W : Int) / 8) ((W : Int) % 8) = true := hr
        clear hr
        go_enter Tryz.func124, Tryz.ntmps124
        go_wp2_with (first | (go_at_call 70; refine (vReadR hb Hat.out hp hn Hv.out).mono ?_; rintro e w' ⟨rfl, rfl⟩) | (go_at_call 143; refine (tRightR _ _ _).mono ?_; rintro e w' ⟨rfl, rfl⟩))
        exact bodyPost_ret (v := .tuple #[.int .i64 ((W : Int) / 8), .int .i64 ((W : Int) % 8), .int .i64 M, .int .i64 0]) (by simp [results, Tryz.results124, go_sem]) rfl ⟨rfl, rfl⟩
      · have hr0 : rightB ((W / 8 : Nat) : Int) ((W % 8 : Nat) : Int) = false := by simpa using hr
        rw [if_neg hr] at ht
        simp only [Prod.mk.injEq] at ht
        obtain ⟨rfl, rfl, rfl, rfl⟩ := ht
        have hr' : rightB ((W : Int) / 8) ((W : Int) % 8) = false := hr0
        clear hr hr0
        go_enter Tryz.func124, Tryz.ntmps124
        go_wp2_with (first | (go_at_call 70; refine (vReadR hb Hat.out hp hn Hv.out).mono ?_; rintro e w' ⟨rfl, rfl⟩) | (go_at_call 143; refine (tRightR _ _ _).mono ?_; rintro e w' ⟨rfl, rfl⟩))
        exact bodyPost_ret (v := .tuple #[.int .i64 0, .int .i64 0, .int .i64 0, .int .i64 5]) (by simp [results, Tryz.results124, go_sem]) rfl ⟨rfl, rfl⟩
  · have q : ((E : Int) != 0) = true := by simp; omega
    rw [if_pos hE] at ht
    simp only [Prod.mk.injEq] at ht
    obtain ⟨rfl, rfl, rfl, rfl⟩ := ht
    go_enter Tryz.func124, Tryz.ntmps124
    go_wp2_with (go_at_call 70; refine (vReadR hb Hat.out hp hn Hv.out).mono ?_; rintro e w' ⟨rfl, rfl⟩)
    exact bodyPost_ret (v := .tuple #[.int .i64 0, .int .i64 0, .int .i64 0, .int .i64 E]) (by simp [results, Tryz.results124, go_sem]) rfl ⟨rfl, rfl⟩

end Go.Proofs.YtpicpebolghcfaaGreatDoor

/- Contracts of layer 3: putting tags. -/
namespace Go.Proofs.YtpicpebolghcfaaGreatDoor
open Go.RowKit
set_option linter.unusedVariables false

end Go.Proofs.YtpicpebolghcfaaGreatDoor
