/- Contracts of layers 1 to 3. -/
import Derived.Test.YtlhbllaojjelcaaDoorChecked
import Derived.Test.YtlhbllaojjelcaaDoorSA
import Derived.Test.YtlhbllaojjelcaaDoorLib
import Derived.WalkKit
import Derived.WalkSpells
import Derived.WalkLawsBesides
import Derived.BigQuiet
import Derived.Deep.QuietTactic
import Derived.Deep.RegionLaw

/- Contracts of the functions of layer 1 that only reckon: package bits and its reference. -/
namespace Go.Proofs.YtlhbllaojjelcaaDoor
open Go.RowKit
set_option linter.unusedVariables false

theorem low32 (n : Int) (w : World) (h0 : 0 ≤ n) (h1 : n < 18446744073709551616) :
    Calls Tryd.prog 42 #[.int .u64 n] w fun e w' => e = .returned (.int .u32 (n % 4294967296)) ∧ w = w' := by
  go_enter Tryd.func42, Tryd.ntmps42
  go_wp2
  go_ret
  exact ⟨rfl, rfl⟩

theorem sign32 (n : Int) (w : World) (h0 : 0 ≤ n) (h1 : n < 18446744073709551616) :
    Calls Tryd.prog 41 #[.int .u64 n] w fun e w' => e = .returned (.int .i32 (sign32I n)) ∧ w = w' := by
  go_enter Tryd.func41, Tryd.ntmps41
  go_wp2
  go_ret
  exact ⟨ret_int (sign32I_wrap n), rfl⟩

theorem wide32 (n : Int) (w : World) (h0 : -2147483648 ≤ n) (h1 : n < 2147483648) :
    Calls Tryd.prog 40 #[.int .i32 n] w fun e w' => e = .returned (.int .u64 (wideI n)) ∧ w = w' := by
  go_enter Tryd.func40, Tryd.ntmps40
  go_wp2
  go_ret
  exact ⟨ret_int (wideI_wrap n (by omega) (by omega)), rfl⟩

end Go.Proofs.YtlhbllaojjelcaaDoor

/- Contracts of layer 1's functions that read or make memory. -/
namespace Go.Proofs.YtlhbllaojjelcaaDoor
open Go.RowKit
set_option linter.unusedVariables false

theorem elemB : Elem Tryd.prog 24 5 1 1 := Elem.mk' (z := .int .u8 0) Tryd.underlying24 (by kernel_rfl) rfl (by omega)

theorem same {A B : Option Addr} {n c m d : Nat} {xs ys : List UInt8} {w : World} (ha : BytesAt w A n c xs) (hb : BytesAt w B m d ys) :
    Calls Tryd.prog 12 #[.slice A n c, .slice B m d] w fun e w' => e = .returned (.bool (decide (xs = ys))) ∧ w = w' := by
  have c1 := ha.convert (P := Tryd.prog) 24 5 9 Tryd.underlying24 Tryd.underlying5 Tryd.underlying9
  have c2 := hb.convert (P := Tryd.prog) 24 5 9 Tryd.underlying24 Tryd.underlying5 Tryd.underlying9
  go_enter Tryd.func12, Tryd.ntmps12
  go_wp2
  go_ret
  exact ⟨ret_bool (by rw [Bool.eq_iff_iff]; simp), rfl⟩

theorem clone {A : Option Addr} {n c : Nat} {bs : List UInt8} {w : World} (ha : BytesAt w A n c bs) (hn : n ≤ 100000000000000) :
    Calls Tryd.prog 22 #[.slice A n c] w fun e w' => ∃ A' c', e = .returned (.slice A' n c') ∧ Own w w' 5 1 A' n c' (bs.map bv) := by
  have hnil := Lib.run_eql_slice_nil (P := Tryd.prog) w 24 5 A n c 0 0 Tryd.underlying24
  rcases A with _ | ad
  · have h0 : n = 0 := by
      rcases Nat.eq_zero_or_pos n with h | h
      · exact h
      · obtain ⟨b, off, e, _⟩ := Reads.at_ ha h; cases e
    subst h0
    have hbs : bs = [] := List.eq_nil_of_length_eq_zero ha.length
    subst hbs
    go_enter Tryd.func22, Tryd.ntmps22
    go_wp2
    go_ret
    exact ⟨_, _, rfl, Own.nil (Ext.refl _) 5 1⟩
  · go_enter Tryd.func22, Tryd.ntmps22
    go_wp2_with (at_builtin; refine wpList_more elemB rfl (.tmp 5) (.tmp 6) rfl rfl (Own.empty (Ext.refl _) 5 1) rfl (ha.ext ((Ext.refl _).alloc _)) (bv_one _) (by omega) (by unfold maxLen; omega) ?_; intro A' c' w' hown _)
    go_ret
    exact ⟨_, _, ret_slice (by simp), by simpa using hown⟩

theorem little_bv (k x : Nat) : List.map bv (littleB k x) ++ [.int .u8 ((x : Int) / 2 ^ (8 * k) % 256)] = List.map bv (littleB (k + 1) x) := by
  rw [littleB_succ, List.map_append, List.map_cons, List.map_nil, bv_of _ (by omega), ← pow_256]
  simp

theorem little (x : Nat) (n : Int) (w : World) (h1 : x < 18446744073709551616) (h2 : n < 9223372036854775808) (h3 : -9223372036854775808 ≤ n) :
    Calls Tryd.prog 38 #[.int .u64 x, .int .i64 n] w fun e w' => ∃ A' c', e = .returned (.slice A' (min n 8).toNat c') ∧ Own w w' 5 1 A' (min n 8).toNat c' (List.map bv (littleB (min n 8).toNat x)) := by
  obtain ⟨q, hq⟩ : ∃ q, q = min n 8 := ⟨_, rfl⟩
  obtain ⟨m, hm⟩ : ∃ m : Nat, m = q.toNat := ⟨_, rfl⟩
  have hm8 : m ≤ 8 := by omega
  have hmn : ∀ ts t (W : World), (Builtin.min_ ts t #[.int .i64 n, .int .i64 8]).run Tryd.prog W = .ok (.int .i64 q) W := by
    intro ts t W; rw [run_min_i, hq]
  have hmx : ∀ ts t (W : World), (Builtin.max_ ts t #[.int .i64 0, .int .i64 q]).run Tryd.prog W = .ok (.int .i64 m) W := by
    intro ts t W; rw [run_max_i]; congr 2; omega
  rw [← hq, ← hm]
  clear hm hq
  go_enter Tryd.func38, Tryd.ntmps38
  go_wp2
  go_loopw [5, 6, 10] (fun v _ i wr => ∃ (k : Nat) (A : Option Addr) (c : Nat), k ≤ m ∧ i = .int .i64 k ∧ v = .slice A k c ∧ Own w wr 5 1 A k c (List.map bv (littleB k x))) (fun _ _ i _ => m - (intOf i).toNat)
  case atStart => exact ⟨0, none, 0, Nat.zero_le _, rfl, rfl, Own.nil (Ext.refl _) 5 1⟩
  case round =>
    obtain ⟨k, A, c, hk, rfl, rfl, hown⟩ := hrel
    by_cases hlt : k < m
    · go_wp2_with (at_builtin; refine wpList_one elemB rfl (.tmp 13) (.tmp 20) rfl rfl hown rfl (by first | rfl | simp) rfl (by omega) (by unfold maxLen; omega) ?_; intro A' c' w' hown' _)
      go_roundw
      case rel => exact ⟨k + 1, A', c', by omega, by go_num, rfl, by rw [← little_bv]; exact hown'⟩
      case measure => simp [intOf]; omega
    · go_wp2
      go_ret
      have : k = m := by omega
      subst this
      exact ⟨A, c, rfl, hown⟩

end Go.Proofs.YtlhbllaojjelcaaDoor

/- Contracts of layer 1: the word of bytes. -/
namespace Go.Proofs.YtlhbllaojjelcaaDoor
open Go.RowKit
set_option linter.unusedVariables false

theorem word {A : Option Addr} {n c : Nat} {bs : List UInt8} {w : World} (ha : BytesAt w A n c bs) :
    Calls Tryd.prog 26 #[.slice A n c] w fun e w' => e = .returned (.int .u64 (wordN (bs.take 8))) ∧ w = w' := by
  have hl := ha.length
  have hmax := Reads.max ha
  have hcap := Reads.cap ha
  unfold maxLen at hmax
  obtain ⟨m, hm⟩ : ∃ m : Nat, m = min n 8 := ⟨_, rfl⟩
  have hmn : ∀ ts t (W : World), (Builtin.min_ ts t #[.int .i64 (n : Int), .int .i64 8]).run Tryd.prog W = .ok (.int .i64 (m : Int)) W := by
    intro ts t W; rw [run_min_i]; congr 2; omega
  have hle : m ≤ n := by omega
  have h8 : m ≤ 8 := by omega
  have ht : bs.take 8 = bs.take m := by
    rw [hm, ← hl]
    rcases Nat.le_total bs.length 8 with h | h
    · rw [Nat.min_eq_left h, List.take_of_length_le h, List.take_of_length_le (Nat.le_refl _)]
    · rw [Nat.min_eq_right h]
  obtain ⟨A', hcut, hr⟩ := cut_to elemB ha .i64 hle
  have hr' : BytesAt w A' m c (bs.take m) := by simpa [BytesAt, List.map_take] using hr
  rw [ht]
  clear hm ht
  go_enter Tryd.func26, Tryd.ntmps26
  go_wp2
  go_loop [3, 4, 5, 12] (fun v _ _ i => ∃ k : Nat, k ≤ m ∧ i = .int .i64 k ∧ v = .int .u64 (wordN (bs.take k) : Nat)) (fun _ _ _ i => m - (intOf i).toNat)
  case atStart => exact ⟨0, Nat.zero_le _, rfl, by simp [wordN]⟩
  case round =>
    obtain ⟨k, hk, rfl, rfl⟩ := hrel
    by_cases hlt : k < m
    · obtain ⟨b, off, x, rfl, hx, hcell⟩ := hr'.byte hlt
      have hx' : bs[k]? = some x := by rwa [List.getElem?_take_of_lt hlt] at hx
      have hsn := take_snoc bs k x hx'
      have hlk : (bs.take k).length = k := by rw [List.length_take]; omega
      have hor := word_or (bs.take k) k x hlk (by omega)
      rw [← hsn] at hor
      have H := Lib.hid hor
      clear hor hsn hx hx' hlk hcut hmn hr hr'
      go_wp2
      go_round
      case rel => exact ⟨k + 1, by omega, by go_num, by rw [H.out]⟩
      case measure => simp [intOf]; omega
    · have hkm : k = m := by omega
      subst hkm
      go_wp2
      go_ret
      exact ⟨rfl, rfl⟩

theorem littleI (n m : Int) (w : World) (h0 : 0 ≤ n) (h1 : n < 18446744073709551616) (h2 : m < 9223372036854775808) (h3 : -9223372036854775808 ≤ m) :
    Calls Tryd.prog 38 #[.int .u64 n, .int .i64 m] w fun e w' => ∃ A' c', e = .returned (.slice A' (min m 8).toNat c') ∧ Own w w' 5 1 A' (min m 8).toNat c' (List.map bv (littleB (min m 8).toNat n.toNat)) := by
  obtain ⟨x, rfl⟩ := Int.eq_ofNat_of_zero_le h0
  exact little x m w (by omega) h2 h3

end Go.Proofs.YtlhbllaojjelcaaDoor

/- Contracts of layer 2: reading varints. -/
namespace Go.Proofs.YtlhbllaojjelcaaDoor
open Go.RowKit
set_option linter.unusedVariables false

theorem ret_v {a a' b b' c c' : Int} (h1 : a = a') (h2 : b = b') (h3 : c = c') : Ending.returned (.tuple #[.int .u64 a, .int .i64 b, .int .u8 c]) = .returned (.tuple #[.int .u64 a', .int .i64 b', .int .u8 c']) := by rw [h1, h2, h3]

theorem ret_vr {a a' b b' c c' : Int} (h1 : a = a') (h2 : b = b') (h3 : c = c') : Ending.returned (.tuple #[.int .u64 a, .int .i64 b, .int .i64 c]) = .returned (.tuple #[.int .u64 a', .int .i64 b', .int .i64 c']) := by rw [h1, h2, h3]

theorem vRead {A : Option Addr} {n c : Nat} {bs : List UInt8} {w : World} {W N C : Nat} (hb : BytesAt w A n c bs) (hv : readV bs = (W, N, C)) :
    Calls Tryd.prog 27 #[.slice A n c] w fun e w' => e = .returned (.tuple #[.int .u64 W, .int .i64 N, .int .u8 C]) ∧ w = w' := by
  have hl := hb.length
  have hmax := Reads.max hb
  have hcap := Reads.cap hb
  unfold maxLen at hmax
  have Hv := Lib.hid hv
  clear hv
  go_enter Tryd.func27, Tryd.ntmps27
  go_wp2
  go_loop [5, 6, 7, 10] (fun v _ _ i => ∃ k : Nat, k ≤ n ∧ k ≤ 9 ∧ i = .int .i64 k ∧ v = .int .u64 (wordV (bs.take k) : Nat) ∧ Cont bs k) (fun _ _ _ i => n - (intOf i).toNat)
  case atStart => exact ⟨0, Nat.zero_le _, Nat.zero_le _, rfl, by simp [wordV], Cont.zero bs⟩
  case round =>
    obtain ⟨k, hk, hk9, rfl, rfl, hC⟩ := hrel
    by_cases hlt : k < n
    · obtain ⟨b, off, x, rfl, hx, hcell⟩ := hb.byte hlt
      have hsn := take_snoc bs k x hx
      have hlk : (bs.take k).length = k := by rw [List.length_take]; omega
      have hx256 := u8_ltI x
      by_cases hbig : (9 : Int) ≤ k ∧ (1 : Int) < x.toNat
      · obtain ⟨h9, h1⟩ := hbig
        have hr := readV_over (bs := bs) (c := x) (by rw [show 9 = k by omega]; exact hC) (by rw [show 9 = k by omega]; exact hx) (by omega)
        have Hr := Lib.hid hr
        clear hr hsn hlk hx hC hl
        have hq : ((k : Int) == 9) = true := by simp; omega
        go_wp2
        go_ret3
        have e := Hv.out.symm.trans Hr.out
        exact ⟨ret_v (by simp at e; omega) (by simp at e; omega) (by simp at e; omega), rfl⟩
      · have hor := read_or' (bs.take k) k x hlk hk9 (fun e => by omega)
        rw [← hsn] at hor
        have Ho := Lib.hid hor
        have Hx := Lib.hid hx
        clear hor hx hsn hlk hl
        have done : ∀ (h : (x.toNat : Int) < 128), (W : Int) = (wordV (bs.take (k + 1)) : Nat) ∧ N = k + 1 ∧ C = 0 := by
          intro h
          have e := Hv.out.symm.trans (readV_done hC hk9 Hx.out (by omega) (fun e => by omega))
          simp at e
          exact ⟨by rw [e.1], e.2.1, e.2.2⟩
        have Hd := Lib.hid done
        clear done
        by_cases h9 : (9 : Int) ≤ k
        · have h1 : (x.toNat : Int) ≤ 1 := by omega
          have h128 : (x.toNat : Int) < 128 := by omega
          have hd : ¬ ((1 : Int) < x.toNat) := by omega
          clear hbig hx256 h1
          have hq : ((k : Int) == 9) = true := by simp; omega
          go_wp2
          go_ret3
          have d := Hd.out (by omega)
          exact ⟨ret_v (by rw [d.1, ← Ho.out]) (by omega) (by omega), rfl⟩
        · clear hbig
          have hq : ((k : Int) == 9) = false := by simp; omega
          by_cases h128 : (x.toNat : Int) < 128
          · go_wp2
            go_ret3
            have d := Hd.out h128
            exact ⟨ret_v (by rw [d.1, ← Ho.out]) (by omega) (by omega), rfl⟩
          · go_wp2
            go_round
            case rel => exact ⟨k + 1, by omega, by omega, by go_num, by rw [← Ho.out], hC.succ Hx.out (by omega)⟩
            case measure => simp [intOf]; omega
    · have hr := readV_short hC hk9 (by omega)
      have Hr := Lib.hid hr
      clear hr hl
      go_wp2
      go_ret3
      have e := Hv.out.symm.trans Hr.out
      exact ⟨ret_v (by simp at e; omega) (by simp at e; omega) (by simp at e; omega), rfl⟩

theorem Cont.of_take {bs : List UInt8} {p k : Nat} {x : UInt8} (h : Cont (bs.drop p) k) (hx : bs[p + k]? = some x) (hb : 128 ≤ x.toNat) : Cont (bs.drop p) (k + 1) :=
  h.succ (by rw [List.getElem?_drop]; exact hx) hb

end Go.Proofs.YtlhbllaojjelcaaDoor

/- Contracts of layer 2: skipping, putting, reading all, comparing. -/
namespace Go.Proofs.YtlhbllaojjelcaaDoor
open Go.RowKit
set_option linter.unusedVariables false

/-- A word in a cell. -/
def uv (x : Nat) : Value := .int .u64 (x : Int)

theorem uv_one (l : List Nat) : ∀ u ∈ l.map uv, u.oneCell' = true := by
  intro u hu
  obtain ⟨b, _, rfl⟩ := List.mem_map.1 hu
  rfl

theorem elemU : Elem Tryd.prog 30 38 1 8 := Elem.mk' (z := .int .u64 0) Tryd.underlying30 (by kernel_rfl) rfl (by omega)

theorem ret_kc {a a' b b' : Int} (h1 : a = a') (h2 : b = b') : Ending.returned (.tuple #[.int .i64 a, .int .u8 b]) = .returned (.tuple #[.int .i64 a', .int .u8 b']) := by rw [h1, h2]

theorem vSkip {A : Option Addr} {n c : Nat} {bs : List UInt8} {w : World} {W N C : Nat} (hb : BytesAt w A n c bs) (hv : readV bs = (W, N, C)) :
    Calls Tryd.prog 62 #[.slice A n c] w fun e w' => e = .returned (.tuple #[.int .i64 N, .int .u8 C]) ∧ w = w' := by
  have Hv := Lib.hid hv
  clear hv
  go_enter Tryd.func62, Tryd.ntmps62
  go_wp2_with (go_at_call 27; refine (vRead hb Hv.out).mono ?_; rintro e w' ⟨rfl, rfl⟩)
  go_ret2
  exact ⟨rfl, rfl⟩

/-- Minimal? -/
def minimalB (bs : List UInt8) : Bool := decide ((readV bs).2.2 = 0 ∧ (readV bs).2.1 = bs.length ∧ (bs.length = 1 ∨ bs.getLast? ≠ some 0))

theorem uvarint_bv_small {x : Nat} (h : x < 128) : List.map bv (Lib.uvarint x) = [.int .u8 (x : Int)] := by
  rw [Lib.uvarint_small h, List.map_cons, List.map_nil, bv_of x (by omega)]

theorem uvarint_bv_big {x : Nat} (h : 128 ≤ x) : List.map bv (Lib.uvarint x) = .int .u8 ((x % 128 + 128 : Nat) : Int) :: List.map bv (Lib.uvarint (x / 128)) := by
  rw [Lib.uvarint_big h, List.map_cons, bv_of _ (by omega)]

theorem vPut {A : Option Addr} {n c : Nat} {bs : List UInt8} {w : World} {x : Int} (hb : BytesAt w A n c bs) (hx0 : 0 ≤ x) (hx : x < 18446744073709551616) (hn : n ≤ 1000000000000) :
    Calls Tryd.prog 37 #[.slice A n c, .int .u64 x] w fun e w' => ∃ A' c', e = .returned (.slice A' (n + (Lib.uvarint x.toNat).length) c') ∧ Own w w' 5 1 A' (n + (Lib.uvarint x.toNat).length) c' (List.map bv (bs ++ Lib.uvarint x.toNat)) := by
  obtain ⟨X, rfl⟩ := Int.eq_ofNat_of_zero_le hx0
  rw [Int.toNat_natCast]
  have hX : X < 18446744073709551616 := by omega
  clear hx hx0
  have hle := Lib.uvarint_length64 hX
  go_enter Tryd.func37, Tryd.ntmps37
  go_wp2_with (go_at_call 22; refine (clone hb (by omega)).mono ?_; rintro e w1 ⟨A1, c1, rfl, own1⟩)
  go_loopw [0, 1] (fun v y wr => ∃ (z k : Nat) (A2 : Option Addr) (c2 : Nat) (xs : List Value), z < 18446744073709551616 ∧ k ≤ 10 ∧ y = .int .u64 z ∧ v = .slice A2 (n + k) c2 ∧ Own w wr 5 1 A2 (n + k) c2 xs ∧
    Hid (xs ++ List.map bv (Lib.uvarint z) = List.map bv (bs ++ Lib.uvarint X)) ∧ Hid (k + (Lib.uvarint z).length = (Lib.uvarint X).length)) (fun _ y _ => (intOf y).toNat)
  case atStart => exact ⟨X, 0, A1, c1, _, hX, by omega, rfl, rfl, own1, (List.map_append ..).symm, Nat.zero_add _⟩
  case round =>
    obtain ⟨z, k, A2, c2, xs, hz, hk, rfl, rfl, own2, H1, H2⟩ := hrel
    have hor := or128 z
    have Ho := Lib.hid hor
    have hp := Lib.uvarint_pos z
    have hk9 : k ≤ 9 := by have := H2.out; omega
    clear hor hp hle
    by_cases hlt : (128 : Int) ≤ z
    · have hb1 := uvarint_bv_big (show 128 ≤ z by omega)
      have hb2 : (Lib.uvarint z).length = (Lib.uvarint (z / 128)).length + 1 := by rw [Lib.uvarint_big (by omega)]; rfl
      have H3 := Lib.hid hb1
      have H4 := Lib.hid hb2
      clear hb1 hb2
      go_wp2_with (at_builtin; refine wpList_one elemB rfl (.tmp 11) (.tmp 15) rfl rfl own2 rfl (by first | rfl | simp) rfl (by omega) (by unfold maxLen; omega) ?_; intro A3 c3 w3 own3 _)
      go_roundw
      case rel =>
        refine ⟨z / 128, k + 1, A3, c3, _, by omega, by omega, by go_num, rfl, own3, ?_, ?_⟩
        · have := H1.out
          rw [H3.out] at this
          show _ = _
          rw [← this, List.append_assoc, List.singleton_append, Ho.out]
        · have a := H2.out
          have b := H4.out
          show _ = _
          omega
      case measure => simp [intOf]; omega
    · have hb1 := uvarint_bv_small (show z < 128 by omega)
      have hb2 : (Lib.uvarint z).length = 1 := by rw [Lib.uvarint_small (by omega)]; rfl
      have H3 := Lib.hid hb1
      have H4 := Lib.hid hb2
      clear hb1 hb2
      have hz8 : (z : Int) % 256 = z := by omega
      have H5 := Lib.hid hz8
      clear hz8
      go_wp2_with (at_builtin; refine wpList_one elemB rfl (.tmp 17) (.tmp 20) rfl rfl own2 rfl (by first | rfl | simp) rfl (by omega) (by unfold maxLen; omega) ?_; intro A3 c3 w3 own3 _)
      go_ret
      have a := H2.out
      rw [H4.out] at a
      have e := H1.out
      rw [H3.out] at e
      refine ⟨A3, c3, ret_slice (by omega), ?_⟩
      have own4 : Own w w3 5 1 A3 (n + k + 1) c3 (xs ++ [Value.int IntKind.u8 (z : Int)]) := by first | exact own3 | (rw [H5.out] at own3; exact own3)
      rw [e] at own4
      rw [show n + (Lib.uvarint X).length = n + k + 1 by omega]
      simpa using own4

/-- A slice of words. -/
def WordsAt (w : World) (A : Option Addr) (n c : Nat) (l : List Nat) : Prop := Reads w A n c 1 (l.map uv)

theorem WordsAt.length {w : World} {A : Option Addr} {n c : Nat} {l : List Nat} (h : WordsAt w A n c l) : l.length = n := by have := Reads.len h; simpa using this

theorem WordsAt.word {w : World} {A : Option Addr} {n c : Nat} {l : List Nat} (h : WordsAt w A n c l) {k : Nat} (hk : k < n) :
    ∃ b off x, A = some ⟨b, off, none⟩ ∧ l[k]? = some x ∧ w.cell? ⟨b, off + k, none⟩ = some (.int .u64 (x : Int)) := by
  obtain ⟨b, off, e, _, hc⟩ := Reads.at_ h (by omega)
  have hl := h.length
  have hx : l[k]? = some (l[k]'(by omega)) := List.getElem?_eq_getElem (by omega)
  exact ⟨b, off, _, e, hx, hc k _ (by rw [List.getElem?_map, hx]; rfl)⟩

theorem ret_lc {A A' : Option Addr} {n n' c c' : Nat} {k : IntKind} {b b' : Int} (h0 : A = A') (h1 : n = n') (h2 : c = c') (h3 : b = b') : Ending.returned (.tuple #[.slice A n c, .int k b]) = .returned (.tuple #[.slice A' n' c', .int k b']) := by rw [h0, h1, h2, h3]

theorem ret_len {A : Option Addr} {n n' c : Nat} (h : n = n') : Value.slice A n c = Value.slice A n' c := by rw [h]

end Go.Proofs.YtlhbllaojjelcaaDoor

/- Contracts of layer 3: reading tags. -/
namespace Go.Proofs.YtlhbllaojjelcaaDoor
open Go.RowKit
set_option linter.unusedVariables false

theorem tRight (number wire : Int) (w : World) :
    Calls Tryd.prog 93 #[.agg #[.int .i64 number, .int .i64 wire]] w fun e w' => e = .returned (.bool (rightB number wire)) ∧ Ext w w' := by
  by_cases h1 : (1 : Int) ≤ number
  · by_cases h2 : number ≤ (536870911 : Int)
    · by_cases h3 : (0 : Int) ≤ wire
      · by_cases h4 : wire < (8 : Int)
        · rcases (show wire = 0 ∨ wire = 1 ∨ wire = 2 ∨ wire = 3 ∨ wire = 4 ∨ wire = 5 ∨ wire = 6 ∨ wire = 7 by omega) with h | h | h | h | h | h | h | h
          all_goals
            subst h
            go_enter Tryd.func93, Tryd.ntmps93
            go_wp2
            go_ret
            exact ⟨ret_bool (by unfold rightB; first | exact (decide_eq_true (by omega)).symm | exact (decide_eq_false (by omega)).symm), (Ext.refl _).alloc _⟩
        · go_enter Tryd.func93, Tryd.ntmps93
          go_wp2
          go_ret
          exact ⟨ret_bool (by unfold rightB; exact (decide_eq_false (by omega)).symm), (Ext.refl _).alloc _⟩
      · go_enter Tryd.func93, Tryd.ntmps93
        go_wp2
        go_ret
        exact ⟨ret_bool (by unfold rightB; exact (decide_eq_false (by omega)).symm), (Ext.refl _).alloc _⟩
    · go_enter Tryd.func93, Tryd.ntmps93
      go_wp2
      go_ret
      exact ⟨ret_bool (by unfold rightB; exact (decide_eq_false (by omega)).symm), (Ext.refl _).alloc _⟩
  · go_enter Tryd.func93, Tryd.ntmps93
    go_wp2
    go_ret
    exact ⟨ret_bool (by unfold rightB; exact (decide_eq_false (by omega)).symm), (Ext.refl _).alloc _⟩

end Go.Proofs.YtlhbllaojjelcaaDoor

/- Contracts of layer 3: the tag that bytes begin with. -/
namespace Go.Proofs.YtlhbllaojjelcaaDoor
open Go.RowKit
set_option linter.unusedVariables false

theorem tRead {A : Option Addr} {n c : Nat} {bs : List UInt8} {w : World} {T V N C : Nat} (hb : BytesAt w A n c bs) (ht : tagV bs = (T, V, N, C)) :
    Calls Tryd.prog 85 #[.slice A n c] w fun e w' => e = .returned (.tuple #[.agg #[.int .i64 T, .int .i64 V], .int .i64 N, .int .u8 C]) ∧ Ext w w' := by
  rcases hv : readV bs with ⟨W, M, E⟩
  have hbd := (readV_bd bs).1
  have hE4 := (readV_bd bs).2.2.2.1
  rw [hv] at hbd hE4
  simp only at hbd hE4
  unfold tagV at ht
  rw [hv] at ht
  simp only at ht
  have Hv := Lib.hid hv
  clear hv
  have hb' : ∀ o : Obj, BytesAt (w.alloc o) A n c bs := fun o => hb.ext ((Ext.refl _).alloc o)
  have Hb := Lib.hid hb'
  clear hb'
  by_cases hE : E = 0
  · subst hE
    rw [if_neg (by simp)] at ht
    have h7 := and7 W hbd
    by_cases hbig : (536870911 : Int) < (W : Int) / 8
    · have hr : rightB ((W / 8 : Nat) : Int) ((W % 8 : Nat) : Int) = false := by unfold rightB; exact decide_eq_false (by omega)
      rw [hr, if_neg (by simp)] at ht
      simp only [Prod.mk.injEq] at ht
      obtain ⟨rfl, rfl, rfl, rfl⟩ := ht
      clear hr
      go_enter Tryd.func85, Tryd.ntmps85
      go_wp2_with (go_at_call 27; refine (vRead (Hb.out _) Hv.out).mono ?_; rintro e w' ⟨rfl, rfl⟩)
      exact bodyPost_ret (v := .tuple #[.agg #[.int .i64 0, .int .i64 0], .int .i64 0, .int .u8 5]) (by simp [results, Tryd.results85, go_sem]) rfl ⟨rfl, (Ext.refl _).alloc _⟩
    · have hcell : ∀ (w1 : World) (E1 : Ext ((w.alloc (.cells #[.int .i64 0, .int .i64 0] 152)).alloc (.cells #[.int .i64 ((W : Int) / 8), .int .i64 ((W : Int) % 8)] 152)) w1),
          (w1.cell? ⟨w.heap.size, 0, none⟩ = some (.int .i64 0) ∧ w1.cell? ⟨w.heap.size, 1, none⟩ = some (.int .i64 0) ∧ w1.cell? ⟨w.heap.size + 1, 0, none⟩ = some (.int .i64 ((W : Int) / 8)) ∧ w1.cell? ⟨w.heap.size + 1, 1, none⟩ = some (.int .i64 ((W : Int) % 8))) ∧
          w1.frozen? ⟨w.heap.size, 0, none⟩ = false ∧ w1.frozen? ⟨w.heap.size, 1, none⟩ = false ∧ w.heap.size < w1.heap.size ∧ Ext w w1 := fun w1 E1 => by
        have h := two_blocks E1
        exact ⟨⟨h.1 0, h.1 1, h.2.1 0, h.2.1 1⟩, h.2.2.1 0, h.2.2.1 1, by have := h.2.2.2.2; omega, ((Ext.refl w).alloc _ |>.alloc _).trans E1⟩
      have Hc := Lib.hid hcell
      clear hcell
      by_cases hr : rightB ((W / 8 : Nat) : Int) ((W % 8 : Nat) : Int) = true
      · rw [if_pos hr] at ht
        simp only [Prod.mk.injEq] at ht
        obtain ⟨rfl, rfl, rfl, rfl⟩ := ht
        have hr' : rightB ((W : Int) / 8) ((W : Int) % 8) = true := hr
        clear hr
        go_enter Tryd.func85, Tryd.ntmps85
        go_wp2_with (first | (go_at_call 27; refine (vRead (Hb.out _) Hv.out).mono ?_; rintro e w' ⟨rfl, rfl⟩) | (go_at_call 93; refine (tRight _ _ _).mono ?_; rintro e w1 ⟨rfl, E1⟩; obtain ⟨⟨c1, c2, c3, c4⟩, f1, f2, hlt, E2⟩ := Hc.out w1 E1))
        exact bodyPost_ret (v := .tuple #[.agg #[.int .i64 ((W : Int) / 8), .int .i64 ((W : Int) % 8)], .int .i64 M, .int .u8 0]) (by simp [results, Tryd.results85, go_sem, c1, c2]) rfl ⟨rfl, (E2.setCell (Nat.le_refl _) _).setCell (Nat.le_refl _) _⟩
      · have hr0 : rightB ((W / 8 : Nat) : Int) ((W % 8 : Nat) : Int) = false := by simpa using hr
        rw [if_neg hr] at ht
        simp only [Prod.mk.injEq] at ht
        obtain ⟨rfl, rfl, rfl, rfl⟩ := ht
        have hr' : rightB ((W : Int) / 8) ((W : Int) % 8) = false := hr0
        clear hr hr0
        go_enter Tryd.func85, Tryd.ntmps85
        go_wp2_with (first | (go_at_call 27; refine (vRead (Hb.out _) Hv.out).mono ?_; rintro e w' ⟨rfl, rfl⟩) | (go_at_call 93; refine (tRight _ _ _).mono ?_; rintro e w1 ⟨rfl, E1⟩; obtain ⟨⟨c1, c2, c3, c4⟩, f1, f2, hlt, E2⟩ := Hc.out w1 E1))
        exact bodyPost_ret (v := .tuple #[.agg #[.int .i64 0, .int .i64 0], .int .i64 0, .int .u8 5]) (by simp [results, Tryd.results85, go_sem, c1, c2]) rfl ⟨rfl, (E2.setCell (Nat.le_refl _) _).setCell (Nat.le_refl _) _⟩
  · have q : ((E : Int) != 0) = true := by simp; omega
    rw [if_pos hE] at ht
    simp only [Prod.mk.injEq] at ht
    obtain ⟨rfl, rfl, rfl, rfl⟩ := ht
    go_enter Tryd.func85, Tryd.ntmps85
    go_wp2_with (go_at_call 27; refine (vRead (Hb.out _) Hv.out).mono ?_; rintro e w' ⟨rfl, rfl⟩)
    exact bodyPost_ret (v := .tuple #[.agg #[.int .i64 0, .int .i64 0], .int .i64 0, .int .u8 E]) (by simp [results, Tryd.results85, go_sem]) rfl ⟨rfl, (Ext.refl _).alloc _⟩

end Go.Proofs.YtlhbllaojjelcaaDoor

/- Contracts of layer 3: putting tags. -/
namespace Go.Proofs.YtlhbllaojjelcaaDoor
open Go.RowKit
set_option linter.unusedVariables false

theorem right_bd {number wire : Int} (h : rightB number wire = true) : 1 ≤ number ∧ number ≤ 536870911 ∧ 0 ≤ wire ∧ wire ≤ 5 := by
  unfold rightB at h
  have := of_decide_eq_true h
  omega

/-- A tag's bytes. -/
def tagB (number wire : Int) : List UInt8 := Lib.uvarint (8 * number + wire).toNat

theorem tagB_length {number wire : Int} (h : rightB number wire = true) : 1 ≤ (tagB number wire).length ∧ (tagB number wire).length ≤ 5 := by
  have hb := right_bd h
  refine ⟨Lib.uvarint_pos _, Lib.uvarint_length 4 _ ?_⟩
  omega

/-- How many bytes a tag has. -/
def tagSizeN (number wire : Int) : Nat := if rightB number wire = true then (tagB number wire).length else 0

/-- Does a tag come ahead? -/
def tagLessB (a b c d : Int) : Bool := decide (a < c ∨ a = c ∧ b < d)

end Go.Proofs.YtlhbllaojjelcaaDoor
