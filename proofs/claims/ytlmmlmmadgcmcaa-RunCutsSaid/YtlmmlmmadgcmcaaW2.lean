/- Contracts of layer 2: reading varints. -/
import Derived.Test.YtlmmlmmadgcmcaaChecked
import Derived.Test.YtlmmlmmadgcmcaaW1m
import Derived.Test.YtlmmlmmadgcmcaaS2
namespace Go.Proofs.Ytlmmlmmadgcmcaa
open Go.RowKit
set_option linter.unusedVariables false

theorem ret_v {a a' b b' c c' : Int} (h1 : a = a') (h2 : b = b') (h3 : c = c') : Ending.returned (.tuple #[.int .u64 a, .int .i64 b, .int .u8 c]) = .returned (.tuple #[.int .u64 a', .int .i64 b', .int .u8 c']) := by rw [h1, h2, h3]

theorem ret_vr {a a' b b' c c' : Int} (h1 : a = a') (h2 : b = b') (h3 : c = c') : Ending.returned (.tuple #[.int .u64 a, .int .i64 b, .int .i64 c]) = .returned (.tuple #[.int .u64 a', .int .i64 b', .int .i64 c']) := by rw [h1, h2, h3]

theorem vRead {A : Option Addr} {n c : Nat} {bs : List UInt8} {w : World} {W N C : Nat} (hb : BytesAt w A n c bs) (hv : readV bs = (W, N, C)) :
    Calls Try.prog 80 #[.slice A n c] w fun e w' => e = .returned (.tuple #[.int .u64 W, .int .i64 N, .int .u8 C]) ∧ w = w' := by
  have hl := hb.length
  have hmax := Reads.max hb
  have hcap := Reads.cap hb
  unfold maxLen at hmax
  have Hv := Lib.hid hv
  clear hv
  go_enter Try.func80, Try.ntmps80
  go_wp2
  go_loop [5, 6, 7, 10] (fun v _ _ i => ∃ k : Nat, k ≤ n ∧ k ≤ 9 ∧ i = .int .i64 k ∧ v = .int .u64 (wordV (bs.take k) : Nat) ∧ Cont bs k) (fun _ _ _ i => n - (intOf i).toNat)
  case atStart => exact ⟨0, Nat.zero_le _, Nat.zero_le _, rfl, by simp [wordV], Cont.zero bs⟩
  case round =>
    obtain ⟨k, hk, hk9, rfl, rfl, hC⟩ := hrel
    by_cases hlt : k < n
    · obtain ⟨b, off, x, rfl, hx, hcell⟩ := hb.byte hlt
      have hsn := take_snoc bs k x hx
      have hlk : (bs.take k).length = k := by rw [List.length_take]; omega
      have hx256 := u8_ltI x
      by_cases hbig : (9 : Int) ≤ k ∧ (1 : Int) < x.toNat
      · obtain ⟨h9, h1⟩ := hbig
        have hr := readV_over (bs := bs) (c := x) (by rw [show 9 = k by omega]; exact hC) (by rw [show 9 = k by omega]; exact hx) (by omega)
        have Hr := Lib.hid hr
        clear hr hsn hlk hx hC hl
        have hq : ((k : Int) == 9) = true := by simp; omega
        go_wp2
        go_ret3
        have e := Hv.out.symm.trans Hr.out
        exact ⟨ret_v (by simp at e; omega) (by simp at e; omega) (by simp at e; omega), rfl⟩
      · have hor := read_or' (bs.take k) k x hlk hk9 (fun e => by omega)
        rw [← hsn] at hor
        have Ho := Lib.hid hor
        have Hx := Lib.hid hx
        clear hor hx hsn hlk hl
        have done : ∀ (h : (x.toNat : Int) < 128), (W : Int) = (wordV (bs.take (k + 1)) : Nat) ∧ N = k + 1 ∧ C = 0 := by
          intro h
          have e := Hv.out.symm.trans (readV_done hC hk9 Hx.out (by omega) (fun e => by omega))
          simp at e
          exact ⟨by rw [e.1], e.2.1, e.2.2⟩
        have Hd := Lib.hid done
        clear done
        by_cases h9 : (9 : Int) ≤ k
        · have h1 : (x.toNat : Int) ≤ 1 := by omega
          have h128 : (x.toNat : Int) < 128 := by omega
          have hd : ¬ ((1 : Int) < x.toNat) := by omega
          clear hbig hx256 h1
          have hq : ((k : Int) == 9) = true := by simp; omega
          go_wp2
          go_ret3
          have d := Hd.out (by omega)
          exact ⟨ret_v (by rw [d.1, ← Ho.out]) (by omega) (by omega), rfl⟩
        · clear hbig
          have hq : ((k : Int) == 9) = false := by simp; omega
          by_cases h128 : (x.toNat : Int) < 128
          · go_wp2
            go_ret3
            have d := Hd.out h128
            exact ⟨ret_v (by rw [d.1, ← Ho.out]) (by omega) (by omega), rfl⟩
          · go_wp2
            go_round
            case rel => exact ⟨k + 1, by omega, by omega, by go_num, by rw [← Ho.out], hC.succ Hx.out (by omega)⟩
            case measure => simp [intOf]; omega
    · have hr := readV_short hC hk9 (by omega)
      have Hr := Lib.hid hr
      clear hr hl
      go_wp2
      go_ret3
      have e := Hv.out.symm.trans Hr.out
      exact ⟨ret_v (by simp at e; omega) (by simp at e; omega) (by simp at e; omega), rfl⟩

theorem Cont.of_take {bs : List UInt8} {p k : Nat} {x : UInt8} (h : Cont (bs.drop p) k) (hx : bs[p + k]? = some x) (hb : 128 ≤ x.toNat) : Cont (bs.drop p) (k + 1) :=
  h.succ (by rw [List.getElem?_drop]; exact hx) hb

theorem vReadR {A : Option Addr} {n c : Nat} {bs : List UInt8} {w : World} {W N C p : Nat} {at_ : Int} (hb : BytesAt w A n c bs) (hat : at_ = p) (hp : p ≤ n) (hn : n ≤ 9000000000000000000) (hv : readV (bs.drop p) = (W, N, C)) :
    Calls Try.prog 83 #[.slice A n c, .int .i64 at_] w fun e w' => e = .returned (.tuple #[.int .u64 W, .int .i64 N, .int .i64 C]) ∧ w = w' := by
  subst hat
  have hl := hb.length
  have hcap := Reads.cap hb
  have Hv := Lib.hid hv
  clear hv
  go_enter Try.func83, Try.ntmps83
  go_wp2
  go_loop [7] (fun i => ∃ k : Nat, p + k ≤ n ∧ k ≤ 10 ∧ i = .int .i64 k ∧ Cont (bs.drop p) k) (fun i => 10 - (intOf i).toNat)
  case atStart => exact ⟨0, by omega, by omega, rfl, Cont.zero _⟩
  case round =>
    obtain ⟨k, hk, hk10, rfl, hC⟩ := hrel
    by_cases hlt : (p : Int) + k < n
    · obtain ⟨b, off, x, rfl, hx, hcell⟩ := hb.byte (show p + k < n by omega)
      have hxd : (bs.drop p)[k]? = some x := by rw [List.getElem?_drop]; exact hx
      by_cases h10 : (k : Int) < 10
      · have hq10 : ((k : Int) == 10) = false := by simp; omega
        have hql : ((p : Int) + k == (n : Int)) = false := by simp; omega
        by_cases hbig : (128 : Int) ≤ x.toNat
        · have Hx := Lib.hid hxd
          clear hx hxd hl
          go_wp2
          go_round
          case rel => exact ⟨k + 1, by omega, by omega, by go_num, hC.succ Hx.out (by omega)⟩
          case measure => simp [intOf]; omega
        · by_cases h9 : (9 : Int) ≤ k ∧ (1 : Int) < x.toNat
          · obtain ⟨h9, h1⟩ := h9
            have hq9 : ((k : Int) == 9) = true := by simp; omega
            have e := Hv.out.symm.trans (readV_over (bs := bs.drop p) (c := x) (by rw [show 9 = k by omega]; exact hC) (by rw [show 9 = k by omega]; exact hxd) (by omega))
            have He := Lib.hid e
            clear e hx hxd hl hC
            go_wp2
            go_ret3
            have e := He.out
            exact ⟨ret_vr (by simp at e; omega) (by simp at e; omega) (by simp at e; omega), rfl⟩
          · have e := Hv.out.symm.trans (readV_done hC (by omega) hxd (by omega) (fun e => by omega))
            have hW := wordV_take_lt (bs := bs.drop p) (k := k) (by omega) hxd (fun e => by omega)
            obtain ⟨L, hL⟩ : ∃ L, L = (bs.drop p).take (k + 1) := ⟨_, rfl⟩
            rw [← hL] at e hW
            have hLl : L.length = k + 1 := by rw [hL, List.length_take, List.length_drop]; omega
            have hLi : ∀ j, j ≤ k → L[j]? = bs[p + j]? := by
              intro j hj
              rw [hL, List.getElem?_take_of_lt (by omega), List.getElem?_drop]
            have He := Lib.hid e
            have HL := Lib.hid hLl
            have HI := Lib.hid hLi
            clear e hx hxd hl hC hL hLl hLi
            by_cases h9' : (9 : Int) ≤ k
            all_goals
              first
                | (have hq9 : ((k : Int) == 9) = true := by simp; omega
                   have hx1 : ¬ (1 : Int) < x.toNat := by omega
                   skip)
                | have hq9 : ((k : Int) == 9) = false := by simp; omega
              clear h9 h9'
              go_wp2
              go_loop [8, 9] (fun v i => ∃ j : Nat, j ≤ k + 1 ∧ i = .int .i64 ((j : Int) - 1) ∧ v = .int .u64 (wordV (L.drop j) : Nat)) (fun _ i => (intOf i + 1).toNat)
              case atStart => exact ⟨k + 1, Nat.le_refl _, by congr 1; omega, by rw [List.drop_of_length_le (by rw [HL.out]; exact Nat.le_refl _)]; rfl⟩
              case round =>
                obtain ⟨j, hj, rfl, rfl⟩ := hrel
                by_cases hj0 : (0 : Int) ≤ (j : Int) - 1
                · obtain ⟨b', off', y, hbo, hy, hcy⟩ := hb.byte (show p + (j - 1) < n by omega)
                  cases hbo
                  obtain ⟨i, rfl⟩ : ∃ i, j = i + 1 := ⟨j - 1, by omega⟩
                  have hst := wordV_step L i y (by rw [HI.out i (by omega)]; exact hy)
                  have hle := wordV_drop_le L i
                  rw [Nat.add_sub_cancel] at hcy hy
                  generalize hA : wordV (L.drop i) = WA at *
                  generalize hB : wordV (L.drop (i + 1)) = WB at *
                  have HA := Lib.hid hA
                  have HS := Lib.hid hst
                  have hy256 := u8_ltI y
                  have hov : 128 * WB < 18446744073709551616 - y.toNat % 128 := by omega
                  clear hst hA hB hy
                  go_wp2
                  go_round
                  case rel => exact ⟨i, by omega, by go_num, by rw [HA.out, HS.out]; go_num⟩
                  case measure => simp [intOf] <;> omega
                · have j0 : j = 0 := by omega
                  subst j0
                  go_wp2
                  go_ret3
                  have e := He.out
                  exact ⟨ret_vr (by simp at e; omega) (by simp at e; omega) (by simp at e; omega), rfl⟩
      · have hq10 : ((k : Int) == 10) = true := by simp; omega
        obtain ⟨z, hz, hz8⟩ := hC 9 (by omega)
        have e := Hv.out.symm.trans (readV_over (bs := bs.drop p) (fun j hj => hC j (by omega)) hz (by omega))
        have He := Lib.hid e
        clear e hx hxd hl hC hz hz8
        go_wp2
        go_ret3
        have e := He.out
        exact ⟨ret_vr (by simp at e; omega) (by simp at e; omega) (by simp at e; omega), rfl⟩
    · have hql : ((p : Int) + k == (n : Int)) = true := by simp; omega
      by_cases h10 : (k : Int) < 10
      · have hq10 : ((k : Int) == 10) = false := by simp; omega
        have e := Hv.out.symm.trans (readV_short hC (by omega) (by rw [List.length_drop]; omega))
        have He := Lib.hid e
        clear e hl hC
        go_wp2
        go_ret3
        have e := He.out
        exact ⟨ret_vr (by simp at e; omega) (by simp at e; omega) (by simp at e; omega), rfl⟩
      · have hq10 : ((k : Int) == 10) = true := by simp; omega
        obtain ⟨z, hz, hz8⟩ := hC 9 (by omega)
        have e := Hv.out.symm.trans (readV_over (bs := bs.drop p) (fun j hj => hC j (by omega)) hz (by omega))
        have He := Lib.hid e
        clear e hl hC hz hz8
        go_wp2
        go_ret3
        have e := He.out
        exact ⟨ret_vr (by simp at e; omega) (by simp at e; omega) (by simp at e; omega), rfl⟩

end Go.Proofs.Ytlmmlmmadgcmcaa
