/- Contracts of layer 4's reference: the next code point; the first place that isn't right. -/
import Derived.Test.YtcipokmklkognaaW4c
import Derived.Test.YtcipokmklkognaaW6d
import Derived.Deep.RegionWith
namespace Go.Proofs.Ytcipokmklkognaa
open Go.RowKit
set_option linter.unusedVariables false

/-- The head's bits, as the reference takes them. -/
def headR (n : Nat) (b : Nat) : Nat := if n = 2 then b % 32 else if n = 3 then b % 16 else if n = 4 then b % 8 else b

theorem tryN_cons (n : Nat) (b : UInt8) (t : List UInt8) : tryN n (b :: t) = joinN (headR n b.toNat) (t.take (n - 1)) := rfl

theorem list_yes {xs ys : List UInt8} (h : xs = ys) : (xs == ys) = true := by simpa using h

theorem list_no {xs ys : List UInt8} (h : xs ≠ ys) : (xs == ys) = false := by simpa using h

set_option maxRecDepth 100000 in
set_option maxHeartbeats 4000000 in
theorem uNextR {A : Option Addr} {n c p : Nat} {bs : List UInt8} {w : World} (hb : BytesAt w A n c bs) (hp : p ≤ n) (hn : n ≤ 9000000000000000000) :
    Calls Try.prog 56 #[.slice A n c, .int .i64 p] w fun e w' => e = .returned (.int .i64 (nextV (bs.drop p) : Nat)) ∧ Ext w w' := by
  have hl := hb.length
  have hmax := Reads.max hb
  have hcap := Reads.cap hb
  unfold maxLen at hmax
  go_enter Try.func56, Try.ntmps56
  go_wp2
  go_loopw [5] (fun u wr => ∃ k : Nat, 1 ≤ k ∧ k ≤ 5 ∧ u = .int .i64 (k : Nat) ∧ (∀ m, 1 ≤ m → m < k → nextV (bs.drop p) ≠ m) ∧ Ext w wr) (fun u _ => 6 - (intOf u).toNat)
  case atStart => exact ⟨1, by omega, by omega, rfl, fun m h1 h2 => by omega, Ext.refl _⟩
  case round =>
    obtain ⟨k, hk1, hk5, rfl, hno, hE⟩ := hrel
    have hnl := nextV_le (bs.drop p)
    rw [List.length_drop, hl] at hnl
    have Hno := Lib.hid hno
    have Hnl := Lib.hid hnl
    clear hno hnl
    by_cases hk4 : (k : Int) ≤ 4
    · by_cases hpk : (p : Int) + k ≤ n
      · obtain ⟨b, off, x, rfl, hx, hcell⟩ := hb.byte (show p < n by omega)
        have hcell := hE.of_cell hcell
        have hx256 := u8_ltI x
        have hca : ¬ c = p := by omega
        obtain ⟨A2, hcut, hr2⟩ := cut_both elemB hb .i64 .i64 (l := p) (m := p + k) (by omega) (by omega)
        have hcutB : BytesAt w A2 k (c - p) ((bs.drop p).take k) := by
          have h := hr2
          simp only [Nat.mul_one, ← List.map_drop, ← List.map_take] at h
          rw [Nat.add_sub_cancel_left, List.drop_take, Nat.add_sub_cancel_left] at h
          exact h
        rw [Nat.add_sub_cancel_left] at hcut
        have HC := Lib.hid hcut
        have hd : bs.drop p = x :: bs.drop (p + 1) := by
          rw [List.drop_eq_getElem_cons (by omega)]
          congr 1
          rw [List.getElem?_eq_getElem (by omega)] at hx
          exact Option.some.inj hx
        have HD := Lib.hid hd
        clear hd
        clear hr2 hcut
        have HCB := Lib.hid hcutB
        clear hcutB
        have HE := Lib.hid (hE.trans (((Ext.refl wr).alloc (.cells #[.int .i64 0, .int .i64 0, .int .i64 32, .int .i64 16, .int .i64 8] 3))))
        rcases (show k = 1 ∨ k = 2 ∨ k = 3 ∨ k = 4 by omega) with rfl | rfl | rfl | rfl
        · go_wp2
          go_loop [6, 7] (fun u v => ∃ i : Nat, 1 ≤ i ∧ i ≤ 1 ∧ u = .int .i64 (joinN (x.toNat) ((bs.drop (p + 1)).take (i - 1)) : Nat) ∧ v = .int .i64 (i : Nat)) (fun _ v => 5 - (intOf v).toNat)
          case atStart => exact ⟨1, by omega, by omega, congrArg (Value.int .i64) (by simp [joinN]), rfl⟩
          case round =>
            obtain ⟨i, hi1, hik, rfl, rfl⟩ := hrel
            have hJ := joinN_lt ((bs.drop (p + 1)).take (i - 1)) (x.toNat)
            have hJl : ((bs.drop (p + 1)).take (i - 1)).length ≤ 3 := by rw [List.length_take]; omega
            have hJ2 : (x.toNat + 1) * 64 ^ ((bs.drop (p + 1)).take (i - 1)).length ≤ 256 * 64 ^ 3 := Nat.mul_le_mul (by have := x.toNat_lt; omega) (Nat.pow_le_pow_right (by decide) hJl)
            by_cases hik2 : (i : Int) < 1
            · obtain ⟨b2, off2, y, e2, hy, hc2⟩ := hb.byte (show p + i < n by omega)
              obtain ⟨rfl, rfl⟩ : b = b2 ∧ off = off2 := by simp at e2 ⊢
              have hy256 := u8_ltI y
              have hcy := hE.of_cell hc2
              have hs : (bs.drop (p + 1)).take i = (bs.drop (p + 1)).take (i - 1) ++ [y] := by
                have := List.take_add_one (l := bs.drop (p + 1)) (i := i - 1)
                rw [List.getElem?_drop, show p + 1 + (i - 1) = p + i by omega, hy] at this
                rw [show i - 1 + 1 = i by omega] at this
                exact this
              generalize hR : joinN (x.toNat) ((bs.drop (p + 1)).take (i - 1)) = R at hJ
              have hR2 : (R : Int) < 67108864 := by omega
              have HR := Lib.hid hR
              have Hs := Lib.hid hs
              clear hR hs hJ hJ2 hJl hy hc2 hl
              go_wp2
              go_round
              case rel =>
                refine ⟨i + 1, by omega, by omega, ?_, by go_num⟩
                rw [show i + 1 - 1 = i by omega, Hs.out, joinN_snoc, HR.out]
                exact congrArg (Value.int .i64) (by omega)
              case measure => simp [intOf]; omega
            · have hi2 : i = 1 := by omega
              subst hi2
              have hR2 : joinN (x.toNat) ((bs.drop (p + 1)).take (1 - 1)) < 9223372036854775808 := by omega
              generalize hR : joinN (x.toNat) ((bs.drop (p + 1)).take (1 - 1)) = R at hJ hR2
              have hkey : putV R = (bs.drop p).take 1 ↔ nextV (bs.drop p) = 1 := by
                have h := putV_next 1 (by omega) (by omega) (bs.drop p) (by rw [List.length_drop]; omega)
                have ht : tryN 1 (bs.drop p) = R := by rw [HD.out, tryN_cons]; exact hR
                rwa [ht] at h
              clear hR hJ hJ2 hJl hl
              have hE0 := hE.drew
              have cv0 := (HCB.out.ext hE0).convert (P := Try.prog) 22 5 9 Try.underlying22 Try.underlying5 Try.underlying9
              have hcut : ∀ W : World, (Instr.slice 22 (.slice (some ⟨b, off, none⟩) n c) (some (.int .i64 (p : Int))) (some (.int .i64 ((p : Int) + 1))) none).run Try.prog W = .ok (.slice A2 1 (c - p)) W := HC.out
              have hwr : IntKind.i64.wrap ((p : Int) + 1) = (p : Int) + 1 := by rw [IntKind.wrap_i64]; omega
              by_cases he : putV R = (bs.drop p).take 1
              · have hs := list_yes he
                have Hk := Lib.hid (hkey.1 he)
                clear he hkey
                go_wp2
                generalize (some (⟨b, off, none⟩ : Addr)) = A at hcut ⊢
                go_region_with (go_at_call 45; refine (uPutR (R := R) rfl hR2 _).mono ?_; rintro e w1 ⟨A1, c1, rfl, own1⟩; have cv1 := BytesAt.convert own1.reads (P := Try.prog) 22 5 9 Try.underlying22 Try.underlying5 Try.underlying9; have cv2 := (HCB.out.ext (hE0.trans own1.ext)).convert (P := Try.prog) 22 5 9 Try.underlying22 Try.underlying5 Try.underlying9)
                all_goals go_simp
                all_goals go_wp2
                all_goals go_ret
                all_goals rw [Hk.out]
                all_goals exact ⟨rfl, hE0.trans own1.ext⟩
              · have hs := list_no he
                have Hk := Lib.hid (fun h => he (hkey.2 h))
                clear he hkey
                go_wp2
                generalize hA : (some (⟨b, off, none⟩ : Addr)) = A at hcut ⊢
                go_region_with (go_at_call 45; refine (uPutR (R := R) rfl hR2 _).mono ?_; rintro e w1 ⟨A1, c1, rfl, own1⟩; have cv1 := BytesAt.convert own1.reads (P := Try.prog) 22 5 9 Try.underlying22 Try.underlying5 Try.underlying9; have cv2 := (HCB.out.ext (hE0.trans own1.ext)).convert (P := Try.prog) 22 5 9 Try.underlying22 Try.underlying5 Try.underlying9)
                all_goals subst hA
                all_goals go_simp
                all_goals go_wp2
                all_goals go_roundw
                all_goals first
                  | exact ⟨1 + 1, by omega, by omega, rfl, fun m h1 h2 => if h : m = 1 then by rw [h]; exact Hk.out else Hno.out m h1 (by omega), hE0.trans own1.ext⟩
                  | (simp [intOf]; done)
                  | (simp [intOf]; omega)
        · go_wp2
          go_loop [6, 7] (fun u v => ∃ i : Nat, 1 ≤ i ∧ i ≤ 2 ∧ u = .int .i64 (joinN (x.toNat % 32) ((bs.drop (p + 1)).take (i - 1)) : Nat) ∧ v = .int .i64 (i : Nat)) (fun _ v => 5 - (intOf v).toNat)
          case atStart => exact ⟨1, by omega, by omega, congrArg (Value.int .i64) (by simp [joinN]), rfl⟩
          case round =>
            obtain ⟨i, hi1, hik, rfl, rfl⟩ := hrel
            have hJ := joinN_lt ((bs.drop (p + 1)).take (i - 1)) (x.toNat % 32)
            have hJl : ((bs.drop (p + 1)).take (i - 1)).length ≤ 3 := by rw [List.length_take]; omega
            have hJ2 : (x.toNat % 32 + 1) * 64 ^ ((bs.drop (p + 1)).take (i - 1)).length ≤ 256 * 64 ^ 3 := Nat.mul_le_mul (by have := x.toNat_lt; omega) (Nat.pow_le_pow_right (by decide) hJl)
            by_cases hik2 : (i : Int) < 2
            · obtain ⟨b2, off2, y, e2, hy, hc2⟩ := hb.byte (show p + i < n by omega)
              obtain ⟨rfl, rfl⟩ : b = b2 ∧ off = off2 := by simpa using e2
              have hy256 := u8_ltI y
              have hcy := HE.out.of_cell hc2
              have hs : (bs.drop (p + 1)).take i = (bs.drop (p + 1)).take (i - 1) ++ [y] := by
                have := List.take_add_one (l := bs.drop (p + 1)) (i := i - 1)
                rw [List.getElem?_drop, show p + 1 + (i - 1) = p + i by omega, hy] at this
                rw [show i - 1 + 1 = i by omega] at this
                exact this
              generalize hR : joinN (x.toNat % 32) ((bs.drop (p + 1)).take (i - 1)) = R at hJ
              have hR2 : (R : Int) < 67108864 := by omega
              have HR := Lib.hid hR
              have Hs := Lib.hid hs
              clear hR hs hJ hJ2 hJl hy hc2 hl
              go_wp2
              go_round
              case rel =>
                refine ⟨i + 1, by omega, by omega, ?_, by go_num⟩
                rw [show i + 1 - 1 = i by omega, Hs.out, joinN_snoc, HR.out]
                exact congrArg (Value.int .i64) (by omega)
              case measure => simp [intOf]; omega
            · have hi2 : i = 2 := by omega
              subst hi2
              have hR2 : joinN (x.toNat % 32) ((bs.drop (p + 1)).take (2 - 1)) < 9223372036854775808 := by omega
              generalize hR : joinN (x.toNat % 32) ((bs.drop (p + 1)).take (2 - 1)) = R at hJ hR2
              have hkey : putV R = (bs.drop p).take 2 ↔ nextV (bs.drop p) = 2 := by
                have h := putV_next 2 (by omega) (by omega) (bs.drop p) (by rw [List.length_drop]; omega)
                have ht : tryN 2 (bs.drop p) = R := by rw [HD.out, tryN_cons]; exact hR
                rwa [ht] at h
              clear hR hJ hJ2 hJl hl
              have hE0 := HE.out.drew
              have cv0 := (HCB.out.ext hE0).convert (P := Try.prog) 22 5 9 Try.underlying22 Try.underlying5 Try.underlying9
              have hcut : ∀ W : World, (Instr.slice 22 (.slice (some ⟨b, off, none⟩) n c) (some (.int .i64 (p : Int))) (some (.int .i64 ((p : Int) + 2))) none).run Try.prog W = .ok (.slice A2 2 (c - p)) W := HC.out
              have hwr : IntKind.i64.wrap ((p : Int) + 2) = (p : Int) + 2 := by rw [IntKind.wrap_i64]; omega
              by_cases he : putV R = (bs.drop p).take 2
              · have hs := list_yes he
                have Hk := Lib.hid (hkey.1 he)
                clear he hkey
                go_wp2
                generalize (some (⟨b, off, none⟩ : Addr)) = A at hcut ⊢
                go_region_with (go_at_call 45; refine (uPutR (R := R) rfl hR2 _).mono ?_; rintro e w1 ⟨A1, c1, rfl, own1⟩; have cv1 := BytesAt.convert own1.reads (P := Try.prog) 22 5 9 Try.underlying22 Try.underlying5 Try.underlying9; have cv2 := (HCB.out.ext (hE0.trans own1.ext)).convert (P := Try.prog) 22 5 9 Try.underlying22 Try.underlying5 Try.underlying9)
                all_goals go_simp
                all_goals go_wp2
                all_goals go_ret
                all_goals rw [Hk.out]
                all_goals exact ⟨rfl, hE0.trans own1.ext⟩
              · have hs := list_no he
                have Hk := Lib.hid (fun h => he (hkey.2 h))
                clear he hkey
                go_wp2
                generalize hA : (some (⟨b, off, none⟩ : Addr)) = A at hcut ⊢
                go_region_with (go_at_call 45; refine (uPutR (R := R) rfl hR2 _).mono ?_; rintro e w1 ⟨A1, c1, rfl, own1⟩; have cv1 := BytesAt.convert own1.reads (P := Try.prog) 22 5 9 Try.underlying22 Try.underlying5 Try.underlying9; have cv2 := (HCB.out.ext (hE0.trans own1.ext)).convert (P := Try.prog) 22 5 9 Try.underlying22 Try.underlying5 Try.underlying9)
                all_goals subst hA
                all_goals go_simp
                all_goals go_wp2
                all_goals go_roundw
                all_goals first
                  | exact ⟨2 + 1, by omega, by omega, rfl, fun m h1 h2 => if h : m = 2 then by rw [h]; exact Hk.out else Hno.out m h1 (by omega), hE0.trans own1.ext⟩
                  | (simp [intOf]; done)
                  | (simp [intOf]; omega)
        · go_wp2
          go_loop [6, 7] (fun u v => ∃ i : Nat, 1 ≤ i ∧ i ≤ 3 ∧ u = .int .i64 (joinN (x.toNat % 16) ((bs.drop (p + 1)).take (i - 1)) : Nat) ∧ v = .int .i64 (i : Nat)) (fun _ v => 5 - (intOf v).toNat)
          case atStart => exact ⟨1, by omega, by omega, congrArg (Value.int .i64) (by simp [joinN]), rfl⟩
          case round =>
            obtain ⟨i, hi1, hik, rfl, rfl⟩ := hrel
            have hJ := joinN_lt ((bs.drop (p + 1)).take (i - 1)) (x.toNat % 16)
            have hJl : ((bs.drop (p + 1)).take (i - 1)).length ≤ 3 := by rw [List.length_take]; omega
            have hJ2 : (x.toNat % 16 + 1) * 64 ^ ((bs.drop (p + 1)).take (i - 1)).length ≤ 256 * 64 ^ 3 := Nat.mul_le_mul (by have := x.toNat_lt; omega) (Nat.pow_le_pow_right (by decide) hJl)
            by_cases hik2 : (i : Int) < 3
            · obtain ⟨b2, off2, y, e2, hy, hc2⟩ := hb.byte (show p + i < n by omega)
              obtain ⟨rfl, rfl⟩ : b = b2 ∧ off = off2 := by simpa using e2
              have hy256 := u8_ltI y
              have hcy := HE.out.of_cell hc2
              have hs : (bs.drop (p + 1)).take i = (bs.drop (p + 1)).take (i - 1) ++ [y] := by
                have := List.take_add_one (l := bs.drop (p + 1)) (i := i - 1)
                rw [List.getElem?_drop, show p + 1 + (i - 1) = p + i by omega, hy] at this
                rw [show i - 1 + 1 = i by omega] at this
                exact this
              generalize hR : joinN (x.toNat % 16) ((bs.drop (p + 1)).take (i - 1)) = R at hJ
              have hR2 : (R : Int) < 67108864 := by omega
              have HR := Lib.hid hR
              have Hs := Lib.hid hs
              clear hR hs hJ hJ2 hJl hy hc2 hl
              go_wp2
              go_round
              case rel =>
                refine ⟨i + 1, by omega, by omega, ?_, by go_num⟩
                rw [show i + 1 - 1 = i by omega, Hs.out, joinN_snoc, HR.out]
                exact congrArg (Value.int .i64) (by omega)
              case measure => simp [intOf]; omega
            · have hi2 : i = 3 := by omega
              subst hi2
              have hR2 : joinN (x.toNat % 16) ((bs.drop (p + 1)).take (3 - 1)) < 9223372036854775808 := by omega
              generalize hR : joinN (x.toNat % 16) ((bs.drop (p + 1)).take (3 - 1)) = R at hJ hR2
              have hkey : putV R = (bs.drop p).take 3 ↔ nextV (bs.drop p) = 3 := by
                have h := putV_next 3 (by omega) (by omega) (bs.drop p) (by rw [List.length_drop]; omega)
                have ht : tryN 3 (bs.drop p) = R := by rw [HD.out, tryN_cons]; exact hR
                rwa [ht] at h
              clear hR hJ hJ2 hJl hl
              have hE0 := HE.out.drew
              have cv0 := (HCB.out.ext hE0).convert (P := Try.prog) 22 5 9 Try.underlying22 Try.underlying5 Try.underlying9
              have hcut : ∀ W : World, (Instr.slice 22 (.slice (some ⟨b, off, none⟩) n c) (some (.int .i64 (p : Int))) (some (.int .i64 ((p : Int) + 3))) none).run Try.prog W = .ok (.slice A2 3 (c - p)) W := HC.out
              have hwr : IntKind.i64.wrap ((p : Int) + 3) = (p : Int) + 3 := by rw [IntKind.wrap_i64]; omega
              by_cases he : putV R = (bs.drop p).take 3
              · have hs := list_yes he
                have Hk := Lib.hid (hkey.1 he)
                clear he hkey
                go_wp2
                generalize (some (⟨b, off, none⟩ : Addr)) = A at hcut ⊢
                go_region_with (go_at_call 45; refine (uPutR (R := R) rfl hR2 _).mono ?_; rintro e w1 ⟨A1, c1, rfl, own1⟩; have cv1 := BytesAt.convert own1.reads (P := Try.prog) 22 5 9 Try.underlying22 Try.underlying5 Try.underlying9; have cv2 := (HCB.out.ext (hE0.trans own1.ext)).convert (P := Try.prog) 22 5 9 Try.underlying22 Try.underlying5 Try.underlying9)
                all_goals go_simp
                all_goals go_wp2
                all_goals go_ret
                all_goals rw [Hk.out]
                all_goals exact ⟨rfl, hE0.trans own1.ext⟩
              · have hs := list_no he
                have Hk := Lib.hid (fun h => he (hkey.2 h))
                clear he hkey
                go_wp2
                generalize hA : (some (⟨b, off, none⟩ : Addr)) = A at hcut ⊢
                go_region_with (go_at_call 45; refine (uPutR (R := R) rfl hR2 _).mono ?_; rintro e w1 ⟨A1, c1, rfl, own1⟩; have cv1 := BytesAt.convert own1.reads (P := Try.prog) 22 5 9 Try.underlying22 Try.underlying5 Try.underlying9; have cv2 := (HCB.out.ext (hE0.trans own1.ext)).convert (P := Try.prog) 22 5 9 Try.underlying22 Try.underlying5 Try.underlying9)
                all_goals subst hA
                all_goals go_simp
                all_goals go_wp2
                all_goals go_roundw
                all_goals first
                  | exact ⟨3 + 1, by omega, by omega, rfl, fun m h1 h2 => if h : m = 3 then by rw [h]; exact Hk.out else Hno.out m h1 (by omega), hE0.trans own1.ext⟩
                  | (simp [intOf]; done)
                  | (simp [intOf]; omega)
        · go_wp2
          go_loop [6, 7] (fun u v => ∃ i : Nat, 1 ≤ i ∧ i ≤ 4 ∧ u = .int .i64 (joinN (x.toNat % 8) ((bs.drop (p + 1)).take (i - 1)) : Nat) ∧ v = .int .i64 (i : Nat)) (fun _ v => 5 - (intOf v).toNat)
          case atStart => exact ⟨1, by omega, by omega, congrArg (Value.int .i64) (by simp [joinN]), rfl⟩
          case round =>
            obtain ⟨i, hi1, hik, rfl, rfl⟩ := hrel
            have hJ := joinN_lt ((bs.drop (p + 1)).take (i - 1)) (x.toNat % 8)
            have hJl : ((bs.drop (p + 1)).take (i - 1)).length ≤ 3 := by rw [List.length_take]; omega
            have hJ2 : (x.toNat % 8 + 1) * 64 ^ ((bs.drop (p + 1)).take (i - 1)).length ≤ 256 * 64 ^ 3 := Nat.mul_le_mul (by have := x.toNat_lt; omega) (Nat.pow_le_pow_right (by decide) hJl)
            by_cases hik2 : (i : Int) < 4
            · obtain ⟨b2, off2, y, e2, hy, hc2⟩ := hb.byte (show p + i < n by omega)
              obtain ⟨rfl, rfl⟩ : b = b2 ∧ off = off2 := by simpa using e2
              have hy256 := u8_ltI y
              have hcy := HE.out.of_cell hc2
              have hs : (bs.drop (p + 1)).take i = (bs.drop (p + 1)).take (i - 1) ++ [y] := by
                have := List.take_add_one (l := bs.drop (p + 1)) (i := i - 1)
                rw [List.getElem?_drop, show p + 1 + (i - 1) = p + i by omega, hy] at this
                rw [show i - 1 + 1 = i by omega] at this
                exact this
              generalize hR : joinN (x.toNat % 8) ((bs.drop (p + 1)).take (i - 1)) = R at hJ
              have hR2 : (R : Int) < 67108864 := by omega
              have HR := Lib.hid hR
              have Hs := Lib.hid hs
              clear hR hs hJ hJ2 hJl hy hc2 hl
              go_wp2
              go_round
              case rel =>
                refine ⟨i + 1, by omega, by omega, ?_, by go_num⟩
                rw [show i + 1 - 1 = i by omega, Hs.out, joinN_snoc, HR.out]
                exact congrArg (Value.int .i64) (by omega)
              case measure => simp [intOf]; omega
            · have hi2 : i = 4 := by omega
              subst hi2
              have hR2 : joinN (x.toNat % 8) ((bs.drop (p + 1)).take (4 - 1)) < 9223372036854775808 := by omega
              generalize hR : joinN (x.toNat % 8) ((bs.drop (p + 1)).take (4 - 1)) = R at hJ hR2
              have hkey : putV R = (bs.drop p).take 4 ↔ nextV (bs.drop p) = 4 := by
                have h := putV_next 4 (by omega) (by omega) (bs.drop p) (by rw [List.length_drop]; omega)
                have ht : tryN 4 (bs.drop p) = R := by rw [HD.out, tryN_cons]; exact hR
                rwa [ht] at h
              clear hR hJ hJ2 hJl hl
              have hE0 := HE.out.drew
              have cv0 := (HCB.out.ext hE0).convert (P := Try.prog) 22 5 9 Try.underlying22 Try.underlying5 Try.underlying9
              have hcut : ∀ W : World, (Instr.slice 22 (.slice (some ⟨b, off, none⟩) n c) (some (.int .i64 (p : Int))) (some (.int .i64 ((p : Int) + 4))) none).run Try.prog W = .ok (.slice A2 4 (c - p)) W := HC.out
              have hwr : IntKind.i64.wrap ((p : Int) + 4) = (p : Int) + 4 := by rw [IntKind.wrap_i64]; omega
              by_cases he : putV R = (bs.drop p).take 4
              · have hs := list_yes he
                have Hk := Lib.hid (hkey.1 he)
                clear he hkey
                go_wp2
                generalize (some (⟨b, off, none⟩ : Addr)) = A at hcut ⊢
                go_region_with (go_at_call 45; refine (uPutR (R := R) rfl hR2 _).mono ?_; rintro e w1 ⟨A1, c1, rfl, own1⟩; have cv1 := BytesAt.convert own1.reads (P := Try.prog) 22 5 9 Try.underlying22 Try.underlying5 Try.underlying9; have cv2 := (HCB.out.ext (hE0.trans own1.ext)).convert (P := Try.prog) 22 5 9 Try.underlying22 Try.underlying5 Try.underlying9)
                all_goals go_simp
                all_goals go_wp2
                all_goals go_ret
                all_goals rw [Hk.out]
                all_goals exact ⟨rfl, hE0.trans own1.ext⟩
              · have hs := list_no he
                have Hk := Lib.hid (fun h => he (hkey.2 h))
                clear he hkey
                go_wp2
                generalize hA : (some (⟨b, off, none⟩ : Addr)) = A at hcut ⊢
                go_region_with (go_at_call 45; refine (uPutR (R := R) rfl hR2 _).mono ?_; rintro e w1 ⟨A1, c1, rfl, own1⟩; have cv1 := BytesAt.convert own1.reads (P := Try.prog) 22 5 9 Try.underlying22 Try.underlying5 Try.underlying9; have cv2 := (HCB.out.ext (hE0.trans own1.ext)).convert (P := Try.prog) 22 5 9 Try.underlying22 Try.underlying5 Try.underlying9)
                all_goals subst hA
                all_goals go_simp
                all_goals go_wp2
                all_goals go_roundw
                all_goals first
                  | exact ⟨4 + 1, by omega, by omega, rfl, fun m h1 h2 => if h : m = 4 then by rw [h]; exact Hk.out else Hno.out m h1 (by omega), hE0.trans own1.ext⟩
                  | (simp [intOf]; done)
                  | (simp [intOf]; omega)
      · have hq : decide ((p : Int) + k ≤ n) = false := decide_eq_false hpk
        have fin : nextV (bs.drop p) = 0 := by
          have h1 := Hnl.out
          have h2 := Hno.out (nextV (bs.drop p))
          omega
        have Hf := Lib.hid fin
        clear fin hpk hl
        go_wp2
        go_ret
        rw [Hf.out]
        exact ⟨rfl, hE⟩
    · have hq : decide ((k : Int) ≤ 4) = false := decide_eq_false hk4
      have fin : nextV (bs.drop p) = 0 := by
        have h1 := Hnl.out
        have h2 := Hno.out (nextV (bs.drop p))
        omega
      have Hf := Lib.hid fin
      clear fin hk4 hl
      go_wp2
      go_ret
      rw [Hf.out]
      exact ⟨rfl, hE⟩

end Go.Proofs.Ytcipokmklkognaa
