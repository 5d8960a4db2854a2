/- Contracts of layer 2: skipping, putting, reading all, comparing. -/
import Derived.Test.YtlmmlmmadgcmcaaW2
import Derived.BigQuiet
import Derived.Deep.QuietTactic
import Derived.Deep.RegionLaw
namespace Go.Proofs.Ytlmmlmmadgcmcaa
open Go.RowKit
set_option linter.unusedVariables false

/-- A word in a cell. -/
def uv (x : Nat) : Value := .int .u64 (x : Int)

theorem uv_one (l : List Nat) : ∀ u ∈ l.map uv, u.oneCell' = true := by
  intro u hu
  obtain ⟨b, _, rfl⟩ := List.mem_map.1 hu
  rfl

theorem elemU : Elem Try.prog 86 64 1 8 := Elem.mk' (z := .int .u64 0) Try.underlying86 (by kernel_rfl) rfl (by omega)

theorem ret_kc {a a' b b' : Int} (h1 : a = a') (h2 : b = b') : Ending.returned (.tuple #[.int .i64 a, .int .u8 b]) = .returned (.tuple #[.int .i64 a', .int .u8 b']) := by rw [h1, h2]

theorem vSkip {A : Option Addr} {n c : Nat} {bs : List UInt8} {w : World} {W N C : Nat} (hb : BytesAt w A n c bs) (hv : readV bs = (W, N, C)) :
    Calls Try.prog 111 #[.slice A n c] w fun e w' => e = .returned (.tuple #[.int .i64 N, .int .u8 C]) ∧ w = w' := by
  have Hv := Lib.hid hv
  clear hv
  go_enter Try.func111, Try.ntmps111
  go_wp2_with (go_at_call 80; refine (vRead hb Hv.out).mono ?_; rintro e w' ⟨rfl, rfl⟩)
  go_ret2
  exact ⟨rfl, rfl⟩

/-- Minimal? -/
def minimalB (bs : List UInt8) : Bool := decide ((readV bs).2.2 = 0 ∧ (readV bs).2.1 = bs.length ∧ (bs.length = 1 ∨ bs.getLast? ≠ some 0))

theorem uvarint_bv_small {x : Nat} (h : x < 128) : List.map bv (Lib.uvarint x) = [.int .u8 (x : Int)] := by
  rw [Lib.uvarint_small h, List.map_cons, List.map_nil, bv_of x (by omega)]

theorem uvarint_bv_big {x : Nat} (h : 128 ≤ x) : List.map bv (Lib.uvarint x) = .int .u8 ((x % 128 + 128 : Nat) : Int) :: List.map bv (Lib.uvarint (x / 128)) := by
  rw [Lib.uvarint_big h, List.map_cons, bv_of _ (by omega)]

theorem vPut {A : Option Addr} {n c : Nat} {bs : List UInt8} {w : World} {x : Int} (hb : BytesAt w A n c bs) (hx0 : 0 ≤ x) (hx : x < 18446744073709551616) (hn : n ≤ 1000000000000) :
    Calls Try.prog 76 #[.slice A n c, .int .u64 x] w fun e w' => ∃ A' c', e = .returned (.slice A' (n + (Lib.uvarint x.toNat).length) c') ∧ Own w w' 5 1 A' (n + (Lib.uvarint x.toNat).length) c' (List.map bv (bs ++ Lib.uvarint x.toNat)) := by
  obtain ⟨X, rfl⟩ := Int.eq_ofNat_of_zero_le hx0
  rw [Int.toNat_natCast]
  have hX : X < 18446744073709551616 := by omega
  clear hx hx0
  have hle := Lib.uvarint_length64 hX
  go_enter Try.func76, Try.ntmps76
  go_wp2_with (go_at_call 88; refine (clone hb (by omega)).mono ?_; rintro e w1 ⟨A1, c1, rfl, own1⟩)
  go_loopw [0, 1] (fun v y wr => ∃ (z k : Nat) (A2 : Option Addr) (c2 : Nat) (xs : List Value), z < 18446744073709551616 ∧ k ≤ 10 ∧ y = .int .u64 z ∧ v = .slice A2 (n + k) c2 ∧ Own w wr 5 1 A2 (n + k) c2 xs ∧
    Hid (xs ++ List.map bv (Lib.uvarint z) = List.map bv (bs ++ Lib.uvarint X)) ∧ Hid (k + (Lib.uvarint z).length = (Lib.uvarint X).length)) (fun _ y _ => (intOf y).toNat)
  case atStart => exact ⟨X, 0, A1, c1, _, hX, by omega, rfl, rfl, own1, (List.map_append ..).symm, Nat.zero_add _⟩
  case round =>
    obtain ⟨z, k, A2, c2, xs, hz, hk, rfl, rfl, own2, H1, H2⟩ := hrel
    have hor := or128 z
    have Ho := Lib.hid hor
    have hp := Lib.uvarint_pos z
    have hk9 : k ≤ 9 := by have := H2.out; omega
    clear hor hp hle
    by_cases hlt : (128 : Int) ≤ z
    · have hb1 := uvarint_bv_big (show 128 ≤ z by omega)
      have hb2 : (Lib.uvarint z).length = (Lib.uvarint (z / 128)).length + 1 := by rw [Lib.uvarint_big (by omega)]; rfl
      have H3 := Lib.hid hb1
      have H4 := Lib.hid hb2
      clear hb1 hb2
      go_wp2_with (at_builtin; refine wpList_one elemB rfl (.tmp 11) (.tmp 15) rfl rfl own2 rfl (by first | rfl | simp) rfl (by omega) (by unfold maxLen; omega) ?_; intro A3 c3 w3 own3 _)
      go_roundw
      case rel =>
        refine ⟨z / 128, k + 1, A3, c3, _, by omega, by omega, by go_num, rfl, own3, ?_, ?_⟩
        · have := H1.out
          rw [H3.out] at this
          show _ = _
          rw [← this, List.append_assoc, List.singleton_append, Ho.out]
        · have a := H2.out
          have b := H4.out
          show _ = _
          omega
      case measure => simp [intOf]; omega
    · have hb1 := uvarint_bv_small (show z < 128 by omega)
      have hb2 : (Lib.uvarint z).length = 1 := by rw [Lib.uvarint_small (by omega)]; rfl
      have H3 := Lib.hid hb1
      have H4 := Lib.hid hb2
      clear hb1 hb2
      have hz8 : (z : Int) % 256 = z := by omega
      have H5 := Lib.hid hz8
      clear hz8
      go_wp2_with (at_builtin; refine wpList_one elemB rfl (.tmp 17) (.tmp 20) rfl rfl own2 rfl (by first | rfl | simp) rfl (by omega) (by unfold maxLen; omega) ?_; intro A3 c3 w3 own3 _)
      go_ret
      have a := H2.out
      rw [H4.out] at a
      have e := H1.out
      rw [H3.out] at e
      refine ⟨A3, c3, ret_slice (by omega), ?_⟩
      have own4 : Own w w3 5 1 A3 (n + k + 1) c3 (xs ++ [Value.int IntKind.u8 (z : Int)]) := by first | exact own3 | (rw [H5.out] at own3; exact own3)
      rw [e] at own4
      rw [show n + (Lib.uvarint X).length = n + k + 1 by omega]
      simpa using own4

theorem vPutR : ∀ (k : Nat) (x : Int) (w : World), x.toNat < 2 ^ k → 0 ≤ x → x < 18446744073709551616 →
    Calls Try.prog 78 #[.int .u64 x] w fun e w' => ∃ A' c', e = .returned (.slice A' (Lib.uvarint x.toNat).length c') ∧ Own w w' 5 1 A' (Lib.uvarint x.toNat).length c' (List.map bv (Lib.uvarint x.toNat)) := by
  intro k
  induction k with
  | zero =>
    intro x w hk h0 h1
    obtain rfl : x = 0 := by omega
    go_enter Try.func78, Try.ntmps78
    go_wp2_with fail
    go_ret
    have e : Lib.uvarint (Int.toNat 0) = [0] := Lib.uvarint_small (by decide)
    rw [e]
    exact ⟨_, _, rfl, Own.made (Ext.refl _) 5 1 (by simp [maxLen]) rfl⟩
  | succ k ih =>
    intro x w hk h0 h1
    obtain ⟨X, rfl⟩ := Int.eq_ofNat_of_zero_le h0
    rw [Int.toNat_natCast] at hk ⊢
    have hX : X < 18446744073709551616 := by omega
    by_cases hlt : (X : Int) < 128
    · have hb1 := uvarint_bv_small (show X < 128 by omega)
      have hb2 : (Lib.uvarint X).length = 1 := by rw [Lib.uvarint_small (by omega)]; rfl
      have hm : (X : Int) % 256 = X := by omega
      rw [hb1, hb2]
      have H5 := Lib.hid hm
      clear hb1 hb2 hm hk h1 h0
      go_enter Try.func78, Try.ntmps78
      go_wp2_with fail
      go_ret
      refine ⟨_, _, rfl, ?_⟩
      first
        | exact Own.made (Ext.refl _) 5 1 (by simp [maxLen]) rfl
        | (rw [H5.out]; exact Own.made (Ext.refl _) 5 1 (by simp [maxLen]) rfl)
    · have hb1 := uvarint_bv_big (show 128 ≤ X by omega)
      have hb2 : (Lib.uvarint X).length = 1 + (Lib.uvarint (X / 128)).length := by rw [Lib.uvarint_big (by omega), List.length_cons, Nat.add_comm]
      have hle := Lib.uvarint_length64 (show X / 128 < 18446744073709551616 by omega)
      have ht : ((X : Int) / 128).toNat = X / 128 := by omega
      have ihq := fun W => ih ((X : Int) / 128) W (by rw [ht]; rw [Nat.pow_succ] at hk; omega) (by omega) (by omega)
      rw [ht] at ihq
      rw [hb1, hb2]
      have hm : (128 + (X : Int) % 128) % 256 = ((X % 128 + 128 : Nat) : Int) := by omega
      have H5 := Lib.hid hm
      have H6 := Lib.hid ihq
      clear hb1 hb2 hk h1 h0 hm ihq ih ht
      go_enter Try.func78, Try.ntmps78
      go_wp2_with fail
      refine (H6.out _).mono ?_
      rintro e w1 ⟨A1, c1, rfl, own1⟩
      go_wp2_with (at_builtin; refine wpList_more elemB rfl (.tmp 12) (.tmp 15) rfl rfl ((Own.made (Ext.refl _) 5 1 (n := 1) (cs := [Value.int .u8 (128 + (X : Int) % 128)]) (by simp [maxLen]) rfl).later own1.ext) rfl own1.reads (bv_one _) (by omega) (by unfold maxLen; omega) ?_; intro A2 c2 w2 own2 _)
      go_ret
      refine ⟨A2, c2, rfl, ?_⟩
      have e : (128 + (X : Int) % 128) = ((X % 128 + 128 : Nat) : Int) := by omega
      rw [← e]
      exact own2

theorem vPutRI (x : Int) (w : World) (h0 : 0 ≤ x) (h1 : x < 18446744073709551616) :
    Calls Try.prog 78 #[.int .u64 x] w fun e w' => ∃ A' c', e = .returned (.slice A' (Lib.uvarint x.toNat).length c') ∧ Own w w' 5 1 A' (Lib.uvarint x.toNat).length c' (List.map bv (Lib.uvarint x.toNat)) :=
  vPutR 64 x w (by omega) h0 h1

/-- A slice of words. -/
def WordsAt (w : World) (A : Option Addr) (n c : Nat) (l : List Nat) : Prop := Reads w A n c 1 (l.map uv)

theorem WordsAt.length {w : World} {A : Option Addr} {n c : Nat} {l : List Nat} (h : WordsAt w A n c l) : l.length = n := by have := Reads.len h; simpa using this

theorem WordsAt.word {w : World} {A : Option Addr} {n c : Nat} {l : List Nat} (h : WordsAt w A n c l) {k : Nat} (hk : k < n) :
    ∃ b off x, A = some ⟨b, off, none⟩ ∧ l[k]? = some x ∧ w.cell? ⟨b, off + k, none⟩ = some (.int .u64 (x : Int)) := by
  obtain ⟨b, off, e, _, hc⟩ := Reads.at_ h (by omega)
  have hl := h.length
  have hx : l[k]? = some (l[k]'(by omega)) := List.getElem?_eq_getElem (by omega)
  exact ⟨b, off, _, e, hx, hc k _ (by rw [List.getElem?_map, hx]; rfl)⟩

theorem sameU {A B : Option Addr} {n c m d : Nat} {xs ys : List Nat} {w : World} (ha : WordsAt w A n c xs) (hb : WordsAt w B m d ys) (hn : n ≤ 1000000000000) :
    Calls Try.prog 45 #[.slice A n c, .slice B m d] w fun e w' => e = .returned (.bool (decide (xs = ys))) ∧ Ext w w' := by
  have hx := ha.length
  have hy := hb.length
  by_cases hnm : n = m
  · subst hnm
    have q1 : ((n : Int) != (n : Int)) = false := by simp
    go_enter Try.func45, Try.ntmps45
    go_wp2
    go_loopw [5] (fun i wr => ∃ k : Nat, k ≤ n ∧ i = .int .i64 k ∧ Ext w wr ∧ Hid (xs.take k = ys.take k)) (fun i _ => n - (intOf i).toNat)
    case atStart => exact ⟨0, Nat.zero_le _, rfl, Ext.refl _, rfl⟩
    case round =>
      obtain ⟨k, hk, rfl, hE, hT⟩ := hrel
      by_cases hlt : k < n
      · obtain ⟨b, off, x, rfl, hxk, hcx⟩ := WordsAt.word (ha.ext hE) hlt
        obtain ⟨b', off', y, rfl, hyk, hcy⟩ := WordsAt.word (hb.ext hE) hlt
        have Hx := Lib.hid hxk
        have Hy := Lib.hid hyk
        have Hlx := Lib.hid hx
        have Hly := Lib.hid hy
        have hltI : (k : Int) < n := by omega
        have hk0 : (0 : Int) ≤ k := by omega
        clear hxk hyk hx hy
        by_cases hxy : x = y
        · subst hxy
          have q2 : ((x : Int) != (x : Int)) = false := by simp
          go_wp2
          go_quiet (fail)
          go_wp2
          go_roundw
          case rel => exact ⟨k + 1, by omega, by go_num, hE.drewN _, by show _ = _; rw [take_snoc _ _ _ Hx.out, take_snoc _ _ _ Hy.out, hT.out]⟩
          case measure => simp [intOf]; omega
        · have q2 : ((x : Int) != (y : Int)) = true := by simp; omega
          have Hxy := Lib.hid hxy
          clear hxy
          go_wp2
          go_quiet (fail)
          go_wp2
          go_ret
          refine ⟨ret_bool (decide_eq_false ?_).symm, hE.drewN _⟩
          rintro rfl
          have := Hx.out.symm.trans Hy.out
          exact Hxy.out (by simpa using this)
      · have hkn : k = n := by omega
        subst hkn
        have hfin : xs = ys := by
          have := hT.out
          rwa [List.take_of_length_le (by omega), List.take_of_length_le (by omega)] at this
        have Hf := Lib.hid hfin
        clear hfin hx hy
        go_wp2
        go_ret
        exact ⟨ret_bool (decide_eq_true Hf.out).symm, hE⟩
  · have q1 : ((n : Int) != (m : Int)) = true := by simp; omega
    have hne : ¬ xs = ys := by rintro rfl; omega
    have Hne := Lib.hid hne
    clear hne hnm hx hy
    go_enter Try.func45, Try.ntmps45
    go_wp2
    go_ret
    exact ⟨ret_bool (decide_eq_false Hne.out).symm, Ext.refl _⟩

theorem ret_lc {A A' : Option Addr} {n n' c c' : Nat} {k : IntKind} {b b' : Int} (h0 : A = A') (h1 : n = n') (h2 : c = c') (h3 : b = b') : Ending.returned (.tuple #[.slice A n c, .int k b]) = .returned (.tuple #[.slice A' n' c', .int k b']) := by rw [h0, h1, h2, h3]

theorem ret_len {A : Option Addr} {n n' c : Nat} (h : n = n') : Value.slice A n c = Value.slice A n' c := by rw [h]

end Go.Proofs.Ytlmmlmmadgcmcaa
