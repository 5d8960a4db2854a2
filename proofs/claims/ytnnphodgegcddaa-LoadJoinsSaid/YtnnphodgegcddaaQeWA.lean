/- Contracts of layers 1 to 3. -/
import Derived.Test.YtnnphodgegcddaaChecked
import Derived.Test.YtnnphodgegcddaaQeSA
import Derived.Test.YtnnphodgegcddaaQeLib
import Derived.WalkKit
import Derived.WalkSpells
import Derived.WalkLawsBesides
import Derived.BigQuiet
import Derived.Deep.QuietTactic
import Derived.Deep.RegionLaw

/- Contracts of the functions of layer 1 that only reckon: package bits and its reference. -/
namespace Go.Proofs.Ytnnphodgegcddaa
open Go.RowKit
set_option linter.unusedVariables false

theorem low32 (n : Int) (w : World) (h0 : 0 ≤ n) (h1 : n < 18446744073709551616) :
    Calls Try.prog 40 #[.int .u64 n] w fun e w' => e = .returned (.int .u32 (n % 4294967296)) ∧ w = w' := by
  go_enter Try.func40, Try.ntmps40
  go_wp2
  go_ret
  exact ⟨rfl, rfl⟩

theorem sign32 (n : Int) (w : World) (h0 : 0 ≤ n) (h1 : n < 18446744073709551616) :
    Calls Try.prog 39 #[.int .u64 n] w fun e w' => e = .returned (.int .i32 (sign32I n)) ∧ w = w' := by
  go_enter Try.func39, Try.ntmps39
  go_wp2
  go_ret
  exact ⟨ret_int (sign32I_wrap n), rfl⟩

theorem wide32 (n : Int) (w : World) (h0 : -2147483648 ≤ n) (h1 : n < 2147483648) :
    Calls Try.prog 38 #[.int .i32 n] w fun e w' => e = .returned (.int .u64 (wideI n)) ∧ w = w' := by
  go_enter Try.func38, Try.ntmps38
  go_wp2
  go_ret
  exact ⟨ret_int (wideI_wrap n (by omega) (by omega)), rfl⟩

end Go.Proofs.Ytnnphodgegcddaa

/- Contracts of layer 1's functions that read or make memory. -/
namespace Go.Proofs.Ytnnphodgegcddaa
open Go.RowKit
set_option linter.unusedVariables false

theorem elemB : Elem Try.prog 26 5 1 1 := Elem.mk' (z := .int .u8 0) Try.underlying26 (by kernel_rfl) rfl (by omega)

theorem clone {A : Option Addr} {n c : Nat} {bs : List UInt8} {w : World} (ha : BytesAt w A n c bs) (hn : n ≤ 100000000000000) :
    Calls Try.prog 64 #[.slice A n c] w fun e w' => ∃ A' c', e = .returned (.slice A' n c') ∧ Own w w' 5 1 A' n c' (bs.map bv) := by
  have hnil := Lib.run_eql_slice_nil (P := Try.prog) w 26 5 A n c 0 0 Try.underlying26
  rcases A with _ | ad
  · have h0 : n = 0 := by
      rcases Nat.eq_zero_or_pos n with h | h
      · exact h
      · obtain ⟨b, off, e, _⟩ := Reads.at_ ha h; cases e
    subst h0
    have hbs : bs = [] := List.eq_nil_of_length_eq_zero ha.length
    subst hbs
    go_enter Try.func64, Try.ntmps64
    go_wp2
    go_ret
    exact ⟨_, _, rfl, Own.nil (Ext.refl _) 5 1⟩
  · go_enter Try.func64, Try.ntmps64
    go_wp2_with (at_builtin; refine wpList_more elemB rfl (.tmp 5) (.tmp 6) rfl rfl (Own.empty (Ext.refl _) 5 1) rfl (ha.ext ((Ext.refl _).alloc _)) (bv_one _) (by omega) (by unfold maxLen; omega) ?_; intro A' c' w' hown _)
    go_ret
    exact ⟨_, _, ret_slice (by simp), by simpa using hown⟩

end Go.Proofs.Ytnnphodgegcddaa

/- Contracts of layer 1: the word of bytes. -/
namespace Go.Proofs.Ytnnphodgegcddaa
open Go.RowKit
set_option linter.unusedVariables false

theorem word {A : Option Addr} {n c : Nat} {bs : List UInt8} {w : World} (ha : BytesAt w A n c bs) :
    Calls Try.prog 27 #[.slice A n c] w fun e w' => e = .returned (.int .u64 (wordN (bs.take 8))) ∧ w = w' := by
  have hl := ha.length
  have hmax := Reads.max ha
  have hcap := Reads.cap ha
  unfold maxLen at hmax
  obtain ⟨m, hm⟩ : ∃ m : Nat, m = min n 8 := ⟨_, rfl⟩
  have hmn : ∀ ts t (W : World), (Builtin.min_ ts t #[.int .i64 (n : Int), .int .i64 8]).run Try.prog W = .ok (.int .i64 (m : Int)) W := by
    intro ts t W; rw [run_min_i]; congr 2; omega
  have hle : m ≤ n := by omega
  have h8 : m ≤ 8 := by omega
  have ht : bs.take 8 = bs.take m := by
    rw [hm, ← hl]
    rcases Nat.le_total bs.length 8 with h | h
    · rw [Nat.min_eq_left h, List.take_of_length_le h, List.take_of_length_le (Nat.le_refl _)]
    · rw [Nat.min_eq_right h]
  obtain ⟨A', hcut, hr⟩ := cut_to elemB ha .i64 hle
  have hr' : BytesAt w A' m c (bs.take m) := by simpa [BytesAt, List.map_take] using hr
  rw [ht]
  clear hm ht
  go_enter Try.func27, Try.ntmps27
  go_wp2
  go_loop [3, 4, 5, 12] (fun v _ _ i => ∃ k : Nat, k ≤ m ∧ i = .int .i64 k ∧ v = .int .u64 (wordN (bs.take k) : Nat)) (fun _ _ _ i => m - (intOf i).toNat)
  case atStart => exact ⟨0, Nat.zero_le _, rfl, by simp [wordN]⟩
  case round =>
    obtain ⟨k, hk, rfl, rfl⟩ := hrel
    by_cases hlt : k < m
    · obtain ⟨b, off, x, rfl, hx, hcell⟩ := hr'.byte hlt
      have hx' : bs[k]? = some x := by rwa [List.getElem?_take_of_lt hlt] at hx
      have hsn := take_snoc bs k x hx'
      have hlk : (bs.take k).length = k := by rw [List.length_take]; omega
      have hor := word_or (bs.take k) k x hlk (by omega)
      rw [← hsn] at hor
      have H := Lib.hid hor
      clear hor hsn hx hx' hlk hcut hmn hr hr'
      go_wp2
      go_round
      case rel => exact ⟨k + 1, by omega, by go_num, by rw [H.out]⟩
      case measure => simp [intOf]; omega
    · have hkm : k = m := by omega
      subst hkm
      go_wp2
      go_ret
      exact ⟨rfl, rfl⟩

end Go.Proofs.Ytnnphodgegcddaa

/- Contracts of layer 2: reading varints. -/
namespace Go.Proofs.Ytnnphodgegcddaa
open Go.RowKit
set_option linter.unusedVariables false

theorem ret_v {a a' b b' c c' : Int} (h1 : a = a') (h2 : b = b') (h3 : c = c') : Ending.returned (.tuple #[.int .u64 a, .int .i64 b, .int .u8 c]) = .returned (.tuple #[.int .u64 a', .int .i64 b', .int .u8 c']) := by rw [h1, h2, h3]

theorem vRead {A : Option Addr} {n c : Nat} {bs : List UInt8} {w : World} {W N C : Nat} (hb : BytesAt w A n c bs) (hv : readV bs = (W, N, C)) :
    Calls Try.prog 28 #[.slice A n c] w fun e w' => e = .returned (.tuple #[.int .u64 W, .int .i64 N, .int .u8 C]) ∧ w = w' := by
  have hl := hb.length
  have hmax := Reads.max hb
  have hcap := Reads.cap hb
  unfold maxLen at hmax
  have Hv := Lib.hid hv
  clear hv
  go_enter Try.func28, Try.ntmps28
  go_wp2
  go_loop [5, 6, 7, 10] (fun v _ _ i => ∃ k : Nat, k ≤ n ∧ k ≤ 9 ∧ i = .int .i64 k ∧ v = .int .u64 (wordV (bs.take k) : Nat) ∧ Cont bs k) (fun _ _ _ i => n - (intOf i).toNat)
  case atStart => exact ⟨0, Nat.zero_le _, Nat.zero_le _, rfl, by simp [wordV], Cont.zero bs⟩
  case round =>
    obtain ⟨k, hk, hk9, rfl, rfl, hC⟩ := hrel
    by_cases hlt : k < n
    · obtain ⟨b, off, x, rfl, hx, hcell⟩ := hb.byte hlt
      have hsn := take_snoc bs k x hx
      have hlk : (bs.take k).length = k := by rw [List.length_take]; omega
      have hx256 := u8_ltI x
      by_cases hbig : (9 : Int) ≤ k ∧ (1 : Int) < x.toNat
      · obtain ⟨h9, h1⟩ := hbig
        have hr := readV_over (bs := bs) (c := x) (by rw [show 9 = k by omega]; exact hC) (by rw [show 9 = k by omega]; exact hx) (by omega)
        have Hr := Lib.hid hr
        clear hr hsn hlk hx hC hl
        have hq : ((k : Int) == 9) = true := by simp; omega
        go_wp2
        go_ret3
        have e := Hv.out.symm.trans Hr.out
        exact ⟨ret_v (by simp at e; omega) (by simp at e; omega) (by simp at e; omega), rfl⟩
      · have hor := read_or' (bs.take k) k x hlk hk9 (fun e => by omega)
        rw [← hsn] at hor
        have Ho := Lib.hid hor
        have Hx := Lib.hid hx
        clear hor hx hsn hlk hl
        have done : ∀ (h : (x.toNat : Int) < 128), (W : Int) = (wordV (bs.take (k + 1)) : Nat) ∧ N = k + 1 ∧ C = 0 := by
          intro h
          have e := Hv.out.symm.trans (readV_done hC hk9 Hx.out (by omega) (fun e => by omega))
          simp at e
          exact ⟨by rw [e.1], e.2.1, e.2.2⟩
        have Hd := Lib.hid done
        clear done
        by_cases h9 : (9 : Int) ≤ k
        · have h1 : (x.toNat : Int) ≤ 1 := by omega
          have h128 : (x.toNat : Int) < 128 := by omega
          have hd : ¬ ((1 : Int) < x.toNat) := by omega
          clear hbig hx256 h1
          have hq : ((k : Int) == 9) = true := by simp; omega
          go_wp2
          go_ret3
          have d := Hd.out (by omega)
          exact ⟨ret_v (by rw [d.1, ← Ho.out]) (by omega) (by omega), rfl⟩
        · clear hbig
          have hq : ((k : Int) == 9) = false := by simp; omega
          by_cases h128 : (x.toNat : Int) < 128
          · go_wp2
            go_ret3
            have d := Hd.out h128
            exact ⟨ret_v (by rw [d.1, ← Ho.out]) (by omega) (by omega), rfl⟩
          · go_wp2
            go_round
            case rel => exact ⟨k + 1, by omega, by omega, by go_num, by rw [← Ho.out], hC.succ Hx.out (by omega)⟩
            case measure => simp [intOf]; omega
    · have hr := readV_short hC hk9 (by omega)
      have Hr := Lib.hid hr
      clear hr hl
      go_wp2
      go_ret3
      have e := Hv.out.symm.trans Hr.out
      exact ⟨ret_v (by simp at e; omega) (by simp at e; omega) (by simp at e; omega), rfl⟩

end Go.Proofs.Ytnnphodgegcddaa

/- Contracts of layer 2: skipping, putting, reading all, comparing. -/
namespace Go.Proofs.Ytnnphodgegcddaa
open Go.RowKit
set_option linter.unusedVariables false

def uv (x : Nat) : Value := .int .u64 (x : Int)

theorem uv_one (l : List Nat) : ∀ u ∈ l.map uv, u.oneCell' = true := by
  intro u hu
  obtain ⟨b, _, rfl⟩ := List.mem_map.1 hu
  rfl

theorem elemU : Elem Try.prog 29 56 1 8 := Elem.mk' (z := .int .u64 0) Try.underlying29 (by kernel_rfl) rfl (by omega)

theorem vSkip {A : Option Addr} {n c : Nat} {bs : List UInt8} {w : World} {W N C : Nat} (hb : BytesAt w A n c bs) (hv : readV bs = (W, N, C)) :
    Calls Try.prog 49 #[.slice A n c] w fun e w' => e = .returned (.tuple #[.int .i64 N, .int .u8 C]) ∧ w = w' := by
  have Hv := Lib.hid hv
  clear hv
  go_enter Try.func49, Try.ntmps49
  go_wp2_with (go_at_call 28; refine (vRead hb Hv.out).mono ?_; rintro e w' ⟨rfl, rfl⟩)
  go_ret2
  exact ⟨rfl, rfl⟩

theorem ret_len {A : Option Addr} {n n' c : Nat} (h : n = n') : Value.slice A n c = Value.slice A n' c := by rw [h]

end Go.Proofs.Ytnnphodgegcddaa

/- Contracts of layer 3: reading tags. -/
namespace Go.Proofs.Ytnnphodgegcddaa
open Go.RowKit
set_option linter.unusedVariables false

theorem tRight (number wire : Int) (w : World) :
    Calls Try.prog 79 #[.agg #[.int .i64 number, .int .i64 wire]] w fun e w' => e = .returned (.bool (rightB number wire)) ∧ Ext w w' := by
  by_cases h1 : (1 : Int) ≤ number
  · by_cases h2 : number ≤ (536870911 : Int)
    · by_cases h3 : (0 : Int) ≤ wire
      · by_cases h4 : wire < (8 : Int)
        · rcases (show wire = 0 ∨ wire = 1 ∨ wire = 2 ∨ wire = 3 ∨ wire = 4 ∨ wire = 5 ∨ wire = 6 ∨ wire = 7 by omega) with h | h | h | h | h | h | h | h
          all_goals
            subst h
            go_enter Try.func79, Try.ntmps79
            go_wp2
            go_ret
            exact ⟨ret_bool (by unfold rightB; first | exact (decide_eq_true (by omega)).symm | exact (decide_eq_false (by omega)).symm), (Ext.refl _).alloc _⟩
        · go_enter Try.func79, Try.ntmps79
          go_wp2
          go_ret
          exact ⟨ret_bool (by unfold rightB; exact (decide_eq_false (by omega)).symm), (Ext.refl _).alloc _⟩
      · go_enter Try.func79, Try.ntmps79
        go_wp2
        go_ret
        exact ⟨ret_bool (by unfold rightB; exact (decide_eq_false (by omega)).symm), (Ext.refl _).alloc _⟩
    · go_enter Try.func79, Try.ntmps79
      go_wp2
      go_ret
      exact ⟨ret_bool (by unfold rightB; exact (decide_eq_false (by omega)).symm), (Ext.refl _).alloc _⟩
  · go_enter Try.func79, Try.ntmps79
    go_wp2
    go_ret
    exact ⟨ret_bool (by unfold rightB; exact (decide_eq_false (by omega)).symm), (Ext.refl _).alloc _⟩

end Go.Proofs.Ytnnphodgegcddaa

/- Contracts of layer 3: the tag that bytes begin with. -/
namespace Go.Proofs.Ytnnphodgegcddaa
open Go.RowKit
set_option linter.unusedVariables false

theorem tRead {A : Option Addr} {n c : Nat} {bs : List UInt8} {w : World} {T V N C : Nat} (hb : BytesAt w A n c bs) (ht : tagV bs = (T, V, N, C)) :
    Calls Try.prog 71 #[.slice A n c] w fun e w' => e = .returned (.tuple #[.agg #[.int .i64 T, .int .i64 V], .int .i64 N, .int .u8 C]) ∧ Ext w w' := by
  rcases hv : readV bs with ⟨W, M, E⟩
  have hbd := (readV_bd bs).1
  have hE4 := (readV_bd bs).2.2.2.1
  rw [hv] at hbd hE4
  simp only at hbd hE4
  unfold tagV at ht
  rw [hv] at ht
  simp only at ht
  have Hv := Lib.hid hv
  clear hv
  have hb' : ∀ o : Obj, BytesAt (w.alloc o) A n c bs := fun o => hb.ext ((Ext.refl _).alloc o)
  have Hb := Lib.hid hb'
  clear hb'
  by_cases hE : E = 0
  · subst hE
    rw [if_neg (by simp)] at ht
    have h7 := and7 W hbd
    by_cases hbig : (536870911 : Int) < (W : Int) / 8
    · have hr : rightB ((W / 8 : Nat) : Int) ((W % 8 : Nat) : Int) = false := by unfold rightB; exact decide_eq_false (by omega)
      rw [hr, if_neg (by simp)] at ht
      simp only [Prod.mk.injEq] at ht
      obtain ⟨rfl, rfl, rfl, rfl⟩ := ht
      clear hr
      go_enter Try.func71, Try.ntmps71
      go_wp2_with (go_at_call 28; refine (vRead (Hb.out _) Hv.out).mono ?_; rintro e w' ⟨rfl, rfl⟩)
      exact bodyPost_ret (v := .tuple #[.agg #[.int .i64 0, .int .i64 0], .int .i64 0, .int .u8 5]) (by simp [results, Try.results71, go_sem]) rfl ⟨rfl, (Ext.refl _).alloc _⟩
    · have hcell : ∀ (w1 : World) (E1 : Ext ((w.alloc (.cells #[.int .i64 0, .int .i64 0] 153)).alloc (.cells #[.int .i64 ((W : Int) / 8), .int .i64 ((W : Int) % 8)] 153)) w1),
          (w1.cell? ⟨w.heap.size, 0, none⟩ = some (.int .i64 0) ∧ w1.cell? ⟨w.heap.size, 1, none⟩ = some (.int .i64 0) ∧ w1.cell? ⟨w.heap.size + 1, 0, none⟩ = some (.int .i64 ((W : Int) / 8)) ∧ w1.cell? ⟨w.heap.size + 1, 1, none⟩ = some (.int .i64 ((W : Int) % 8))) ∧
          w1.frozen? ⟨w.heap.size, 0, none⟩ = false ∧ w1.frozen? ⟨w.heap.size, 1, none⟩ = false ∧ w.heap.size < w1.heap.size ∧ Ext w w1 := fun w1 E1 => by
        have h := two_blocks E1
        exact ⟨⟨h.1 0, h.1 1, h.2.1 0, h.2.1 1⟩, h.2.2.1 0, h.2.2.1 1, by have := h.2.2.2.2; omega, ((Ext.refl w).alloc _ |>.alloc _).trans E1⟩
      have Hc := Lib.hid hcell
      clear hcell
      by_cases hr : rightB ((W / 8 : Nat) : Int) ((W % 8 : Nat) : Int) = true
      · rw [if_pos hr] at ht
        simp only [Prod.mk.injEq] at ht
        obtain ⟨rfl, rfl, rfl, rfl⟩ := ht
        have hr' : rightB ((W : Int) / 8) ((W : Int) % 8) = true := hr
        clear hr
        go_enter Try.func71, Try.ntmps71
        go_wp2_with (first | (go_at_call 28; refine (vRead (Hb.out _) Hv.out).mono ?_; rintro e w' ⟨rfl, rfl⟩) | (go_at_call 79; refine (tRight _ _ _).mono ?_; rintro e w1 ⟨rfl, E1⟩; obtain ⟨⟨c1, c2, c3, c4⟩, f1, f2, hlt, E2⟩ := Hc.out w1 E1))
        exact bodyPost_ret (v := .tuple #[.agg #[.int .i64 ((W : Int) / 8), .int .i64 ((W : Int) % 8)], .int .i64 M, .int .u8 0]) (by simp [results, Try.results71, go_sem, c1, c2]) rfl ⟨rfl, (E2.setCell (Nat.le_refl _) _).setCell (Nat.le_refl _) _⟩
      · have hr0 : rightB ((W / 8 : Nat) : Int) ((W % 8 : Nat) : Int) = false := by simpa using hr
        rw [if_neg hr] at ht
        simp only [Prod.mk.injEq] at ht
        obtain ⟨rfl, rfl, rfl, rfl⟩ := ht
        have hr' : rightB ((W : Int) / 8) ((W : Int) % 8) = false := hr0
        clear hr hr0
        go_enter Try.func71, Try.ntmps71
        go_wp2_with (first | (go_at_call 28; refine (vRead (Hb.out _) Hv.out).mono ?_; rintro e w' ⟨rfl, rfl⟩) | (go_at_call 79; refine (tRight _ _ _).mono ?_; rintro e w1 ⟨rfl, E1⟩; obtain ⟨⟨c1, c2, c3, c4⟩, f1, f2, hlt, E2⟩ := Hc.out w1 E1))
        exact bodyPost_ret (v := .tuple #[.agg #[.int .i64 0, .int .i64 0], .int .i64 0, .int .u8 5]) (by simp [results, Try.results71, go_sem, c1, c2]) rfl ⟨rfl, (E2.setCell (Nat.le_refl _) _).setCell (Nat.le_refl _) _⟩
  · have q : ((E : Int) != 0) = true := by simp; omega
    rw [if_pos hE] at ht
    simp only [Prod.mk.injEq] at ht
    obtain ⟨rfl, rfl, rfl, rfl⟩ := ht
    go_enter Try.func71, Try.ntmps71
    go_wp2_with (go_at_call 28; refine (vRead (Hb.out _) Hv.out).mono ?_; rintro e w' ⟨rfl, rfl⟩)
    exact bodyPost_ret (v := .tuple #[.agg #[.int .i64 0, .int .i64 0], .int .i64 0, .int .u8 E]) (by simp [results, Try.results71, go_sem]) rfl ⟨rfl, (Ext.refl _).alloc _⟩

end Go.Proofs.Ytnnphodgegcddaa

/- Contracts of layer 3: putting tags. -/
namespace Go.Proofs.Ytnnphodgegcddaa
open Go.RowKit
set_option linter.unusedVariables false

end Go.Proofs.Ytnnphodgegcddaa
