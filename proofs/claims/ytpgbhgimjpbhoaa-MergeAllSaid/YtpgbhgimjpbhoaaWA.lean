/- Contracts of layers 1 to 3. -/
import Derived.Test.YtpgbhgimjpbhoaaChecked
import Derived.Test.YtpgbhgimjpbhoaaSA
import Derived.Test.YtpgbhgimjpbhoaaLib
import Derived.WalkKit
import Derived.WalkSpells
import Derived.WalkLawsBesides
import Derived.BigQuiet
import Derived.Deep.QuietTactic
import Derived.Deep.RegionLaw

/- Contracts of the functions of layer 1 that only reckon: package bits and its reference. -/
namespace Go.Proofs.Ytpgbhgimjpbhoaa
open Go.RowKit
set_option linter.unusedVariables false

end Go.Proofs.Ytpgbhgimjpbhoaa

/- Contracts of layer 1's functions that read or make memory. -/
namespace Go.Proofs.Ytpgbhgimjpbhoaa
open Go.RowKit
set_option linter.unusedVariables false

theorem elemB : Elem Try.prog 43 5 1 1 := Elem.mk' (z := .int .u8 0) Try.underlying43 (by kernel_rfl) rfl (by omega)

theorem same {A B : Option Addr} {n c m d : Nat} {xs ys : List UInt8} {w : World} (ha : BytesAt w A n c xs) (hb : BytesAt w B m d ys) :
    Calls Try.prog 35 #[.slice A n c, .slice B m d] w fun e w' => e = .returned (.bool (decide (xs = ys))) ∧ w = w' := by
  have c1 := ha.convert (P := Try.prog) 43 5 9 Try.underlying43 Try.underlying5 Try.underlying9
  have c2 := hb.convert (P := Try.prog) 43 5 9 Try.underlying43 Try.underlying5 Try.underlying9
  go_enter Try.func35, Try.ntmps35
  go_wp2
  go_ret
  exact ⟨ret_bool (by rw [Bool.eq_iff_iff]; simp), rfl⟩

theorem clone {A : Option Addr} {n c : Nat} {bs : List UInt8} {w : World} (ha : BytesAt w A n c bs) (hn : n ≤ 100000000000000) :
    Calls Try.prog 70 #[.slice A n c] w fun e w' => ∃ A' c', e = .returned (.slice A' n c') ∧ Own w w' 5 1 A' n c' (bs.map bv) := by
  have hnil := Lib.run_eql_slice_nil (P := Try.prog) w 43 5 A n c 0 0 Try.underlying43
  rcases A with _ | ad
  · have h0 : n = 0 := by
      rcases Nat.eq_zero_or_pos n with h | h
      · exact h
      · obtain ⟨b, off, e, _⟩ := Reads.at_ ha h; cases e
    subst h0
    have hbs : bs = [] := List.eq_nil_of_length_eq_zero ha.length
    subst hbs
    go_enter Try.func70, Try.ntmps70
    go_wp2
    go_ret
    exact ⟨_, _, rfl, Own.nil (Ext.refl _) 5 1⟩
  · go_enter Try.func70, Try.ntmps70
    go_wp2_with (at_builtin; refine wpList_more elemB rfl (.tmp 5) (.tmp 6) rfl rfl (Own.empty (Ext.refl _) 5 1) rfl (ha.ext ((Ext.refl _).alloc _)) (bv_one _) (by omega) (by unfold maxLen; omega) ?_; intro A' c' w' hown _)
    go_ret
    exact ⟨_, _, ret_slice (by simp), by simpa using hown⟩

theorem little_bv (k x : Nat) : List.map bv (littleB k x) ++ [.int .u8 ((x : Int) / 2 ^ (8 * k) % 256)] = List.map bv (littleB (k + 1) x) := by
  rw [littleB_succ, List.map_append, List.map_cons, List.map_nil, bv_of _ (by omega), ← pow_256]
  simp

end Go.Proofs.Ytpgbhgimjpbhoaa

/- Contracts of layer 1: the word of bytes. -/
namespace Go.Proofs.Ytpgbhgimjpbhoaa
open Go.RowKit
set_option linter.unusedVariables false

end Go.Proofs.Ytpgbhgimjpbhoaa

/- Contracts of layer 2: reading varints. -/
namespace Go.Proofs.Ytpgbhgimjpbhoaa
open Go.RowKit
set_option linter.unusedVariables false

theorem ret_v {a a' b b' c c' : Int} (h1 : a = a') (h2 : b = b') (h3 : c = c') : Ending.returned (.tuple #[.int .u64 a, .int .i64 b, .int .u8 c]) = .returned (.tuple #[.int .u64 a', .int .i64 b', .int .u8 c']) := by rw [h1, h2, h3]

theorem ret_vr {a a' b b' c c' : Int} (h1 : a = a') (h2 : b = b') (h3 : c = c') : Ending.returned (.tuple #[.int .u64 a, .int .i64 b, .int .i64 c]) = .returned (.tuple #[.int .u64 a', .int .i64 b', .int .i64 c']) := by rw [h1, h2, h3]

theorem vRead {A : Option Addr} {n c : Nat} {bs : List UInt8} {w : World} {W N C : Nat} (hb : BytesAt w A n c bs) (hv : readV bs = (W, N, C)) :
    Calls Try.prog 85 #[.slice A n c] w fun e w' => e = .returned (.tuple #[.int .u64 W, .int .i64 N, .int .u8 C]) ∧ w = w' := by
  have hl := hb.length
  have hmax := Reads.max hb
  have hcap := Reads.cap hb
  unfold maxLen at hmax
  have Hv := Lib.hid hv
  clear hv
  go_enter Try.func85, Try.ntmps85
  go_wp2
  go_loop [5, 6, 7, 10] (fun v _ _ i => ∃ k : Nat, k ≤ n ∧ k ≤ 9 ∧ i = .int .i64 k ∧ v = .int .u64 (wordV (bs.take k) : Nat) ∧ Cont bs k) (fun _ _ _ i => n - (intOf i).toNat)
  case atStart => exact ⟨0, Nat.zero_le _, Nat.zero_le _, rfl, by simp [wordV], Cont.zero bs⟩
  case round =>
    obtain ⟨k, hk, hk9, rfl, rfl, hC⟩ := hrel
    by_cases hlt : k < n
    · obtain ⟨b, off, x, rfl, hx, hcell⟩ := hb.byte hlt
      have hsn := take_snoc bs k x hx
      have hlk : (bs.take k).length = k := by rw [List.length_take]; omega
      have hx256 := u8_ltI x
      by_cases hbig : (9 : Int) ≤ k ∧ (1 : Int) < x.toNat
      · obtain ⟨h9, h1⟩ := hbig
        have hr := readV_over (bs := bs) (c := x) (by rw [show 9 = k by omega]; exact hC) (by rw [show 9 = k by omega]; exact hx) (by omega)
        have Hr := Lib.hid hr
        clear hr hsn hlk hx hC hl
        have hq : ((k : Int) == 9) = true := by simp; omega
        go_wp2
        go_ret3
        have e := Hv.out.symm.trans Hr.out
        exact ⟨ret_v (by simp at e; omega) (by simp at e; omega) (by simp at e; omega), rfl⟩
      · have hor := read_or' (bs.take k) k x hlk hk9 (fun e => by omega)
        rw [← hsn] at hor
        have Ho := Lib.hid hor
        have Hx := Lib.hid hx
        clear hor hx hsn hlk hl
        have done : ∀ (h : (x.toNat : Int) < 128), (W : Int) = (wordV (bs.take (k + 1)) : Nat) ∧ N = k + 1 ∧ C = 0 := by
          intro h
          have e := Hv.out.symm.trans (readV_done hC hk9 Hx.out (by omega) (fun e => by omega))
          simp at e
          exact ⟨by rw [e.1], e.2.1, e.2.2⟩
        have Hd := Lib.hid done
        clear done
        by_cases h9 : (9 : Int) ≤ k
        · have h1 : (x.toNat : Int) ≤ 1 := by omega
          have h128 : (x.toNat : Int) < 128 := by omega
          have hd : ¬ ((1 : Int) < x.toNat) := by omega
          clear hbig hx256 h1
          have hq : ((k : Int) == 9) = true := by simp; omega
          go_wp2
          go_ret3
          have d := Hd.out (by omega)
          exact ⟨ret_v (by rw [d.1, ← Ho.out]) (by omega) (by omega), rfl⟩
        · clear hbig
          have hq : ((k : Int) == 9) = false := by simp; omega
          by_cases h128 : (x.toNat : Int) < 128
          · go_wp2
            go_ret3
            have d := Hd.out h128
            exact ⟨ret_v (by rw [d.1, ← Ho.out]) (by omega) (by omega), rfl⟩
          · go_wp2
            go_round
            case rel => exact ⟨k + 1, by omega, by omega, by go_num, by rw [← Ho.out], hC.succ Hx.out (by omega)⟩
            case measure => simp [intOf]; omega
    · have hr := readV_short hC hk9 (by omega)
      have Hr := Lib.hid hr
      clear hr hl
      go_wp2
      go_ret3
      have e := Hv.out.symm.trans Hr.out
      exact ⟨ret_v (by simp at e; omega) (by simp at e; omega) (by simp at e; omega), rfl⟩

theorem Cont.of_take {bs : List UInt8} {p k : Nat} {x : UInt8} (h : Cont (bs.drop p) k) (hx : bs[p + k]? = some x) (hb : 128 ≤ x.toNat) : Cont (bs.drop p) (k + 1) :=
  h.succ (by rw [List.getElem?_drop]; exact hx) hb

theorem vReadR {A : Option Addr} {n c : Nat} {bs : List UInt8} {w : World} {W N C p : Nat} {at_ : Int} (hb : BytesAt w A n c bs) (hat : at_ = p) (hp : p ≤ n) (hn : n ≤ 9000000000000000000) (hv : readV (bs.drop p) = (W, N, C)) :
    Calls Try.prog 95 #[.slice A n c, .int .i64 at_] w fun e w' => e = .returned (.tuple #[.int .u64 W, .int .i64 N, .int .i64 C]) ∧ w = w' := by
  subst hat
  have hl := hb.length
  have hcap := Reads.cap hb
  have Hv := Lib.hid hv
  clear hv
  go_enter Try.func95, Try.ntmps95
  go_wp2
  go_loop [7] (fun i => ∃ k : Nat, p + k ≤ n ∧ k ≤ 10 ∧ i = .int .i64 k ∧ Cont (bs.drop p) k) (fun i => 10 - (intOf i).toNat)
  case atStart => exact ⟨0, by omega, by omega, rfl, Cont.zero _⟩
  case round =>
    obtain ⟨k, hk, hk10, rfl, hC⟩ := hrel
    by_cases hlt : (p : Int) + k < n
    · obtain ⟨b, off, x, rfl, hx, hcell⟩ := hb.byte (show p + k < n by omega)
      have hxd : (bs.drop p)[k]? = some x := by rw [List.getElem?_drop]; exact hx
      by_cases h10 : (k : Int) < 10
      · have hq10 : ((k : Int) == 10) = false := by simp; omega
        have hql : ((p : Int) + k == (n : Int)) = false := by simp; omega
        by_cases hbig : (128 : Int) ≤ x.toNat
        · have Hx := Lib.hid hxd
          clear hx hxd hl
          go_wp2
          go_round
          case rel => exact ⟨k + 1, by omega, by omega, by go_num, hC.succ Hx.out (by omega)⟩
          case measure => simp [intOf]; omega
        · by_cases h9 : (9 : Int) ≤ k ∧ (1 : Int) < x.toNat
          · obtain ⟨h9, h1⟩ := h9
            have hq9 : ((k : Int) == 9) = true := by simp; omega
            have e := Hv.out.symm.trans (readV_over (bs := bs.drop p) (c := x) (by rw [show 9 = k by omega]; exact hC) (by rw [show 9 = k by omega]; exact hxd) (by omega))
            have He := Lib.hid e
            clear e hx hxd hl hC
            go_wp2
            go_ret3
            have e := He.out
            exact ⟨ret_vr (by simp at e; omega) (by simp at e; omega) (by simp at e; omega), rfl⟩
          · have e := Hv.out.symm.trans (readV_done hC (by omega) hxd (by omega) (fun e => by omega))
            have hW := wordV_take_lt (bs := bs.drop p) (k := k) (by omega) hxd (fun e => by omega)
            obtain ⟨L, hL⟩ : ∃ L, L = (bs.drop p).take (k + 1) := ⟨_, rfl⟩
            rw [← hL] at e hW
            have hLl : L.length = k + 1 := by rw [hL, List.length_take, List.length_drop]; omega
            have hLi : ∀ j, j ≤ k → L[j]? = bs[p + j]? := by
              intro j hj
              rw [hL, List.getElem?_take_of_lt (by omega), List.getElem?_drop]
            have He := Lib.hid e
            have HL := Lib.hid hLl
            have HI := Lib.hid hLi
            clear e hx hxd hl hC hL hLl hLi
            by_cases h9' : (9 : Int) ≤ k
            all_goals
              first
                | (have hq9 : ((k : Int) == 9) = true := by simp; omega
                   have hx1 : ¬ (1 : Int) < x.toNat := by omega
                   skip)
                | have hq9 : ((k : Int) == 9) = false := by simp; omega
              clear h9 h9'
              go_wp2
              go_loop [8, 9] (fun v i => ∃ j : Nat, j ≤ k + 1 ∧ i = .int .i64 ((j : Int) - 1) ∧ v = .int .u64 (wordV (L.drop j) : Nat)) (fun _ i => (intOf i + 1).toNat)
              case atStart => exact ⟨k + 1, Nat.le_refl _, by congr 1; omega, by rw [List.drop_of_length_le (by rw [HL.out]; exact Nat.le_refl _)]; rfl⟩
              case round =>
                obtain ⟨j, hj, rfl, rfl⟩ := hrel
                by_cases hj0 : (0 : Int) ≤ (j : Int) - 1
                · obtain ⟨b', off', y, hbo, hy, hcy⟩ := hb.byte (show p + (j - 1) < n by omega)
                  cases hbo
                  obtain ⟨i, rfl⟩ : ∃ i, j = i + 1 := ⟨j - 1, by omega⟩
                  have hst := wordV_step L i y (by rw [HI.out i (by omega)]; exact hy)
                  have hle := wordV_drop_le L i
                  rw [Nat.add_sub_cancel] at hcy hy
                  generalize hA : wordV (L.drop i) = WA at *
                  generalize hB : wordV (L.drop (i + 1)) = WB at *
                  have HA := Lib.hid hA
                  have HS := Lib.hid hst
                  have hy256 := u8_ltI y
                  have hov : 128 * WB < 18446744073709551616 - y.toNat % 128 := by omega
                  clear hst hA hB hy
                  go_wp2
                  go_round
                  case rel => exact ⟨i, by omega, by go_num, by rw [HA.out, HS.out]; go_num⟩
                  case measure => simp [intOf] <;> omega
                · have j0 : j = 0 := by omega
                  subst j0
                  go_wp2
                  go_ret3
                  have e := He.out
                  exact ⟨ret_vr (by simp at e; omega) (by simp at e; omega) (by simp at e; omega), rfl⟩
      · have hq10 : ((k : Int) == 10) = true := by simp; omega
        obtain ⟨z, hz, hz8⟩ := hC 9 (by omega)
        have e := Hv.out.symm.trans (readV_over (bs := bs.drop p) (fun j hj => hC j (by omega)) hz (by omega))
        have He := Lib.hid e
        clear e hx hxd hl hC hz hz8
        go_wp2
        go_ret3
        have e := He.out
        exact ⟨ret_vr (by simp at e; omega) (by simp at e; omega) (by simp at e; omega), rfl⟩
    · have hql : ((p : Int) + k == (n : Int)) = true := by simp; omega
      by_cases h10 : (k : Int) < 10
      · have hq10 : ((k : Int) == 10) = false := by simp; omega
        have e := Hv.out.symm.trans (readV_short hC (by omega) (by rw [List.length_drop]; omega))
        have He := Lib.hid e
        clear e hl hC
        go_wp2
        go_ret3
        have e := He.out
        exact ⟨ret_vr (by simp at e; omega) (by simp at e; omega) (by simp at e; omega), rfl⟩
      · have hq10 : ((k : Int) == 10) = true := by simp; omega
        obtain ⟨z, hz, hz8⟩ := hC 9 (by omega)
        have e := Hv.out.symm.trans (readV_over (bs := bs.drop p) (fun j hj => hC j (by omega)) hz (by omega))
        have He := Lib.hid e
        clear e hl hC hz hz8
        go_wp2
        go_ret3
        have e := He.out
        exact ⟨ret_vr (by simp at e; omega) (by simp at e; omega) (by simp at e; omega), rfl⟩

end Go.Proofs.Ytpgbhgimjpbhoaa

/- Contracts of layer 2: skipping, putting, reading all, comparing. -/
namespace Go.Proofs.Ytpgbhgimjpbhoaa
open Go.RowKit
set_option linter.unusedVariables false

/-- A word in a cell. -/
def uv (x : Nat) : Value := .int .u64 (x : Int)

theorem uv_one (l : List Nat) : ∀ u ∈ l.map uv, u.oneCell' = true := by
  intro u hu
  obtain ⟨b, _, rfl⟩ := List.mem_map.1 hu
  rfl

theorem ret_kc {a a' b b' : Int} (h1 : a = a') (h2 : b = b') : Ending.returned (.tuple #[.int .i64 a, .int .u8 b]) = .returned (.tuple #[.int .i64 a', .int .u8 b']) := by rw [h1, h2]

theorem vSkip {A : Option Addr} {n c : Nat} {bs : List UInt8} {w : World} {W N C : Nat} (hb : BytesAt w A n c bs) (hv : readV bs = (W, N, C)) :
    Calls Try.prog 125 #[.slice A n c] w fun e w' => e = .returned (.tuple #[.int .i64 N, .int .u8 C]) ∧ w = w' := by
  have Hv := Lib.hid hv
  clear hv
  go_enter Try.func125, Try.ntmps125
  go_wp2_with (go_at_call 85; refine (vRead hb Hv.out).mono ?_; rintro e w' ⟨rfl, rfl⟩)
  go_ret2
  exact ⟨rfl, rfl⟩

/-- Minimal? -/
def minimalB (bs : List UInt8) : Bool := decide ((readV bs).2.2 = 0 ∧ (readV bs).2.1 = bs.length ∧ (bs.length = 1 ∨ bs.getLast? ≠ some 0))

theorem uvarint_bv_small {x : Nat} (h : x < 128) : List.map bv (Lib.uvarint x) = [.int .u8 (x : Int)] := by
  rw [Lib.uvarint_small h, List.map_cons, List.map_nil, bv_of x (by omega)]

theorem uvarint_bv_big {x : Nat} (h : 128 ≤ x) : List.map bv (Lib.uvarint x) = .int .u8 ((x % 128 + 128 : Nat) : Int) :: List.map bv (Lib.uvarint (x / 128)) := by
  rw [Lib.uvarint_big h, List.map_cons, bv_of _ (by omega)]

/-- A slice of words. -/
def WordsAt (w : World) (A : Option Addr) (n c : Nat) (l : List Nat) : Prop := Reads w A n c 1 (l.map uv)

theorem WordsAt.length {w : World} {A : Option Addr} {n c : Nat} {l : List Nat} (h : WordsAt w A n c l) : l.length = n := by have := Reads.len h; simpa using this

theorem WordsAt.word {w : World} {A : Option Addr} {n c : Nat} {l : List Nat} (h : WordsAt w A n c l) {k : Nat} (hk : k < n) :
    ∃ b off x, A = some ⟨b, off, none⟩ ∧ l[k]? = some x ∧ w.cell? ⟨b, off + k, none⟩ = some (.int .u64 (x : Int)) := by
  obtain ⟨b, off, e, _, hc⟩ := Reads.at_ h (by omega)
  have hl := h.length
  have hx : l[k]? = some (l[k]'(by omega)) := List.getElem?_eq_getElem (by omega)
  exact ⟨b, off, _, e, hx, hc k _ (by rw [List.getElem?_map, hx]; rfl)⟩

theorem ret_lc {A A' : Option Addr} {n n' c c' : Nat} {k : IntKind} {b b' : Int} (h0 : A = A') (h1 : n = n') (h2 : c = c') (h3 : b = b') : Ending.returned (.tuple #[.slice A n c, .int k b]) = .returned (.tuple #[.slice A' n' c', .int k b']) := by rw [h0, h1, h2, h3]

theorem ret_len {A : Option Addr} {n n' c : Nat} (h : n = n') : Value.slice A n c = Value.slice A n' c := by rw [h]

end Go.Proofs.Ytpgbhgimjpbhoaa

/- Contracts of layer 3: reading tags. -/
namespace Go.Proofs.Ytpgbhgimjpbhoaa
open Go.RowKit
set_option linter.unusedVariables false

theorem tRightR (number wire : Int) (w : World) :
    Calls Try.prog 122 #[.int .i64 number, .int .i64 wire] w fun e w' => e = .returned (.bool (rightB number wire)) ∧ w = w' := by
  by_cases h1 : (1 : Int) ≤ number
  · by_cases h2 : number ≤ (536870911 : Int)
    · by_cases e0 : wire = 0
      · subst e0
        go_enter Try.func122, Try.ntmps122
        go_wp2
        go_ret
        exact ⟨ret_bool (by unfold rightB; exact (decide_eq_true (by omega)).symm), rfl⟩
      · by_cases e1 : wire = 1
        · subst e1
          go_enter Try.func122, Try.ntmps122
          go_wp2
          go_ret
          exact ⟨ret_bool (by unfold rightB; exact (decide_eq_true (by omega)).symm), rfl⟩
        · by_cases e2 : wire = 2
          · subst e2
            go_enter Try.func122, Try.ntmps122
            go_wp2
            go_ret
            exact ⟨ret_bool (by unfold rightB; exact (decide_eq_true (by omega)).symm), rfl⟩
          · have q0 : (wire == 0) = false := by simp; omega
            have q1 : (wire == 1) = false := by simp; omega
            have q2 : (wire == 2) = false := by simp; omega
            go_enter Try.func122, Try.ntmps122
            go_wp2
            go_ret
            refine ⟨ret_bool ?_, rfl⟩
            unfold rightB
            rw [Bool.eq_iff_iff]
            simp only [beq_iff_eq, decide_eq_true_eq]
            omega
    · go_enter Try.func122, Try.ntmps122
      go_wp2
      go_ret
      exact ⟨ret_bool (by unfold rightB; exact (decide_eq_false (by omega)).symm), rfl⟩
  · go_enter Try.func122, Try.ntmps122
    go_wp2
    go_ret
    exact ⟨ret_bool (by unfold rightB; exact (decide_eq_false (by omega)).symm), rfl⟩

theorem tRight (number wire : Int) (w : World) :
    Calls Try.prog 124 #[.agg #[.int .i64 number, .int .i64 wire]] w fun e w' => e = .returned (.bool (rightB number wire)) ∧ Ext w w' := by
  by_cases h1 : (1 : Int) ≤ number
  · by_cases h2 : number ≤ (536870911 : Int)
    · by_cases h3 : (0 : Int) ≤ wire
      · by_cases h4 : wire < (8 : Int)
        · rcases (show wire = 0 ∨ wire = 1 ∨ wire = 2 ∨ wire = 3 ∨ wire = 4 ∨ wire = 5 ∨ wire = 6 ∨ wire = 7 by omega) with h | h | h | h | h | h | h | h
          all_goals
            subst h
            go_enter Try.func124, Try.ntmps124
            go_wp2
            go_ret
            exact ⟨ret_bool (by unfold rightB; first | exact (decide_eq_true (by omega)).symm | exact (decide_eq_false (by omega)).symm), (Ext.refl _).alloc _⟩
        · go_enter Try.func124, Try.ntmps124
          go_wp2
          go_ret
          exact ⟨ret_bool (by unfold rightB; exact (decide_eq_false (by omega)).symm), (Ext.refl _).alloc _⟩
      · go_enter Try.func124, Try.ntmps124
        go_wp2
        go_ret
        exact ⟨ret_bool (by unfold rightB; exact (decide_eq_false (by omega)).symm), (Ext.refl _).alloc _⟩
    · go_enter Try.func124, Try.ntmps124
      go_wp2
      go_ret
      exact ⟨ret_bool (by unfold rightB; exact (decide_eq_false (by omega)).symm), (Ext.refl _).alloc _⟩
  · go_enter Try.func124, Try.ntmps124
    go_wp2
    go_ret
    exact ⟨ret_bool (by unfold rightB; exact (decide_eq_false (by omega)).symm), (Ext.refl _).alloc _⟩

end Go.Proofs.Ytpgbhgimjpbhoaa

/- Contracts of layer 3: the tag that bytes begin with. -/
namespace Go.Proofs.Ytpgbhgimjpbhoaa
open Go.RowKit
set_option linter.unusedVariables false

theorem tRead {A : Option Addr} {n c : Nat} {bs : List UInt8} {w : World} {T V N C : Nat} (hb : BytesAt w A n c bs) (ht : tagV bs = (T, V, N, C)) :
    Calls Try.prog 113 #[.slice A n c] w fun e w' => e = .returned (.tuple #[.agg #[.int .i64 T, .int .i64 V], .int .i64 N, .int .u8 C]) ∧ Ext w w' := by
  rcases hv : readV bs with ⟨W, M, E⟩
  have hbd := (readV_bd bs).1
  have hE4 := (readV_bd bs).2.2.2.1
  rw [hv] at hbd hE4
  simp only at hbd hE4
  unfold tagV at ht
  rw [hv] at ht
  simp only at ht
  have Hv := Lib.hid hv
  clear hv
  have hb' : ∀ o : Obj, BytesAt (w.alloc o) A n c bs := fun o => hb.ext ((Ext.refl _).alloc o)
  have Hb := Lib.hid hb'
  clear hb'
  by_cases hE : E = 0
  · subst hE
    rw [if_neg (by simp)] at ht
    have h7 := and7 W hbd
    by_cases hbig : (536870911 : Int) < (W : Int) / 8
    · have hr : rightB ((W / 8 : Nat) : Int) ((W % 8 : Nat) : Int) = false := by unfold rightB; exact decide_eq_false (by omega)
      rw [hr, if_neg (by simp)] at ht
      simp only [Prod.mk.injEq] at ht
      obtain ⟨rfl, rfl, rfl, rfl⟩ := ht
      clear hr
      go_enter Try.func113, Try.ntmps113
      go_wp2_with (go_at_call 85; refine (vRead (Hb.out _) Hv.out).mono ?_; rintro e w' ⟨rfl, rfl⟩)
      exact bodyPost_ret (v := .tuple #[.agg #[.int .i64 0, .int .i64 0], .int .i64 0, .int .u8 5]) (by simp [results, Try.results113, go_sem]) rfl ⟨rfl, (Ext.refl _).alloc _⟩
    · have hcell : ∀ (w1 : World) (E1 : Ext ((w.alloc (.cells #[.int .i64 0, .int .i64 0] 161)).alloc (.cells #[.int .i64 ((W : Int) / 8), .int .i64 ((W : Int) % 8)] 161)) w1),
          (w1.cell? ⟨w.heap.size, 0, none⟩ = some (.int .i64 0) ∧ w1.cell? ⟨w.heap.size, 1, none⟩ = some (.int .i64 0) ∧ w1.cell? ⟨w.heap.size + 1, 0, none⟩ = some (.int .i64 ((W : Int) / 8)) ∧ w1.cell? ⟨w.heap.size + 1, 1, none⟩ = some (.int .i64 ((W : Int) % 8))) ∧
          w1.frozen? ⟨w.heap.size, 0, none⟩ = false ∧ w1.frozen? ⟨w.heap.size, 1, none⟩ = false ∧ w.heap.size < w1.heap.size ∧ Ext w w1 := fun w1 E1 => by
        have h := two_blocks E1
        exact ⟨⟨h.1 0, h.1 1, h.2.1 0, h.2.1 1⟩, h.2.2.1 0, h.2.2.1 1, by have := h.2.2.2.2; omega, ((Ext.refl w).alloc _ |>.alloc _).trans E1⟩
      have Hc := Lib.hid hcell
      clear hcell
      by_cases hr : rightB ((W / 8 : Nat) : Int) ((W % 8 : Nat) : Int) = true
      · rw [if_pos hr] at ht
        simp only [Prod.mk.injEq] at ht
        obtain ⟨rfl, rfl, rfl, rfl⟩ := ht
        have hr' : rightB ((W : Int) / 8) ((W : Int) % 8) = true := hr
        clear hr
        go_enter Try.func113, Try.ntmps113
        go_wp2_with (first | (go_at_call 85; refine (vRead (Hb.out _) Hv.out).mono ?_; rintro e w' ⟨rfl, rfl⟩) | (go_at_call 124; refine (tRight _ _ _).mono ?_; rintro e w1 ⟨rfl, E1⟩; obtain ⟨⟨c1, c2, c3, c4⟩, f1, f2, hlt, E2⟩ := Hc.out w1 E1))
        exact bodyPost_ret (v := .tuple #[.agg #[.int .i64 ((W : Int) / 8), .int .i64 ((W : Int) % 8)], .int .i64 M, .int .u8 0]) (by simp [results, Try.results113, go_sem, c1, c2]) rfl ⟨rfl, (E2.setCell (Nat.le_refl _) _).setCell (Nat.le_refl _) _⟩
      · have hr0 : rightB ((W / 8 : Nat) : Int) ((W % 8 : Nat) : Int) = false := by simpa using hr
        rw [if_neg hr] at ht
        simp only [Prod.mk.injEq] at ht
        obtain ⟨rfl, rfl, rfl, rfl⟩ := ht
        have hr' : rightB ((W : Int) / 8) ((W : Int) % 8) = false := hr0
        clear hr hr0
        go_enter Try.func113, Try.ntmps113
        go_wp2_with (first | (go_at_call 85; refine (vRead (Hb.out _) Hv.out).mono ?_; rintro e w' ⟨rfl, rfl⟩) | (go_at_call 124; refine (tRight _ _ _).mono ?_; rintro e w1 ⟨rfl, E1⟩; obtain ⟨⟨c1, c2, c3, c4⟩, f1, f2, hlt, E2⟩ := Hc.out w1 E1))
        exact bodyPost_ret (v := .tuple #[.agg #[.int .i64 0, .int .i64 0], .int .i64 0, .int .u8 5]) (by simp [results, Try.results113, go_sem, c1, c2]) rfl ⟨rfl, (E2.setCell (Nat.le_refl _) _).setCell (Nat.le_refl _) _⟩
  · have q : ((E : Int) != 0) = true := by simp; omega
    rw [if_pos hE] at ht
    simp only [Prod.mk.injEq] at ht
    obtain ⟨rfl, rfl, rfl, rfl⟩ := ht
    go_enter Try.func113, Try.ntmps113
    go_wp2_with (go_at_call 85; refine (vRead (Hb.out _) Hv.out).mono ?_; rintro e w' ⟨rfl, rfl⟩)
    exact bodyPost_ret (v := .tuple #[.agg #[.int .i64 0, .int .i64 0], .int .i64 0, .int .u8 E]) (by simp [results, Try.results113, go_sem]) rfl ⟨rfl, (Ext.refl _).alloc _⟩

theorem tReadR {A : Option Addr} {n c p : Nat} {bs : List UInt8} {w : World} {T V N C : Nat} {at_ : Int} (hb : BytesAt w A n c bs) (hat : at_ = p) (hp : p ≤ n) (hn : n ≤ 9000000000000000000) (ht : tagV (bs.drop p) = (T, V, N, C)) :
    Calls Try.prog 111 #[.slice A n c, .int .i64 at_] w fun e w' => e = .returned (.tuple #[.int .i64 T, .int .i64 V, .int .i64 N, .int .i64 C]) ∧ w = w' := by
  rcases hv : readV (bs.drop p) with ⟨W, M, E⟩
  have hbd := (readV_bd (bs.drop p)).1
  have hE4 := (readV_bd (bs.drop p)).2.2.2.1
  rw [hv] at hbd hE4
  simp only at hbd hE4
  unfold tagV at ht
  rw [hv] at ht
  simp only at ht
  have Hv := Lib.hid hv
  have Hat := Lib.hid hat
  clear hv hat
  by_cases hE : E = 0
  · subst hE
    rw [if_neg (by simp)] at ht
    by_cases hbig : (4294967295 : Int) < (W : Int)
    · have hr : rightB ((W / 8 : Nat) : Int) ((W % 8 : Nat) : Int) = false := by unfold rightB; exact decide_eq_false (by omega)
      rw [hr, if_neg (by simp)] at ht
      simp only [Prod.mk.injEq] at ht
      obtain ⟨rfl, rfl, rfl, rfl⟩ := ht
      clear hr
      go_enter Try.func111, Try.ntmps111
      go_wp2_with (go_at_call 95; refine (vReadR hb Hat.out hp hn Hv.out).mono ?_; rintro e w' ⟨rfl, rfl⟩)
      exact bodyPost_ret (v := .tuple #[.int .i64 0, .int .i64 0, .int .i64 0, .int .i64 5]) (by simp [results, Try.results111, go_sem]) rfl ⟨rfl, rfl⟩
    · by_cases hr : rightB ((W / 8 : Nat) : Int) ((W % 8 : Nat) : Int) = true
      · rw [if_pos hr] at ht
        simp only [Prod.mk.injEq] at ht
        obtain ⟨rfl, rfl, rfl, rfl⟩ := ht
        have hr' : rightB ((W : Int) / 8) ((W : Int) % 8) = true := hr
        clear hr
        go_enter Try.func111, Try.ntmps111
        go_wp2_with (first | (go_at_call 95; refine (vReadR hb Hat.out hp hn Hv.out).mono ?_; rintro e w' ⟨rfl, rfl⟩) | (go_at_call 122; refine (tRightR _ _ _).mono ?_; rintro e w' ⟨rfl, rfl⟩))
        exact bodyPost_ret (v := .tuple #[.int .i64 ((W : Int) / 8), .int .i64 ((W : Int) % 8), .int .i64 M, .int .i64 0]) (by simp [results, Try.results111, go_sem]) rfl ⟨rfl, rfl⟩
      · have hr0 : rightB ((W / 8 : Nat) : Int) ((W % 8 : Nat) : Int) = false := by simpa using hr
        rw [if_neg hr] at ht
        simp only [Prod.mk.injEq] at ht
        obtain ⟨rfl, rfl, rfl, rfl⟩ := ht
        have hr' : rightB ((W : Int) / 8) ((W : Int) % 8) = false := hr0
        clear hr hr0
        go_enter Try.func111, Try.ntmps111
        go_wp2_with (first | (go_at_call 95; refine (vReadR hb Hat.out hp hn Hv.out).mono ?_; rintro e w' ⟨rfl, rfl⟩) | (go_at_call 122; refine (tRightR _ _ _).mono ?_; rintro e w' ⟨rfl, rfl⟩))
        exact bodyPost_ret (v := .tuple #[.int .i64 0, .int .i64 0, .int .i64 0, .int .i64 5]) (by simp [results, Try.results111, go_sem]) rfl ⟨rfl, rfl⟩
  · have q : ((E : Int) != 0) = true := by simp; omega
    rw [if_pos hE] at ht
    simp only [Prod.mk.injEq] at ht
    obtain ⟨rfl, rfl, rfl, rfl⟩ := ht
    go_enter Try.func111, Try.ntmps111
    go_wp2_with (go_at_call 95; refine (vReadR hb Hat.out hp hn Hv.out).mono ?_; rintro e w' ⟨rfl, rfl⟩)
    exact bodyPost_ret (v := .tuple #[.int .i64 0, .int .i64 0, .int .i64 0, .int .i64 E]) (by simp [results, Try.results111, go_sem]) rfl ⟨rfl, rfl⟩

end Go.Proofs.Ytpgbhgimjpbhoaa

/- Contracts of layer 3: putting tags. -/
namespace Go.Proofs.Ytpgbhgimjpbhoaa
open Go.RowKit
set_option linter.unusedVariables false

theorem right_bd {number wire : Int} (h : rightB number wire = true) : 1 ≤ number ∧ number ≤ 536870911 ∧ 0 ≤ wire ∧ wire ≤ 5 := by
  unfold rightB at h
  have := of_decide_eq_true h
  omega

/-- A tag's bytes. -/
def tagB (number wire : Int) : List UInt8 := Lib.uvarint (8 * number + wire).toNat

theorem tagB_length {number wire : Int} (h : rightB number wire = true) : 1 ≤ (tagB number wire).length ∧ (tagB number wire).length ≤ 5 := by
  have hb := right_bd h
  refine ⟨Lib.uvarint_pos _, Lib.uvarint_length 4 _ ?_⟩
  omega

/-- How many bytes a tag has. -/
def tagSizeN (number wire : Int) : Nat := if rightB number wire = true then (tagB number wire).length else 0

/-- Does a tag come ahead? -/
def tagLessB (a b c d : Int) : Bool := decide (a < c ∨ a = c ∧ b < d)

end Go.Proofs.Ytpgbhgimjpbhoaa
