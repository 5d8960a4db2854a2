/- Contracts of layer 6: all kinds; a kind by its name; the names. -/
import Derived.Test.YtcipokmklkognaaW6b
namespace Go.Proofs.Ytcipokmklkognaa
open Go.RowKit
set_option linter.unusedVariables false

/-- A number in a cell. -/
def iv (x : Nat) : Value := .int .i64 (x : Int)

theorem iv_one (l : List Nat) : ∀ u ∈ l.map iv, u.oneCell' = true := by
  intro u hu
  obtain ⟨b, _, rfl⟩ := List.mem_map.1 hu
  rfl

theorem elemI : Elem Try.prog 42 3 1 8 := Elem.mk' (z := .int .i64 0) Try.underlying42 (by kernel_rfl) rfl (by omega)

/-- The kinds' numbers. -/
def kindsN (n : Nat) : List Nat := (List.range n).map (· + 1)

theorem kindsN_succ (n : Nat) : kindsN (n + 1) = kindsN n ++ [n + 1] := by
  unfold kindsN
  rw [List.range_succ, List.map_append]
  rfl

theorem kAll (w : World) :
    Calls Try.prog 28 #[] w fun e w' => ∃ A' c', e = .returned (.slice A' 17 c') ∧ Own w w' 3 1 A' 17 c' ((kindsN 17).map iv) := by
  go_enter Try.func28, Try.ntmps28
  go_wp2
  go_loopw [1, 2] (fun u v wr => ∃ (n : Nat) (A : Option Addr) (c : Nat), n ≤ 17 ∧ u = .slice A n c ∧ v = .int .i64 ((n : Int) + 1) ∧ Own w wr 3 1 A n c ((kindsN n).map iv)) (fun u _ _ => 17 - lenOf u)
  case atStart => exact ⟨0, none, 0, by omega, rfl, rfl, Own.nil (Ext.refl _) 3 1⟩
  case round =>
    obtain ⟨n, A, c, hn, rfl, rfl, own⟩ := hrel
    by_cases h : n = 17
    · subst h
      go_wp2
      go_ret
      exact ⟨A, c, rfl, own⟩
    · have q : (n : Int) + 1 ≤ 17 := by omega
      go_wp2_with (at_builtin; refine wpList_one elemI rfl (.tmp 7) (.tmp 9) rfl rfl own rfl (by first | rfl | simp) rfl (by omega) (by unfold maxLen; omega) ?_; intro A2 c2 w2 own2 _)
      go_roundw
      case rel =>
        refine ⟨n + 1, A2, c2, by omega, rfl, by rw [show ((n : Int) + 1 + 1) = (((n + 1 : Nat) : Int) + 1) from by omega], ?_⟩
        rw [kindsN_succ, List.map_append]
        exact own2
      case measure => simp [lenOf]; omega

/-- The names, by their kinds' numbers. -/
def namesL : List Value := (List.range 18).map fun k => .string (formOf (k : Nat)).1

theorem names_at {k : Nat} (h : k < 18) : namesL[k]? = some (.string (formOf (k : Nat)).1) := by
  unfold namesL
  rw [List.getElem?_map, List.getElem?_range h]
  rfl

theorem kNamesR (w : World) :
    Calls Try.prog 27 #[] w fun e w' => ∃ A', e = .returned (.slice A' 18 18) ∧ Own w w' 9 1 A' 18 18 namesL := by
  have own : ∀ vs : List Value, vs = namesL → Own w (w.alloc (.cells vs.toArray 9)) 9 1 (some ⟨w.heap.size, 0, none⟩) 18 18 namesL := by
    intro vs h
    subst h
    exact Own.made (Ext.refl w) 9 1 (by unfold maxLen; omega) rfl
  go_enter Try.func27, Try.ntmps27
  go_wp2
  go_ret
  exact ⟨_, rfl, own _ (by kernel_rfl)⟩

theorem str_eq {a b : ByteArray} : (a.toList == b.toList) = decide (a = b) := by
  by_cases h : a = b
  · subst h; simp
  · rw [decide_eq_false h]
    simp only [beq_eq_false_iff_ne]
    intro e
    rw [ByteArray.toList_eq, ByteArray.toList_eq] at e
    exact h (ByteArray.ext (Array.toList_inj.1 e))

theorem str_same {a b : ByteArray} (h : a = b) : (a.toList == b.toList) = true := by rw [str_eq]; exact decide_eq_true h

theorem str_ne {a b : ByteArray} (h : a ≠ b) : (a.toList == b.toList) = false := by rw [str_eq]; exact decide_eq_false h

theorem ret_kc' {a a' : Int} {c : Value} (h : a = a') : Ending.returned (.tuple #[.int .i64 a, c]) = .returned (.tuple #[.int .i64 a', c]) := by rw [h]

theorem kinds_at {j : Nat} (h : j < 17) : ((kindsN 17).map iv)[j]? = some (.int .i64 ((j : Int) + 1)) := by
  unfold kindsN
  rw [List.getElem?_map, List.getElem?_map, List.getElem?_range h]
  rfl

/-- The code of a parse. -/
def parseC (K : Nat) : Int := if K = 0 then 11 else 0

theorem parseC_0 : parseC 0 = 11 := rfl

theorem parseC_pos {K : Nat} (h : 0 < K) : parseC K = 0 := if_neg (by omega)

theorem kParse {s : ByteArray} {K : Nat} (hK : isKind s K) (w : World) :
    Calls Try.prog 26 #[.string s] w fun e w' => e = .returned (.tuple #[.int .i64 K, .int .u8 (parseC K)]) ∧ Ext w w' := by
  have HK := Lib.hid hK
  clear hK
  go_enter Try.func26, Try.ntmps26
  go_wp2_with (go_at_call 28; refine (kAll _).mono ?_; rintro e w1 ⟨A, c, rfl, own⟩)
  have hr := own.reads
  obtain ⟨b, off, rfl, hb, hat⟩ := hr.at_ (by omega)
  clear hr
  have E1 := own.ext
  clear own
  have Hat := Lib.hid hat
  clear hat
  go_loopw [8] (fun u wr => ∃ j : Nat, j ≤ 17 ∧ u = .int .i64 (j : Int) ∧ (K = 0 ∨ j < K) ∧ Ext w1 wr) (fun u _ => 18 - (match u with | .int _ i => i.toNat | _ => 0))
  case atStart => exact ⟨0, by omega, rfl, by omega, Ext.refl _⟩
  case round =>
    obtain ⟨j, hj, rfl, hjK, E2⟩ := hrel
    by_cases q : (j : Int) < 17
    · have hc : wr.cell? ⟨b, off + j, none⟩ = some (.int .i64 ((j : Int) + 1)) := E2.of_cell (Hat.out j _ (kinds_at (by omega)))
      have hj1 := HK.out.2 (j + 1) (by omega) (by omega)
      rw [show (((j + 1 : Nat)) : Int) = (j : Int) + 1 by omega] at hj1
      by_cases hk : j + 1 = K
      · have hn : ((formOf ((j : Int) + 1)).1.toList == s.toList) = true := str_same (hj1.2 hk)
        have HK0 := Lib.hid hk
        clear hk hj1 hjK
        go_wp2_with (go_at_call 32; refine (kName _ _).mono ?_; rintro e w2 ⟨rfl, E3⟩)
        go_ret2
        have hk := HK0.out
        rw [parseC_pos (by omega)]
        exact ⟨ret_kc' (by omega), E1.trans (E2.trans E3)⟩
      · have hn : ((formOf ((j : Int) + 1)).1.toList == s.toList) = false := str_ne (fun e => hk (hj1.1 e))
        clear hj1
        go_wp2_with (go_at_call 32; refine (kName _ _).mono ?_; rintro e w2 ⟨rfl, E3⟩)
        go_roundw
        case rel => exact ⟨j + 1, by omega, by rw [show (((j + 1 : Nat)) : Int) = (j : Int) + 1 by omega], by omega, E2.trans E3⟩
        case measure => simp; omega
    · have hK0 : K = 0 := by have := HK.out.1; omega
      subst hK0
      clear hjK
      go_wp2
      go_ret2
      exact ⟨rfl, E1.trans E2⟩

end Go.Proofs.Ytcipokmklkognaa
