/- The walk of the law KindForms, out of its callees' contracts. -/
import Derived.Test.YtcipokmklkognaaW6d
namespace Go.Proofs.Ytcipokmklkognaa
open Go.RowKit
set_option linter.unusedVariables false

theorem alive06 (w : World) : Calls Try.prog 25 #[] w fun e w' => e = .returned (.bool true) ∧ Ext w w' := by
  have e1 : ((canonN 1 4294967295 : Nat) : Int) = 18446744073709551615 := by unfold canonN sign32I wideI; simp
  have e2 : ((canonN 7 7 : Nat) : Int) = 1 := by unfold canonN; simp
  have c1 : ∀ w : World, Calls Try.prog 36 #[.int .i64 1, .int .u64 4294967295] w fun e w' => e = .returned (.tuple #[.int .u64 18446744073709551615, .int .u8 0]) ∧ Ext w w' := by
    intro w
    have := kCanon 1 4294967295 (by omega) w
    rw [if_pos (show numberB 1 = true from rfl), if_pos (show numberB 1 = true from rfl), e1] at this
    exact this
  have c2 : ∀ w : World, Calls Try.prog 36 #[.int .i64 7, .int .u64 7] w fun e w' => e = .returned (.tuple #[.int .u64 1, .int .u8 0]) ∧ Ext w w' := by
    intro w
    have := kCanon 7 7 (by omega) w
    rw [if_pos (show numberB 7 = true from rfl), if_pos (show numberB 7 = true from rfl), e2] at this
    exact this
  clear e1 e2
  have tok : True := trivial
  go_enter Try.func25, Try.ntmps25
  go_wp2_with (first | (go_at_call 36; have _t := tok; refine (c1 _).mono ?_; rintro e w1 ⟨rfl, E1⟩; clear tok) | (go_at_call 36; refine (c2 _).mono ?_; rintro e w2 ⟨rfl, E2⟩))
  go_ret
  exact ⟨rfl, E1.trans E2⟩

theorem kindForms_walk {k : Int} {s : ByteArray} {w : World} (bk : -9223372036854775808 ≤ k ∧ k < 9223372036854775808) (hs : s.size ≤ maxLen) :
    Calls Try.prog 5 #[.int .i64 k, .string s] w fun e w' => e = .returned (.bool true) ∧ Ext w w' := by
  by_cases hn : (500 : Int) < s.size
  · go_enter Try.func5, Try.ntmps5
    go_wp2_with (go_at_call 25; refine (alive06 _).mono ?_; rintro e w1 ⟨rfl, E1⟩)
    go_ret
    exact ⟨rfl, E1⟩
  · obtain ⟨K, hK⟩ := isKind_has s
    have HK := Lib.hid hK
    clear hK
    go_enter Try.func5, Try.ntmps5
    go_wp2_with (first | (go_at_call 25; refine (alive06 _).mono ?_; rintro e w1 ⟨rfl, E1⟩) | (go_at_call 26; refine (kParse HK.out _).mono ?_; rintro e w2 ⟨rfl, E2⟩))
    replace E1 := E1.trans E2
    clear E2
    go_loopw [7, 8] (fun u v wr => ∃ (j g : Nat), 1 ≤ j ∧ j ≤ 18 ∧ g = (if K < j then K else 0) ∧ u = .int .i64 (g : Int) ∧ v = .int .i64 (j : Int) ∧ Ext w2 wr) (fun _ v _ => 18 - (match v with | .int _ i => i.toNat | _ => 0))
    case atStart => exact ⟨1, 0, by omega, by omega, by split <;> omega, rfl, rfl, Ext.refl _⟩
    case round =>
      obtain ⟨j, g, hj1, hj, hg, rfl, rfl, E3⟩ := hrel
      by_cases q : (j : Int) ≤ 17
      · have hx := HK.out.2 j hj1 (by omega)
        have Hg := Lib.hid hg
        clear hg
        by_cases hk : j = K
        · have ht : ((formOf (j : Nat)).1.toList == s.toList) = true := str_same (hx.2 hk)
          have Hk := Lib.hid hk
          clear hk hx
          go_wp2_with (go_at_call 27; refine (kNamesR _).mono ?_; rintro e w3 ⟨A3, rfl, own3⟩; obtain ⟨b3, o3, rfl, hb3, hat3⟩ := own3.reads.at_ (by omega); have hc3 := hat3 j _ (names_at (by omega)); clear hat3)
          go_roundw
          case rel => exact ⟨j + 1, j, by omega, by omega, by have := Hk.out; split <;> omega, rfl, rfl, E3.trans own3.ext⟩
          case measure => simp; omega
        · have ht : ((formOf (j : Nat)).1.toList == s.toList) = false := str_ne (fun e => hk (hx.1 e))
          clear hx
          go_wp2_with (go_at_call 27; refine (kNamesR _).mono ?_; rintro e w3 ⟨A3, rfl, own3⟩; obtain ⟨b3, o3, rfl, hb3, hat3⟩ := own3.reads.at_ (by omega); have hc3 := hat3 j _ (names_at (by omega)); clear hat3)
          go_roundw
          case rel => exact ⟨j + 1, g, by omega, by omega, by have := Hg.out; rw [this]; split <;> split <;> omega, rfl, rfl, E3.trans own3.ext⟩
          case measure => simp; omega
      · have hgK : g = K := by
          have := HK.out.1
          rw [hg, if_pos (by omega)]
        subst hgK
        clear hg
        have hE := E1.trans E3
        clear E1 E3
        have Hgd : (g = 0 ∧ parseC g = 11) ∨ (0 < g ∧ parseC g = 0) := by
          rcases Nat.eq_zero_or_pos g with h | h
          · exact .inl ⟨h, by rw [h]; rfl⟩
          · exact .inr ⟨h, parseC_pos h⟩
        by_cases hk : 1 ≤ k ∧ k ≤ 17
        · have hB : kindB k = true := decide_eq_true hk
          have hO : wireOr k = wireI k := by unfold wireOr; rw [if_pos hB]
          obtain ⟨m, rfl⟩ : ∃ m : Nat, k = m := ⟨k.toNat, by omega⟩
          have hself : ((formOf (m : Nat)).1.toList == (formOf (m : Nat)).1.toList) = true := str_same rfl
          rcases Hgd with ⟨hg0, hgc⟩ | ⟨hg0, hgc⟩
          · subst hg0
            rw [parseC_0]
            go_wp2_with (first
              | (go_at_call 28; refine (kAll _).mono ?_; rintro e w3 ⟨A3, c3, rfl, own3⟩; obtain ⟨b3, o3, rfl, hb3, hat3⟩ := own3.reads.at_ (by omega); replace hE := hE.trans own3.ext; have hc16 : w3.cell? ⟨b3, o3 + 16, none⟩ = some (.int .i64 17) := hat3 16 _ (kinds_at (by omega)); have hc0 : w3.cell? ⟨b3, o3, none⟩ = some (.int .i64 1) := hat3 0 _ (kinds_at (by omega)); clear hat3 own3)
              | (go_at_call 29; refine (kWire _ _).mono ?_; rw [hO, hB]; rintro e w4 ⟨rfl, E4⟩; replace hE := hE.trans E4; clear E4)
              | (go_at_call 34; refine (kWireR hB _).mono ?_; rintro e w4 ⟨rfl, rfl⟩)
              | (go_at_call 30; refine (kRightR _ _).mono ?_; rw [hB]; rintro e w4 ⟨rfl, rfl⟩)
              | (go_at_call 31; refine (kRight _ _).mono ?_; rw [hB]; rintro e w4 ⟨rfl, rfl⟩)
              | (go_at_call 32; refine (kName _ _).mono ?_; rintro e w5 ⟨rfl, E4⟩; replace hE := hE.trans E4; clear E4)
              | (go_at_call 27; refine (kNamesR _).mono ?_; rintro e w7 ⟨A3, rfl, own3⟩; obtain ⟨b4, o4, rfl, hb4, hat4⟩ := own3.reads.at_ (by omega); have hc4 := hat4 m _ (names_at (by omega)); replace hE := hE.trans own3.ext; clear hat4 own3)
              | (go_at_call 35; refine (kNumberR _ _).mono ?_; rintro e w4 ⟨rfl, rfl⟩)
              | (go_at_call 33; refine (kNumber _ _).mono ?_; rintro e w6 ⟨rfl, E4⟩; replace hE := hE.trans E4; clear E4))
            go_ret
            exact ⟨rfl, hE⟩
          · rw [hgc]
            clear hgc
            go_wp2_with (first
              | (go_at_call 28; refine (kAll _).mono ?_; rintro e w3 ⟨A3, c3, rfl, own3⟩; obtain ⟨b3, o3, rfl, hb3, hat3⟩ := own3.reads.at_ (by omega); replace hE := hE.trans own3.ext; have hc16 : w3.cell? ⟨b3, o3 + 16, none⟩ = some (.int .i64 17) := hat3 16 _ (kinds_at (by omega)); have hc0 : w3.cell? ⟨b3, o3, none⟩ = some (.int .i64 1) := hat3 0 _ (kinds_at (by omega)); clear hat3 own3)
              | (go_at_call 29; refine (kWire _ _).mono ?_; rw [hO, hB]; rintro e w4 ⟨rfl, E4⟩; replace hE := hE.trans E4; clear E4)
              | (go_at_call 34; refine (kWireR hB _).mono ?_; rintro e w4 ⟨rfl, rfl⟩)
              | (go_at_call 30; refine (kRightR _ _).mono ?_; rw [hB]; rintro e w4 ⟨rfl, rfl⟩)
              | (go_at_call 31; refine (kRight _ _).mono ?_; rw [hB]; rintro e w4 ⟨rfl, rfl⟩)
              | (go_at_call 32; refine (kName _ _).mono ?_; rintro e w5 ⟨rfl, E4⟩; replace hE := hE.trans E4; clear E4)
              | (go_at_call 27; refine (kNamesR _).mono ?_; rintro e w7 ⟨A3, rfl, own3⟩; obtain ⟨b4, o4, rfl, hb4, hat4⟩ := own3.reads.at_ (by omega); have hc4 := hat4 m _ (names_at (by omega)); replace hE := hE.trans own3.ext; clear hat4 own3)
              | (go_at_call 35; refine (kNumberR _ _).mono ?_; rintro e w4 ⟨rfl, rfl⟩)
              | (go_at_call 33; refine (kNumber _ _).mono ?_; rintro e w6 ⟨rfl, E4⟩; replace hE := hE.trans E4; clear E4))
            go_ret
            exact ⟨rfl, hE⟩
        · have hB : kindB k = false := decide_eq_false hk
          have hN : numberB k = false := decide_eq_false (by omega)
          have hO : wireOr k = 0 := by unfold wireOr; rw [hB]; rfl
          have hnm : (formOf k).1 = ⟨#[]⟩ := by rw [formOf_none hk]
          clear hk
          rcases Hgd with ⟨hg0, hgc⟩ | ⟨hg0, hgc⟩
          · subst hg0
            rw [parseC_0]
            go_wp2_with (first
              | (go_at_call 28; refine (kAll _).mono ?_; rintro e w3 ⟨A3, c3, rfl, own3⟩; obtain ⟨b3, o3, rfl, hb3, hat3⟩ := own3.reads.at_ (by omega); replace hE := hE.trans own3.ext; have hc16 : w3.cell? ⟨b3, o3 + 16, none⟩ = some (.int .i64 17) := hat3 16 _ (kinds_at (by omega)); have hc0 : w3.cell? ⟨b3, o3, none⟩ = some (.int .i64 1) := hat3 0 _ (kinds_at (by omega)); clear hat3 own3)
              | (go_at_call 29; refine (kWire _ _).mono ?_; rw [hO, hB]; rintro e w4 ⟨rfl, E4⟩; replace hE := hE.trans E4; clear E4)
              | (go_at_call 30; refine (kRightR _ _).mono ?_; rw [hB]; rintro e w4 ⟨rfl, rfl⟩)
              | (go_at_call 31; refine (kRight _ _).mono ?_; rw [hB]; rintro e w4 ⟨rfl, rfl⟩)
              | (go_at_call 32; refine (kName _ _).mono ?_; rw [hnm]; rintro e w5 ⟨rfl, E4⟩; replace hE := hE.trans E4; clear E4)
              | (go_at_call 33; refine (kNumber _ _).mono ?_; rw [hN]; rintro e w6 ⟨rfl, E4⟩; replace hE := hE.trans E4; clear E4))
            go_ret
            exact ⟨rfl, hE⟩
          · rw [hgc]
            clear hgc
            go_wp2_with (first
              | (go_at_call 28; refine (kAll _).mono ?_; rintro e w3 ⟨A3, c3, rfl, own3⟩; obtain ⟨b3, o3, rfl, hb3, hat3⟩ := own3.reads.at_ (by omega); replace hE := hE.trans own3.ext; have hc16 : w3.cell? ⟨b3, o3 + 16, none⟩ = some (.int .i64 17) := hat3 16 _ (kinds_at (by omega)); have hc0 : w3.cell? ⟨b3, o3, none⟩ = some (.int .i64 1) := hat3 0 _ (kinds_at (by omega)); clear hat3 own3)
              | (go_at_call 29; refine (kWire _ _).mono ?_; rw [hO, hB]; rintro e w4 ⟨rfl, E4⟩; replace hE := hE.trans E4; clear E4)
              | (go_at_call 30; refine (kRightR _ _).mono ?_; rw [hB]; rintro e w4 ⟨rfl, rfl⟩)
              | (go_at_call 31; refine (kRight _ _).mono ?_; rw [hB]; rintro e w4 ⟨rfl, rfl⟩)
              | (go_at_call 32; refine (kName _ _).mono ?_; rw [hnm]; rintro e w5 ⟨rfl, E4⟩; replace hE := hE.trans E4; clear E4)
              | (go_at_call 33; refine (kNumber _ _).mono ?_; rw [hN]; rintro e w6 ⟨rfl, E4⟩; replace hE := hE.trans E4; clear E4))
            go_ret
            exact ⟨rfl, hE⟩

end Go.Proofs.Ytcipokmklkognaa
