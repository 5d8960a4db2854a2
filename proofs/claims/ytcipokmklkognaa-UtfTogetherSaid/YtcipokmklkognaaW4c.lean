/- Contracts of layer 4's reference: a code point's bytes. -/
import Derived.Test.YtcipokmklkognaaW4b
namespace Go.Proofs.Ytcipokmklkognaa
open Go.RowKit
set_option linter.unusedVariables false

set_option maxRecDepth 100000 in
set_option maxHeartbeats 4000000 in
theorem uPutR {r : Int} {R : Nat} (hR : r = R) (h64 : R < 9223372036854775808) (w : World) :
    Calls Try.prog 45 #[.int .i64 r] w fun e w' => ∃ A' c', e = .returned (.slice A' (putV R).length c') ∧ Own w w' 5 1 A' (putV R).length c' ((putV R).map bv) := by
  have hr0 : 0 ≤ r := by omega
  have hr64 : r < 9223372036854775808 := by omega
  by_cases a2 : (1114111 : Int) < r
  · have e : putV R = [] := by unfold putV; rw [if_pos (by omega)]
    rw [e]
    clear e hR
    go_enter Try.func45, Try.ntmps45
    go_wp2
    go_ret
    exact ⟨none, 0, rfl, Own.nil (Ext.refl _) 5 1⟩
  · by_cases a3 : (55296 : Int) ≤ r ∧ r ≤ 57343
    · obtain ⟨a3, a4⟩ := a3
      have e : putV R = [] := by unfold putV; rw [if_pos (by omega)]
      rw [e]
      clear e hR
      go_enter Try.func45, Try.ntmps45
      go_wp2
      go_ret
      exact ⟨none, 0, rfl, Own.nil (Ext.refl _) 5 1⟩
    · by_cases b1 : r < 128
      · have q3 : decide ((55296 : Int) ≤ r) = false := decide_eq_false (by omega)
        have e : putV R = [(R).toUInt8] := by unfold putV; rw [if_neg (by omega), if_pos (by omega)]
        have hmap : (putV R).map bv = [.int .u8 (r)] := by
          rw [e]
          simp only [List.map_cons, List.map_nil]
          rw [bv_of _ (show R < 256 by omega)]
          simp only [List.cons.injEq, Value.int.injEq, true_and, and_true]
          omega
        have hlen : (putV R).length = 1 := by rw [e]; rfl
        rw [hmap, hlen]
        have own : ∀ vs : List Value, vs = [.int .u8 (r)] → Own w (w.alloc (.cells vs.toArray 5)) 5 1 (some ⟨w.heap.size, 0, none⟩) 1 1 [.int .u8 (r)] := by
          intro vs h
          subst h
          exact Own.made (Ext.refl w) 5 1 (by unfold maxLen; omega) rfl
        have q2 : decide ((1114111 : Int) < r) = false := decide_eq_false a2
        clear e hmap hlen hR a3 a2
        go_enter Try.func45, Try.ntmps45
        go_wp2
        go_ret
        exact ⟨_, _, rfl, own _ rfl⟩
      · by_cases b2 : r < 2048
        · have q3 : decide ((55296 : Int) ≤ r) = false := decide_eq_false (by omega)
          have e : putV R = [(192 + R / 64).toUInt8, (128 + R % 64).toUInt8] := by unfold putV; rw [if_neg (by omega), if_neg (by omega), if_pos (by omega)]
          have hmap : (putV R).map bv = [.int .u8 (192 + r / 64), .int .u8 (128 + r % 64)] := by
            rw [e]
            simp only [List.map_cons, List.map_nil]
            rw [bv_of _ (show 192 + R / 64 < 256 by omega), bv_of _ (show 128 + R % 64 < 256 by omega)]
            simp only [List.cons.injEq, Value.int.injEq, true_and, and_true]
            omega
          have hlen : (putV R).length = 2 := by rw [e]; rfl
          rw [hmap, hlen]
          have own : ∀ vs : List Value, vs = [.int .u8 (192 + r / 64), .int .u8 (128 + r % 64)] → Own w (w.alloc (.cells vs.toArray 5)) 5 1 (some ⟨w.heap.size, 0, none⟩) 2 2 [.int .u8 (192 + r / 64), .int .u8 (128 + r % 64)] := by
            intro vs h
            subst h
            exact Own.made (Ext.refl w) 5 1 (by unfold maxLen; omega) rfl
          have q2 : decide ((1114111 : Int) < r) = false := decide_eq_false a2
          have q5 : decide (r < 128) = false := decide_eq_false b1
          clear e hmap hlen hR a3 a2
          go_enter Try.func45, Try.ntmps45
          go_wp2
          go_ret
          exact ⟨_, _, rfl, own _ rfl⟩
        · by_cases b3 : r < 65536
          · rcases (show ¬ (55296 : Int) ≤ r ∨ (55296 : Int) ≤ r ∧ ¬ r ≤ 57343 by omega) with h | ⟨h, h4⟩
            · have q3 : decide ((55296 : Int) ≤ r) = false := decide_eq_false h
              have e : putV R = [(224 + R / 4096).toUInt8, (128 + R / 64 % 64).toUInt8, (128 + R % 64).toUInt8] := by unfold putV; rw [if_neg (by omega), if_neg (by omega), if_neg (by omega), if_pos (by omega)]
              have hmap : (putV R).map bv = [.int .u8 (224 + r / 4096), .int .u8 (128 + r / 64 % 64), .int .u8 (128 + r % 64)] := by
                rw [e]
                simp only [List.map_cons, List.map_nil]
                rw [bv_of _ (show 224 + R / 4096 < 256 by omega), bv_of _ (show 128 + R / 64 % 64 < 256 by omega), bv_of _ (show 128 + R % 64 < 256 by omega)]
                simp only [List.cons.injEq, Value.int.injEq, true_and, and_true]
                omega
              have hlen : (putV R).length = 3 := by rw [e]; rfl
              rw [hmap, hlen]
              have own : ∀ vs : List Value, vs = [.int .u8 (224 + r / 4096), .int .u8 (128 + r / 64 % 64), .int .u8 (128 + r % 64)] → Own w (w.alloc (.cells vs.toArray 5)) 5 1 (some ⟨w.heap.size, 0, none⟩) 3 3 [.int .u8 (224 + r / 4096), .int .u8 (128 + r / 64 % 64), .int .u8 (128 + r % 64)] := by
                intro vs h
                subst h
                exact Own.made (Ext.refl w) 5 1 (by unfold maxLen; omega) rfl
              have q2 : decide ((1114111 : Int) < r) = false := decide_eq_false a2
              have q5 : decide (r < 128) = false := decide_eq_false b1
              have q6 : decide (r < 2048) = false := decide_eq_false b2
              clear e hmap hlen hR a3 a2 h
              go_enter Try.func45, Try.ntmps45
              go_wp2
              go_ret
              exact ⟨_, _, rfl, own _ rfl⟩
            · have q3 : decide ((55296 : Int) ≤ r) = true := decide_eq_true h
              have q4 : decide (r ≤ 57343) = false := decide_eq_false h4
              have e : putV R = [(224 + R / 4096).toUInt8, (128 + R / 64 % 64).toUInt8, (128 + R % 64).toUInt8] := by unfold putV; rw [if_neg (by omega), if_neg (by omega), if_neg (by omega), if_pos (by omega)]
              have hmap : (putV R).map bv = [.int .u8 (224 + r / 4096), .int .u8 (128 + r / 64 % 64), .int .u8 (128 + r % 64)] := by
                rw [e]
                simp only [List.map_cons, List.map_nil]
                rw [bv_of _ (show 224 + R / 4096 < 256 by omega), bv_of _ (show 128 + R / 64 % 64 < 256 by omega), bv_of _ (show 128 + R % 64 < 256 by omega)]
                simp only [List.cons.injEq, Value.int.injEq, true_and, and_true]
                omega
              have hlen : (putV R).length = 3 := by rw [e]; rfl
              rw [hmap, hlen]
              have own : ∀ vs : List Value, vs = [.int .u8 (224 + r / 4096), .int .u8 (128 + r / 64 % 64), .int .u8 (128 + r % 64)] → Own w (w.alloc (.cells vs.toArray 5)) 5 1 (some ⟨w.heap.size, 0, none⟩) 3 3 [.int .u8 (224 + r / 4096), .int .u8 (128 + r / 64 % 64), .int .u8 (128 + r % 64)] := by
                intro vs h
                subst h
                exact Own.made (Ext.refl w) 5 1 (by unfold maxLen; omega) rfl
              have q2 : decide ((1114111 : Int) < r) = false := decide_eq_false a2
              have q5 : decide (r < 128) = false := decide_eq_false b1
              have q6 : decide (r < 2048) = false := decide_eq_false b2
              clear e hmap hlen hR a3 a2 h h4
              go_enter Try.func45, Try.ntmps45
              go_wp2
              go_ret
              exact ⟨_, _, rfl, own _ rfl⟩
          · have q3 : decide ((55296 : Int) ≤ r) = true := decide_eq_true (by omega)
            have q4 : decide (r ≤ 57343) = false := decide_eq_false (by omega)
            have e : putV R = [(240 + R / 262144).toUInt8, (128 + R / 4096 % 64).toUInt8, (128 + R / 64 % 64).toUInt8, (128 + R % 64).toUInt8] := by unfold putV; rw [if_neg (by omega), if_neg (by omega), if_neg (by omega), if_neg (by omega)]
            have hmap : (putV R).map bv = [.int .u8 (240 + r / 262144), .int .u8 (128 + r / 4096 % 64), .int .u8 (128 + r / 64 % 64), .int .u8 (128 + r % 64)] := by
              rw [e]
              simp only [List.map_cons, List.map_nil]
              rw [bv_of _ (show 240 + R / 262144 < 256 by omega), bv_of _ (show 128 + R / 4096 % 64 < 256 by omega), bv_of _ (show 128 + R / 64 % 64 < 256 by omega), bv_of _ (show 128 + R % 64 < 256 by omega)]
              simp only [List.cons.injEq, Value.int.injEq, true_and, and_true]
              omega
            have hlen : (putV R).length = 4 := by rw [e]; rfl
            rw [hmap, hlen]
            have own : ∀ vs : List Value, vs = [.int .u8 (240 + r / 262144), .int .u8 (128 + r / 4096 % 64), .int .u8 (128 + r / 64 % 64), .int .u8 (128 + r % 64)] → Own w (w.alloc (.cells vs.toArray 5)) 5 1 (some ⟨w.heap.size, 0, none⟩) 4 4 [.int .u8 (240 + r / 262144), .int .u8 (128 + r / 4096 % 64), .int .u8 (128 + r / 64 % 64), .int .u8 (128 + r % 64)] := by
              intro vs h
              subst h
              exact Own.made (Ext.refl w) 5 1 (by unfold maxLen; omega) rfl
            have q2 : decide ((1114111 : Int) < r) = false := decide_eq_false a2
            have q5 : decide (r < 128) = false := decide_eq_false b1
            have q6 : decide (r < 2048) = false := decide_eq_false b2
            have q7 : decide (r < 65536) = false := decide_eq_false b3
            have hR2 : r < 1114112 := by omega
            clear e hmap hlen hR a3 a2
            go_enter Try.func45, Try.ntmps45
            go_wp2
            go_ret
            exact ⟨_, _, rfl, own _ rfl⟩

theorem uPutR_neg {r : Int} (hr : r < 0) (w : World) :
    Calls Try.prog 45 #[.int .i64 r] w fun e w' => e = .returned (.slice none 0 0) ∧ w = w' := by
  go_enter Try.func45, Try.ntmps45
  go_wp2
  go_ret
  exact ⟨rfl, rfl⟩

end Go.Proofs.Ytcipokmklkognaa
