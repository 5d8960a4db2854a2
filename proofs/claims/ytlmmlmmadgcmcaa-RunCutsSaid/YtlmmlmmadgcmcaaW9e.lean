/- Contracts of layer 9: runs packed. -/
import Derived.Test.YtlmmlmmadgcmcaaW9d
import Derived.Test.YtlmmlmmadgcmcaaS9b
namespace Go.Proofs.Ytlmmlmmadgcmcaa
open Go.RowKit Go.Shelf
set_option linter.unusedVariables false
attribute [local go_sem] Oper.semAt_some

theorem uPack_no {A : Option Addr} {n c : Nat} {k : Int} {w : World} (hk : numberB k = false) :
    Calls Try.prog 51 #[.int .i64 k, .slice A n c] w fun e w' => e = .returned (.tuple #[.slice none 0 0, .int .u8 2]) ∧ Ext w w' := by
  go_enter Try.func51, Try.ntmps51
  go_wp2_with (go_at_call 68; refine (kNumber k _).mono ?_; rintro e w1 ⟨rfl, E1⟩; rw [hk])
  go_ret2
  exact ⟨rfl, E1⟩

set_option maxHeartbeats 1000000 in
theorem uPack {A : Option Addr} {n c : Nat} {ws : List Nat} {k : Int} {w : World} (hb : WordsAt w A n c ws) (hw : ∀ x ∈ ws, x < 18446744073709551616) (hn : n ≤ 1000000000) (hk : numberB k = true) :
    Calls Try.prog 51 #[.int .i64 k, .slice A n c] w fun e w' => ∃ A' c', e = .returned (.tuple #[.slice A' (packW k ws).length c', .int .u8 0]) ∧ Own w w' 5 1 A' (packW k ws).length c' ((packW k ws).map bv) := by
  have hlen := hb.length
  go_enter Try.func51, Try.ntmps51
  go_wp2_with (go_at_call 68; refine (kNumber k _).mono ?_; rintro e w1 ⟨rfl, E1⟩; rw [hk])
  go_loopw [6, 16] (fun u i wr => ∃ (p : Nat) (A2 : Option Addr) (c2 : Nat), p ≤ n ∧ i = .int .i64 p ∧ u = .slice A2 (packW k (ws.take p)).length c2 ∧ Own w wr 5 1 A2 (packW k (ws.take p)).length c2 ((packW k (ws.take p)).map bv)) (fun _ i _ => n - (intOf i).toNat)
  case atStart => exact ⟨0, none, 0, Nat.zero_le _, rfl, by simp [packW], by simpa [packW] using Own.nil E1 5 1⟩
  case round =>
    obtain ⟨p, A2, c2, hp, rfl, rfl, own⟩ := hrel
    by_cases hlt : p < n
    · have hpi : (p : Int) < n := by omega
      obtain ⟨b, off, x, rfl, hx, hcell⟩ := WordsAt.word (hb.ext own.ext) hlt
      have hx64 := hw x (List.mem_of_getElem? hx)
      have hs : packW k (ws.take (p + 1)) = packW k (ws.take p) ++ putS k x := by rw [List.take_add_one, hx]; exact packW_snoc k x _
      have hl1 := packW_le k (ws.take p) (fun y hy => hw y (List.mem_of_mem_take hy))
      have hl2 := (putS_length (k := k) hx64).2
      rw [List.length_take] at hl1
      have hl3 : (packW k (ws.take p)).length ≤ 10000000000 := by omega
      have Hs := Lib.hid hs
      clear hx hl1 hs
      generalize hG : packW k (ws.take p) = G at *
      clear hG
      go_wp2_with (first | (go_at_call 31; refine (sPut hx64 hk rfl).mono ?_; rintro e w2 ⟨A3, c3, rfl, own3⟩) | (at_builtin; refine wpList_more elemB rfl (.tmp 26) (.tmp 27) rfl rfl (own.later own3.ext) rfl own3.reads (bv_one _) (by omega) (by unfold maxLen; omega) ?_; intro A4 c4 w4 own4 _))
      go_roundw
      case rel =>
        refine ⟨p + 1, A4, c4, by omega, by go_num, ?_, ?_⟩
        · rw [Hs.out, List.length_append]
        · rw [Hs.out, List.length_append]; simpa using own4
      case measure => simp [intOf]; omega
    · have hpn : p = ws.length := by omega
      subst hpn
      rw [List.take_length] at own ⊢
      go_wp2
      go_ret2
      exact ⟨A2, c2, rfl, own⟩

set_option maxHeartbeats 1000000 in
theorem uPackR {A : Option Addr} {n c : Nat} {ws : List Nat} {k : Int} {w : World} (hb : WordsAt w A n c ws) (hw : ∀ x ∈ ws, x < 18446744073709551616) (hn : n ≤ 1000000000) :
    Calls Try.prog 52 #[.int .i64 k, .slice A n c] w fun e w' => ∃ A' c', e = .returned (.slice A' (packW k ws).length c') ∧ Own w w' 5 1 A' (packW k ws).length c' ((packW k ws).map bv) := by
  have hlen := hb.length
  go_enter Try.func52, Try.ntmps52
  go_wp2
  go_loopw [5, 6] (fun u i wr => ∃ (p : Nat) (A2 : Option Addr) (c2 : Nat), p ≤ n ∧ i = .int .i64 p ∧ u = .slice A2 (packW k (ws.take p)).length c2 ∧ Own w wr 5 1 A2 (packW k (ws.take p)).length c2 ((packW k (ws.take p)).map bv)) (fun _ i _ => n - (intOf i).toNat)
  case atStart => exact ⟨0, none, 0, Nat.zero_le _, rfl, by simp [packW], by simpa [packW] using Own.nil (Ext.refl _) 5 1⟩
  case round =>
    obtain ⟨p, A2, c2, hp, rfl, rfl, own⟩ := hrel
    by_cases hlt : p < n
    · have hpi : (p : Int) < n := by omega
      obtain ⟨b, off, x, rfl, hx, hcell⟩ := WordsAt.word (hb.ext own.ext) hlt
      have hx64 := hw x (List.mem_of_getElem? hx)
      have hs : packW k (ws.take (p + 1)) = packW k (ws.take p) ++ putS k x := by rw [List.take_add_one, hx]; exact packW_snoc k x _
      have hl1 := packW_le k (ws.take p) (fun y hy => hw y (List.mem_of_mem_take hy))
      have hl2 := (putS_length (k := k) hx64).2
      rw [List.length_take] at hl1
      have hl3 : (packW k (ws.take p)).length ≤ 10000000000 := by omega
      have Hs := Lib.hid hs
      clear hx hl1 hs
      generalize hG : packW k (ws.take p) = G at *
      clear hG
      go_wp2_with (first | (go_at_call 34; refine (sPutR hx64).mono ?_; rintro e w2 ⟨A3, c3, rfl, own3⟩) | (at_builtin; refine wpList_more elemB rfl (.tmp 13) (.tmp 19) rfl rfl (own.later own3.ext) rfl own3.reads (bv_one _) (by omega) (by unfold maxLen; omega) ?_; intro A4 c4 w4 own4 _))
      go_roundw
      case rel =>
        refine ⟨p + 1, A4, c4, by omega, by go_num, ?_, ?_⟩
        · rw [Hs.out, List.length_append]
        · rw [Hs.out, List.length_append]; simpa using own4
      case measure => simp [intOf]; omega
    · have hpn : p = ws.length := by omega
      subst hpn
      rw [List.take_length] at own ⊢
      go_wp2
      go_ret
      exact ⟨A2, c2, rfl, own⟩

end Go.Proofs.Ytlmmlmmadgcmcaa
