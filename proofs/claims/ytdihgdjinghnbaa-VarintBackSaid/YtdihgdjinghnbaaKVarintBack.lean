/- The walk of the law VarintBack, out of its callees' contracts. -/
import Derived.Test.YtdihgdjinghnbaaKVarintReads
import Derived.Test.YtdihgdjinghnbaaW1n
namespace Go.Proofs.Ytdihgdjinghnbaa
open Go.RowKit
set_option linter.unusedVariables false

theorem varintBack_walk {x : Nat} {A : Option Addr} {n c : Nat} {bs : List UInt8} {w : World} (hx : x < 18446744073709551616) (hb : BytesAt w A n c bs) :
    Calls Try.prog 10 #[.int .u64 x, .slice A n c] w fun e w' => e = .returned (.bool true) ∧ Ext w w' := by
  have hmax := Reads.max hb
  have hcap := Reads.cap hb
  unfold maxLen at hmax
  have hE := Ext.refl w
  by_cases hn : (2000 : Int) < n
  · go_enter Try.func10, Try.ntmps10
    go_wp2_with (go_at_call 34; refine (alive02 _).mono ?_; rintro e w1 ⟨rfl, E1⟩)
    go_ret
    exact ⟨rfl, E1⟩
  · have hv1 := readV_uvarint x bs hx
    have hv2 := readV_less x hx
    have hm : minimalB (Lib.uvarint x) = true := by
      have hv := readV_uvarint x [] hx
      rw [List.append_nil] at hv
      unfold minimalB
      rw [minimal_eq, hv]
      simp
    have hul := Lib.uvarint_length64 hx
    have hup := Lib.uvarint_pos x
    have hln : lenN x = (Lib.uvarint x).length := rfl
    generalize hU : Lib.uvarint x = U at *
    obtain ⟨k, hk⟩ : ∃ k, U.length = k := ⟨_, rfl⟩
    rw [hk] at hv1 hv2 hul hup hln
    have hput := fun (w' : World) => vPut (w := w') (x := (x : Int)) (BytesAt.nil w') (by omega) (by omega) (by omega)
    rw [Int.toNat_natCast, hU, hk] at hput
    simp only [Nat.zero_add, List.nil_append] at hput
    have H1 := Lib.hid hv1
    have H2 := Lib.hid hv2
    have HU := Lib.hid hk
    have HP := Lib.hid hput
    have hkI : ((k : Int) - 1).toNat = k - 1 := by omega
    clear hv1 hv2 hU hk hput
    have hcut : ∀ (w' : World) (A' : Option Addr) (c' : Nat) (h : BytesAt w' A' k c' U), ∃ A2, (∀ W : World, (Instr.slice 31 (.slice A' k c') none (some (.int .i64 ((k : Int) - 1))) none).run Try.prog W = .ok (.slice A2 (k - 1) c') W) ∧ BytesAt w' A2 (k - 1) c' (U.take (k - 1)) := by
      intro w' A' c' h
      obtain ⟨A2, h1, h2⟩ := cut_to elemB h .i64 (m := k - 1) (by omega)
      refine ⟨A2, ?_, by simpa [BytesAt, List.map_take] using h2⟩
      rw [show ((k : Int) - 1) = ((k - 1 : Nat) : Int) by omega]
      exact h1
    have HC := Lib.hid hcut
    clear hcut hkI
    go_enter Try.func10, Try.ntmps10
    go_wp2_with (first | (go_at_call 34; refine (alive02 _).mono ?_; rintro e w1 ⟨rfl, E1⟩; replace hE := hE.trans E1; clear E1) | (go_at_call 43; refine (HP.out _).mono ?_; rintro e w3 ⟨A3, c3, rfl, own3⟩; replace hE := hE.trans own3.ext; obtain ⟨A7, hrun7, hr7⟩ := HC.out w3 A3 c3 own3.reads) | (at_builtin; refine wpList_more elemB rfl (.tmp 20) (.tmp 21) rfl rfl (Own.empty (Ext.refl _) 5 1) rfl (own3.later ((Ext.refl _).alloc _)).reads (bv_one _) (by omega) (by unfold maxLen; omega) ?_; intro A4 c4 w4 own4 _; simp only [Nat.zero_add, List.nil_append] at own4) | (at_builtin; refine wpList_more elemB rfl (.tmp 22) (.tmp 23) rfl rfl own4 rfl (hb.ext (hE.trans own4.ext)) (bv_one _) (by omega) (by unfold maxLen; omega) ?_; intro A6 c6 w6 own6 _; rw [← List.map_append] at own6; replace hE := hE.trans own6.ext; replace own3 := own3.later own6.ext; replace hr7 := hr7.ext own6.ext; clear own4) | (go_at_call 35; refine (vRead own6.reads H1.out).mono ?_; rintro e w' ⟨rfl, rfl⟩; clear own6) | (go_at_call 42; refine (vMinimal own3.reads).mono ?_; rintro e w' ⟨rfl, rfl⟩; clear own3) | (go_at_call 25; refine (lenI _ _ (by omega) (by omega)).mono ?_; rintro e w' ⟨rfl, rfl⟩) | (go_at_call 35; refine (vRead hr7 H2.out).mono ?_; rintro e w' ⟨rfl, rfl⟩))
    go_ret
    exact ⟨rfl, hE⟩

end Go.Proofs.Ytdihgdjinghnbaa
