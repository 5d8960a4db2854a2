/- The walk of the law VarintPuts, out of its callees' contracts. -/
import Derived.Test.YtdihgdjinghnbaaKVarintReads
namespace Go.Proofs.Ytdihgdjinghnbaa
open Go.RowKit
set_option linter.unusedVariables false

theorem varintPuts_walk {A : Option Addr} {n c : Nat} {bs : List UInt8} {x : Nat} {w : World} (hb : BytesAt w A n c bs) (hx : x < 18446744073709551616) :
    Calls Try.prog 7 #[.slice A n c, .int .u64 x] w fun e w' => e = .returned (.bool true) ∧ Ext w w' := by
  have hmax := Reads.max hb
  have hcap := Reads.cap hb
  unfold maxLen at hmax
  have hE := Ext.refl w
  by_cases hn : (2000 : Int) < n
  · go_enter Try.func7, Try.ntmps7
    go_wp2_with (go_at_call 34; refine (alive02 _).mono ?_; rintro e w1 ⟨rfl, E1⟩)
    go_ret
    exact ⟨rfl, E1⟩
  · have hul := Lib.uvarint_length64 hx
    go_enter Try.func7, Try.ntmps7
    go_wp2_with (first | (go_at_call 34; refine (alive02 _).mono ?_; rintro e w1 ⟨rfl, E1⟩; replace hE := hE.trans E1; clear E1) | (at_builtin; refine wpList_more elemB rfl (.tmp 12) (.tmp 13) rfl rfl (Own.empty (Ext.refl _) 5 1) rfl (hb.ext (hE.alloc _)) (bv_one _) (by omega) (by unfold maxLen; omega) ?_; intro A2 c2 w2 own2 _; simp only [Nat.zero_add, List.nil_append] at own2; replace hE := hE.trans own2.ext) | (go_at_call 43; refine (vPut (hb.ext hE) (by omega) (by omega) (by omega)).mono ?_; rintro e w3 ⟨A3, c3, rfl, own3⟩; rw [Int.toNat_natCast] at own3; replace hE := hE.trans own3.ext; replace own2 := own2.later own3.ext) | (at_builtin; refine wpList_more elemB rfl (.tmp 19) (.tmp 20) rfl rfl (Own.empty (Ext.refl _) 5 1) rfl (own2.later ((Ext.refl _).alloc _)).reads (bv_one _) (by omega) (by unfold maxLen; omega) ?_; intro A4 c4 w4 own4 _; simp only [Nat.zero_add, List.nil_append] at own4) | (go_at_call 40; refine (vPutRI _ _ (by omega) (by omega)).mono ?_; rintro e w5 ⟨A5, c5, rfl, own5⟩; rw [Int.toNat_natCast] at own5; replace own4 := own4.later own5.ext) | (at_builtin; refine wpList_more elemB rfl (.tmp 21) (.tmp 23) rfl rfl own4 rfl own5.reads (bv_one _) (by omega) (by unfold maxLen; omega) ?_; intro A6 c6 w6 own6 _; rw [← List.map_append] at own6; replace own3 := own3.later own6.ext; replace own2 := own2.later own6.ext; replace hE := hE.trans own6.ext; clear own4 own5) | (go_at_call 27; refine (same own3.reads own6.reads).mono ?_; rintro e w' ⟨rfl, rfl⟩; clear own3 own6) | (go_at_call 27; refine (same (hb.ext hE) own2.reads).mono ?_; rintro e w' ⟨rfl, rfl⟩))
    go_ret
    exact ⟨rfl, hE⟩

end Go.Proofs.Ytdihgdjinghnbaa
