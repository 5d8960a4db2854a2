/- The walk of the law VarintReads, out of its callees' contracts. -/
import Derived.Test.YtdihgdjinghnbaaW2b
namespace Go.Proofs.Ytdihgdjinghnbaa
open Go.RowKit
set_option linter.unusedVariables false

theorem readV_128_1 : readV [128, 1] = (128, 2, 0) := by decide

theorem lit_128_1 (w : World) (e : TypeId) {b : Nat} (hb : b = w.heap.size) : BytesAt (w.alloc (.cells #[.int .u8 128, .int .u8 1] e)) (some ⟨b, 0, none⟩) 2 2 [128, 1] := bytes_lit w e [.int .u8 128, .int .u8 1] [128, 1] 2 hb (by simp [bv]) rfl (by simp [maxLen])

theorem lit_128_0 (w : World) (e : TypeId) {b : Nat} (hb : b = w.heap.size) : BytesAt (w.alloc (.cells #[.int .u8 128, .int .u8 0] e)) (some ⟨b, 0, none⟩) 2 2 [128, 0] := bytes_lit w e [.int .u8 128, .int .u8 0] [128, 0] 2 hb (by simp [bv]) rfl (by simp [maxLen])

theorem lit_0 (w : World) (e : TypeId) {b : Nat} (hb : b = w.heap.size) : BytesAt (w.alloc (.cells #[.int .u8 0] e)) (some ⟨b, 0, none⟩) 1 1 [0] := bytes_lit w e [.int .u8 0] [0] 1 hb (by simp [bv]) rfl (by simp [maxLen])

theorem minimal_128_0 : minimalB [128, 0] = false := by decide

theorem minimal_0 : minimalB [0] = true := by decide

theorem alive02 (w : World) : Calls Try.prog 34 #[] w fun e w' => e = .returned (.bool true) ∧ Ext w w' := by
  have m1 := minimal_128_0
  have m2 := minimal_0
  go_enter Try.func34, Try.ntmps34
  go_wp2_with fail
  refine (vRead (lit_128_1 _ _ (by first | rfl | simp)) readV_128_1).mono ?_
  rintro e w1 ⟨rfl, rfl⟩
  go_wp2_with fail
  refine (vMinimal (lit_128_0 _ _ (by first | rfl | simp))).mono ?_
  rintro e w1 ⟨rfl, rfl⟩
  go_wp2_with fail
  refine (vMinimal (lit_0 _ _ (by first | rfl | simp))).mono ?_
  rintro e w1 ⟨rfl, rfl⟩
  go_wp2_with fail
  go_ret
  exact ⟨rfl, (Ext.refl _).alloc _ |>.alloc _ |>.alloc _⟩

theorem varintReads_walk {A : Option Addr} {n c : Nat} {bs : List UInt8} {w : World} (hb : BytesAt w A n c bs) :
    Calls Try.prog 6 #[.slice A n c] w fun e w' => e = .returned (.bool true) ∧ Ext w w' := by
  have hmax := Reads.max hb
  have hcap := Reads.cap hb
  unfold maxLen at hmax
  by_cases hn : (2000 : Int) < n
  · go_enter Try.func6, Try.ntmps6
    go_wp2_with (go_at_call 34; refine (alive02 _).mono ?_; rintro e w1 ⟨rfl, E1⟩)
    go_ret
    exact ⟨rfl, E1⟩
  · have hl := hb.length
    rcases hv : readV bs with ⟨W, N, C⟩
    have hbd := readV_bd bs
    rw [hv] at hbd
    obtain ⟨hW, _, hN10, hC4, _, _⟩ := hbd
    simp only at hW hN10 hC4
    have hall : (allV bs).2 ≤ 4 := (allF_bd _ _).1
    have hal : (allV bs).1.length ≤ n := by have := (allF_bd bs.length bs).2.1; unfold allV; omega
    have hmin : minimalB bs = decide (C = 0 ∧ N = n ∧ bs = Lib.uvarint W) := by
      unfold minimalB; rw [minimal_eq, hv, hl]
    have Hv := Lib.hid hv
    clear hv hl
    obtain ⟨L, G, hLG⟩ : ∃ L G, allV bs = (L, G) := ⟨_, _, rfl⟩
    rw [hLG] at hall hal
    simp only at hall hal
    have HLG := Lib.hid hLG
    clear hLG
    have ha := fun (w' : World) (h : BytesAt w' A n c bs) => vAll h (by omega)
    have hR := fun (w' : World) (h : BytesAt w' A n c bs) => vAllR h (by omega)
    rw [HLG.out] at ha hR
    have Ha := Lib.hid ha
    have HR := Lib.hid hR
    clear ha hR
    have Hm := Lib.hid hmin
    clear hmin
    have hE := Ext.refl w
    by_cases hc : C = 0 ∧ N = n
    · obtain ⟨rfl, rfl⟩ := hc
      have q1 : ((N : Int) == (N : Int)) = true := by simp
      have hm : minimalB bs = decide (bs = Lib.uvarint W) := by rw [Hm.out]; simp
      go_enter Try.func6, Try.ntmps6
      go_wp2_with (first | (go_at_call 34; refine (alive02 _).mono ?_; rintro e w1 ⟨rfl, E1⟩; replace hE := hE.trans E1; clear E1) | (go_at_call 35; refine (vRead (hb.ext hE) Hv.out).mono ?_; rintro e w' ⟨rfl, rfl⟩) | (go_at_call 36; refine (vReadR (p := 0) (hb.ext hE) rfl (Nat.zero_le _) (by omega) Hv.out).mono ?_; rintro e w' ⟨rfl, rfl⟩) | (go_at_call 37; refine (vSkip (hb.ext hE) Hv.out).mono ?_; rintro e w' ⟨rfl, rfl⟩) | (go_at_call 38; refine (Ha.out _ (hb.ext hE)).mono ?_; rintro e w2 ⟨A2, c2, rfl, own2⟩; replace hE := hE.trans own2.ext) | (go_at_call 39; refine (HR.out _ (hb.ext hE)).mono ?_; rintro e w3 ⟨A3, c3, rfl, own3⟩; replace hE := hE.trans own3.ext; replace own2 := own2.later own3.ext) | (go_at_call 40; refine (vPutRI _ _ (by omega) (by omega)).mono ?_; rintro e w4 ⟨A4, c4, rfl, own4⟩; replace hE := hE.trans own4.ext; replace own2 := own2.later own4.ext; replace own3 := own3.later own4.ext) | (go_at_call 27; refine (same (hb.ext hE) own4.reads).mono ?_; rintro e w' ⟨rfl, rfl⟩; clear own4) | (go_at_call 41; refine (sameU own2.reads own3.reads (by omega)).mono ?_; rintro e w5 ⟨rfl, E5⟩; replace hE := hE.trans E5) | (go_at_call 42; refine (vMinimal (hb.ext hE)).mono ?_; rintro e w' ⟨rfl, rfl⟩))
      go_ret
      exact ⟨rfl, hE⟩
    · have hm : minimalB bs = false := by
        rw [Hm.out]
        exact decide_eq_false (fun h => hc ⟨h.1, h.2.1⟩)
      by_cases h0 : C = 0
      · subst h0
        have q1 : ((N : Int) == (n : Int)) = false := by simp; omega
        clear hc
        go_enter Try.func6, Try.ntmps6
        go_wp2_with (first | (go_at_call 34; refine (alive02 _).mono ?_; rintro e w1 ⟨rfl, E1⟩; replace hE := hE.trans E1; clear E1) | (go_at_call 35; refine (vRead (hb.ext hE) Hv.out).mono ?_; rintro e w' ⟨rfl, rfl⟩) | (go_at_call 36; refine (vReadR (p := 0) (hb.ext hE) rfl (Nat.zero_le _) (by omega) Hv.out).mono ?_; rintro e w' ⟨rfl, rfl⟩) | (go_at_call 37; refine (vSkip (hb.ext hE) Hv.out).mono ?_; rintro e w' ⟨rfl, rfl⟩) | (go_at_call 38; refine (Ha.out _ (hb.ext hE)).mono ?_; rintro e w2 ⟨A2, c2, rfl, own2⟩; replace hE := hE.trans own2.ext) | (go_at_call 39; refine (HR.out _ (hb.ext hE)).mono ?_; rintro e w3 ⟨A3, c3, rfl, own3⟩; replace hE := hE.trans own3.ext; replace own2 := own2.later own3.ext) | (go_at_call 40; refine (vPutRI _ _ (by omega) (by omega)).mono ?_; rintro e w4 ⟨A4, c4, rfl, own4⟩; replace hE := hE.trans own4.ext; replace own2 := own2.later own4.ext; replace own3 := own3.later own4.ext) | (go_at_call 27; refine (same (hb.ext hE) own4.reads).mono ?_; rintro e w' ⟨rfl, rfl⟩; clear own4) | (go_at_call 41; refine (sameU own2.reads own3.reads (by omega)).mono ?_; rintro e w5 ⟨rfl, E5⟩; replace hE := hE.trans E5) | (go_at_call 42; refine (vMinimal (hb.ext hE)).mono ?_; rintro e w' ⟨rfl, rfl⟩))
        go_ret
        exact ⟨rfl, hE⟩
      · have q0 : ((C : Int) == 0) = false := by simp; omega
        clear hc h0
        go_enter Try.func6, Try.ntmps6
        go_wp2_with (first | (go_at_call 34; refine (alive02 _).mono ?_; rintro e w1 ⟨rfl, E1⟩; replace hE := hE.trans E1; clear E1) | (go_at_call 35; refine (vRead (hb.ext hE) Hv.out).mono ?_; rintro e w' ⟨rfl, rfl⟩) | (go_at_call 36; refine (vReadR (p := 0) (hb.ext hE) rfl (Nat.zero_le _) (by omega) Hv.out).mono ?_; rintro e w' ⟨rfl, rfl⟩) | (go_at_call 37; refine (vSkip (hb.ext hE) Hv.out).mono ?_; rintro e w' ⟨rfl, rfl⟩) | (go_at_call 38; refine (Ha.out _ (hb.ext hE)).mono ?_; rintro e w2 ⟨A2, c2, rfl, own2⟩; replace hE := hE.trans own2.ext) | (go_at_call 39; refine (HR.out _ (hb.ext hE)).mono ?_; rintro e w3 ⟨A3, c3, rfl, own3⟩; replace hE := hE.trans own3.ext; replace own2 := own2.later own3.ext) | (go_at_call 40; refine (vPutRI _ _ (by omega) (by omega)).mono ?_; rintro e w4 ⟨A4, c4, rfl, own4⟩; replace hE := hE.trans own4.ext; replace own2 := own2.later own4.ext; replace own3 := own3.later own4.ext) | (go_at_call 27; refine (same (hb.ext hE) own4.reads).mono ?_; rintro e w' ⟨rfl, rfl⟩; clear own4) | (go_at_call 41; refine (sameU own2.reads own3.reads (by omega)).mono ?_; rintro e w5 ⟨rfl, E5⟩; replace hE := hE.trans E5) | (go_at_call 42; refine (vMinimal (hb.ext hE)).mono ?_; rintro e w' ⟨rfl, rfl⟩))
        go_ret
        exact ⟨rfl, hE⟩

end Go.Proofs.Ytdihgdjinghnbaa
