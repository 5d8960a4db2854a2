/- The walk of the law RunPacks, out of its callees' contracts. -/
import Derived.Test.YtlmmlmmadgcmcaaW9
import Derived.Test.YtlmmlmmadgcmcaaSA
namespace Go.Proofs.Ytlmmlmmadgcmcaa
open Go.RowKit
set_option linter.unusedVariables false

theorem wordsV_alive : wordsV 3 [1, 172, 2] = ([1, 300], 0) := by decide +kernel

theorem alive09 (w : World) : Calls Try.prog 41 #[] w fun e w' => e = .returned (.bool true) ∧ Ext w w' := by
  have hr := wordsV_alive
  have hs := fun (W : World) (h : BytesAt (W.alloc (.cells #[.int .u8 1, .int .u8 172, .int .u8 2] 5)) (some ⟨W.heap.size, 0, none⟩) 3 3 [1, 172, 2]) => uWords (k := 3) h (by omega)
  rw [hr] at hs
  have Hs := Lib.hid hs
  clear hr hs
  go_enter Try.func41, Try.ntmps41
  go_wp2_with fail
  refine (Hs.out _ (bytes_lit _ _ _ [1, 172, 2] 3 rfl (by simp [bv]) rfl (by simp [maxLen]))).mono ?_
  rintro e w1 ⟨A1, c1, rfl, own1⟩
  have hE : Ext w w1 := Ext.trans (by repeat with_reducible (first | exact Ext.refl _ | refine Ext.alloc ?_ _ | refine Ext.drew ?_ | refine Ext.drewN ?_ _ | refine Ext.setCell ?_ (by first | exact Nat.le_refl _ | omega | (simp; done) | (simp; omega)) _)) own1.ext
  go_wp2_with fail
  have h2 : WordsAt (w1.alloc (.cells #[.int .u64 1, .int .u64 300] 64)) (some ⟨w1.heap.size, 0, none⟩) 2 2 [1, 300] := (Own.made (Ext.refl w1) 64 1 (cs := [.int .u64 1, .int .u64 300]) (n := 2) (by simp [maxLen]) rfl).reads
  refine (sameU (xs := [1, 300]) (own1.alloc _).reads h2 (by simp)).mono ?_
  rintro e w2 ⟨rfl, E2⟩
  go_wp2
  go_ret
  exact ⟨by simp, hE.trans (Ext.trans (by repeat with_reducible (first | exact Ext.refl _ | refine Ext.alloc ?_ _ | refine Ext.drew ?_ | refine Ext.drewN ?_ _ | refine Ext.setCell ?_ (by first | exact Nat.le_refl _ | omega | (simp; done) | (simp; omega)) _)) E2)⟩

theorem canV_pack {k : Int} {ws : List Nat} (hk : numberB k = true) (h : ∀ x ∈ ws, x < 18446744073709551616) : canV k (packW k ws) = true := by
  unfold canV
  rw [valsV_pack hk h, List.all_map, List.all_eq_true]
  intro x hx
  have hp := readS_put hk (h x hx)
  have : canonB k (putS k x) = true := by unfold canonB; rw [hp]; simp [putS_canon k (h x hx)]
  simp [this]

theorem runPacks_words {w : World} {A : Option Addr} {n c : Nat} {zs : List Int} (h : Reads w A n c 1 (zs.map (Value.int .u64))) (hw : ∀ z ∈ zs, (Lit.int .u64 z).wf = true) :
    ∃ l : List Nat, WordsAt w A n c l ∧ ∀ x ∈ l, x < 18446744073709551616 := by
  have hb : ∀ z ∈ zs, 0 ≤ z ∧ z < 18446744073709551616 := by
    intro z hz
    have := hw z hz
    simp [Lit.wf, IntKind.min, IntKind.max, IntKind.signed, IntKind.bits] at this
    omega
  refine ⟨zs.map Int.toNat, ?_, ?_⟩
  · unfold WordsAt
    rw [List.map_map]
    have e : zs.map (uv ∘ Int.toNat) = zs.map (Value.int .u64) := by
      apply List.map_congr_left
      intro z hz
      simp only [Function.comp_apply, uv]
      congr 1
      have := hb z hz
      omega
    rw [e]
    exact h
  · intro x hx
    obtain ⟨z, hz, rfl⟩ := List.mem_map.1 hx
    have := hb z hz
    omega

set_option maxHeartbeats 1000000 in
theorem runPacks_walk {k : Int} {A : Option Addr} {n c : Nat} {zs : List Int} {w : World} (hk : -9223372036854775808 ≤ k ∧ k < 9223372036854775808) (h : Reads w A n c 1 (zs.map (Value.int .u64)) ∧ ∀ z ∈ zs, (Lit.int .u64 z).wf = true) :
    Calls Try.prog 13 #[.int .i64 k, .slice A n c] w fun e w' => e = .returned (.bool true) ∧ Ext w w' := by
  obtain ⟨l, hb, hl64⟩ := runPacks_words h.1 h.2
  have hcap := Reads.cap hb
  clear h
  have hE := Ext.refl w
  by_cases hn : (500 : Int) < n
  · go_enter Try.func13, Try.ntmps13
    go_wp2_with (go_at_call 41; refine (alive09 _).mono ?_; rintro e w1 ⟨rfl, E1⟩; have X_ : Ext w w1 := Ext.trans (by repeat with_reducible (first | exact Ext.refl _ | refine Ext.alloc ?_ _ | refine Ext.drew ?_ | refine Ext.drewN ?_ _ | refine Ext.setCell ?_ (by first | exact Nat.le_refl _ | omega | (simp; done) | (simp; omega)) _)) E1; replace hE := hE.up X_; clear X_)
    go_ret
    exact ⟨rfl, hE⟩
  · have hl := hb.length
    have Hl := Lib.hid hl
    have H64 := Lib.hid hl64
    have kn := fun W : World => kNumberR k W
    rcases hnb : numberB k with _ | _
    · rw [hnb] at kn
      have Kn := Lib.hid kn
      clear hl hl64 kn
      go_enter Try.func13, Try.ntmps13
      go_wp2_with (first | (go_at_call 41; refine (alive09 _).mono ?_; rintro e w1 ⟨rfl, E1⟩; have X_ : Ext w w1 := Ext.trans (by repeat with_reducible (first | exact Ext.refl _ | refine Ext.alloc ?_ _ | refine Ext.drew ?_ | refine Ext.drewN ?_ _ | refine Ext.setCell ?_ (by first | exact Nat.le_refl _ | omega | (simp; done) | (simp; omega)) _)) E1; replace hE := hE.up X_; replace hb := hb.up X_; clear X_) | (go_at_call 51; refine (uPack_no hnb).mono ?_; rintro e w2 ⟨rfl, E2⟩; have X_ : Ext w1 w2 := Ext.trans (by repeat with_reducible (first | exact Ext.refl _ | refine Ext.alloc ?_ _ | refine Ext.drew ?_ | refine Ext.drewN ?_ _ | refine Ext.setCell ?_ (by first | exact Nat.le_refl _ | omega | (simp; done) | (simp; omega)) _)) E2; replace hE := hE.up X_; clear X_) | (go_at_call 32; refine (Kn.out _).mono ?_; rintro e w' ⟨rfl, rfl⟩))
      go_ret
      exact ⟨rfl, hE⟩
    · rw [hnb] at kn
      have Kn := Lib.hid kn
      have hcan := canV_pack hnb hl64
      have hpl := packW_le k l hl64
      rw [hl] at hpl
      have Hcan := Lib.hid hcan
      clear hl hl64 kn hcan
      generalize hG : packW k l = G at *
      have HG := Lib.hid hG
      clear hG
      go_enter Try.func13, Try.ntmps13
      go_wp2_with (first | (go_at_call 41; refine (alive09 _).mono ?_; rintro e w1 ⟨rfl, E1⟩; have X_ : Ext w w1 := Ext.trans (by repeat with_reducible (first | exact Ext.refl _ | refine Ext.alloc ?_ _ | refine Ext.drew ?_ | refine Ext.drewN ?_ _ | refine Ext.setCell ?_ (by first | exact Nat.le_refl _ | omega | (simp; done) | (simp; omega)) _)) E1; replace hE := hE.up X_; replace hb := hb.up X_; clear X_) | (go_at_call 51; refine (uPack hb H64.out (by omega) hnb).mono ?_; rintro e w2 ⟨A2, c2, rfl, own2⟩; rw [HG.out] at own2 ⊢; have X_ : Ext w1 w2 := Ext.trans (by repeat with_reducible (first | exact Ext.refl _ | refine Ext.alloc ?_ _ | refine Ext.drew ?_ | refine Ext.drewN ?_ _ | refine Ext.setCell ?_ (by first | exact Nat.le_refl _ | omega | (simp; done) | (simp; omega)) _)) own2.ext; replace hE := hE.up X_; replace hb := hb.up X_; clear X_) | (go_at_call 32; refine (Kn.out _).mono ?_; rintro e w' ⟨rfl, rfl⟩) | (go_at_call 52; refine (uPackR hb H64.out (by omega)).mono ?_; rintro e w3 ⟨A3, c3, rfl, own3⟩; rw [HG.out] at own3 ⊢; have X_ : Ext w2 w3 := Ext.trans (by repeat with_reducible (first | exact Ext.refl _ | refine Ext.alloc ?_ _ | refine Ext.drew ?_ | refine Ext.drewN ?_ _ | refine Ext.setCell ?_ (by first | exact Nat.le_refl _ | omega | (simp; done) | (simp; omega)) _)) own3.ext; replace hE := hE.up X_; replace own2 := own2.up X_; clear X_) | (go_at_call 35; refine (same own2.reads own3.reads).mono ?_; rintro e w' ⟨rfl, rfl⟩; clear own3) | (go_at_call 53; refine (uCanonical own2.reads (by omega)).mono ?_; rintro e w4 ⟨rfl, E4⟩; rw [Hcan.out]; have X_ : Ext w3 w4 := Ext.trans (by repeat with_reducible (first | exact Ext.refl _ | refine Ext.alloc ?_ _ | refine Ext.drew ?_ | refine Ext.drewN ?_ _ | refine Ext.setCell ?_ (by first | exact Nat.le_refl _ | omega | (simp; done) | (simp; omega)) _)) E4; replace hE := hE.up X_; clear X_))
      go_ret
      exact ⟨rfl, hE⟩

end Go.Proofs.Ytlmmlmmadgcmcaa
