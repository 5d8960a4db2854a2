/- The walk of the law FeedNil, out of its callees' contracts. -/
import Derived.Test.YtalhnggfilgmjaaW35
namespace Go.Proofs.Ytalhnggfilgmjaa
open Go.RowKit
set_option linter.unusedVariables false

theorem valid_35 : argsV [⟨⟨#[109]⟩, []⟩] 0 0 = 0 ∧ (checkB [⟨⟨#[109]⟩, []⟩] 0 [8, 5] 0).2 = 0 ∧ readV [2, 8] = (2, 1, 0) ∧ readV [2, 8, 5] = (2, 1, 0) := by decide +kernel

set_option maxRecDepth 100000 in
set_option maxHeartbeats 1000000 in
theorem alive35 (w : World) : Calls Try.prog 8 #[] w fun e w' => e = .returned (.bool true) ∧ Ext w w' := by
  have hs : SchemaAt (w.alloc (.cells #[.string ⟨#[109]⟩, .slice none 0 0] 36)) (some ⟨w.heap.size, 0, none⟩) 1 1 [⟨⟨⟨#[109]⟩, []⟩, none, 0, 0⟩] := by
    refine ⟨(Own.made (Ext.refl w) 36 2 (cs := [.string ⟨#[109]⟩, .slice none 0 0]) (n := 1) (by simp [maxLen]) rfl).reads, fun m hm => ?_⟩
    rw [List.mem_singleton] at hm
    subst hm
    exact ⟨⟨Reads.nil _ 6, (fun f hf => by cases hf)⟩, by decide⟩
  have hnw := fun (W : World) (A : Option Addr) (h : SchemaAt W A 1 1 [⟨⟨⟨#[109]⟩, []⟩, none, 0, 0⟩]) => fNew (root := 0) (d := 0) (L := 10) h (by omega) (fun x hx => by rw [List.mem_singleton] at hx; subst hx; simp) valid_35.1 (by omega) (by omega)
  have Hs := Lib.hid hs
  have Hnw := Lib.hid hnw
  clear hs hnw
  go_enter Try.func8, Try.ntmps8
  go_wp2_with (go_at_call 43; refine (Hnw.out _ _ Hs.out).mono ?_; rintro e w2 ⟨w1, A1, c1, S1, rfl, hs1, hd1, E1, rfl⟩)
  have hF1 : BlkT ((w1.alloc (.cells (feedC A1 1 c1 0 0 10 none 0 0 0 0 false) 84)).alloc (.cells #[.int .u8 2, .int .u8 8] 5)) w1.heap.size 84 (feedC A1 1 c1 0 0 10 none 0 0 0 0 false) := (BlkT.new w1 _ _ rfl).alloc _
  have hb1 : BytesAt ((w1.alloc (.cells (feedC A1 1 c1 0 0 10 none 0 0 0 0 false) 84)).alloc (.cells #[.int .u8 2, .int .u8 8] 5)) (some ⟨w1.heap.size + 1, 0, none⟩) 2 2 [2, 8] := bytes_lit _ _ [.int .u8 2, .int .u8 8] [2, 8] 2 (by simp) (by simp [bv]) rfl (by simp [maxLen])
  have hw1 := fWrite_no (w0 := w1) (D := some ⟨w1.heap.size + 1, 0, none⟩) (k := 2) (q := 2) (cs := [2, 8]) (bs := []) hF1 (Nat.le_refl _) (by repeat with_reducible (first | exact Ext.refl _ | refine Ext.alloc ?_ _ | refine Ext.drew ?_ | refine Ext.drewN ?_ _ | refine Ext.setCell ?_ (by first | exact Nat.le_refl _ | omega | (simp; done) | (simp; omega)) _)) (BytesAt.nil _) hb1 (by omega) valid_35.2.2.1 (by omega) (by omega) (by omega) (.inr ⟨rfl, by omega, by omega, by omega⟩)
  simp only [Nat.zero_add, List.nil_append] at hw1
  refine hw1.mono ?_
  rintro e w3 ⟨B3, e3, rfl, hF3, X3, own3⟩
  go_wp2_with fail
  have hb4 : BytesAt (w3.alloc (.cells #[.int .u8 5] 5)) (some ⟨w3.heap.size, 0, none⟩) 1 1 [5] := bytes_lit _ _ [.int .u8 5] [5] 1 rfl (by simp [bv]) rfl (by simp [maxLen])
  have hw2 := fWrite_last (w0 := w1) (S := S1) (D := some ⟨w3.heap.size, 0, none⟩) (k := 1) (q := 1) (cs := [5]) (bs := [2, 8]) (N := 2) (l := 1) (hF3.alloc _) (Nat.le_refl _) (X3.alloc _) hs1 (own3.bytes.up (by repeat with_reducible (first | exact Ext.refl _ | refine Ext.alloc ?_ _ | refine Ext.drew ?_ | refine Ext.drewN ?_ _ | refine Ext.setCell ?_ (by first | exact Nat.le_refl _ | omega | (simp; done) | (simp; omega)) _))) hb4 (by omega) valid_35.2.2.2 (by omega) (by omega) (by omega) (by omega) (by rw [hd1]; exact valid_35.2.1)
  refine hw2.mono ?_
  rintro e w5 ⟨A9, c9, A5, c5, rfl, hr9, hb5, X5⟩
  obtain ⟨b9, o9, rfl, hb9, hc9⟩ := hr9.at_ (by omega)
  have z9 := hc9 0 _ rfl
  simp only [Nat.add_zero] at z9
  have Xw : Ext w w5 := Ext.trans (by repeat with_reducible (first | exact Ext.refl _ | refine Ext.alloc ?_ _ | refine Ext.drew ?_ | refine Ext.drewN ?_ _ | refine Ext.setCell ?_ (by first | exact Nat.le_refl _ | omega | (simp; done) | (simp; omega)) _)) (E1.trans X5)
  have hb6 : BytesAt w5 A5 2 c5 [8, 5] := hb5
  go_wp2_with (go_at_call 30; refine (same (hb6.up (by repeat with_reducible (first | exact Ext.refl _ | refine Ext.alloc ?_ _ | refine Ext.drew ?_ | refine Ext.drewN ?_ _ | refine Ext.setCell ?_ (by first | exact Nat.le_refl _ | omega | (simp; done) | (simp; omega)) _))) (bytes_lit _ _ [.int .u8 8, .int .u8 5] [8, 5] 2 (by simp) (by simp [bv]) rfl (by simp [maxLen]))).mono ?_; rintro e w6 ⟨rfl, rfl⟩)
  go_ret
  exact ⟨by simp, Xw.trans (by repeat with_reducible (first | exact Ext.refl _ | refine Ext.alloc ?_ _ | refine Ext.drew ?_ | refine Ext.drewN ?_ _ | refine Ext.setCell ?_ (by first | exact Nat.le_refl _ | omega | (simp; done) | (simp; omega)) _))⟩

theorem nWrite (x : Value) (w : World) : Calls Try.prog 9 #[.pointer none, x] w fun e w' => e = .returned (.tuple #[.slice none 0 0, .int .u8 1]) ∧ w' = w := by
  go_enter Try.func9, Try.ntmps9
  go_wp2
  go_ret2
  exact ⟨rfl, rfl⟩

theorem nClose (w : World) : Calls Try.prog 10 #[.pointer none] w fun e w' => e = .returned (.int .u8 1) ∧ w' = w := by
  go_enter Try.func10, Try.ntmps10
  go_wp2
  go_ret
  exact ⟨rfl, rfl⟩

theorem nBroken (w : World) : Calls Try.prog 11 #[.pointer none] w fun e w' => e = .returned (.int .u8 1) ∧ w' = w := by
  go_enter Try.func11, Try.ntmps11
  go_wp2
  go_ret
  exact ⟨rfl, rfl⟩

theorem nWaiting (w : World) : Calls Try.prog 12 #[.pointer none] w fun e w' => e = .returned (.int .i64 0) ∧ w' = w := by
  go_enter Try.func12, Try.ntmps12
  go_wp2
  go_ret
  exact ⟨rfl, rfl⟩

theorem nNeeds (w : World) : Calls Try.prog 13 #[.pointer none] w fun e w' => e = .returned (.int .i64 0) ∧ w' = w := by
  go_enter Try.func13, Try.ntmps13
  go_wp2
  go_ret
  exact ⟨rfl, rfl⟩

theorem nTold (w : World) : Calls Try.prog 14 #[.pointer none] w fun e w' => e = .returned (.int .i64 0) ∧ w' = w := by
  go_enter Try.func14, Try.ntmps14
  go_wp2
  go_ret
  exact ⟨rfl, rfl⟩

theorem feedNil_walk {A : Option Addr} {n c : Nat} {bs : List UInt8} {w : World} (hb : BytesAt w A n c bs) :
    Calls Try.prog 3 #[.slice A n c] w fun e w' => e = .returned (.bool true) ∧ Ext w w' := by
  go_enter Try.func3, Try.ntmps3
  go_wp2_with (first
    | (go_at_call 8; refine (alive35 _).mono ?_; rintro e w1 ⟨rfl, E1⟩)
    | (go_at_call 9; refine (nWrite _ _).mono ?_; rintro e w2 ⟨rfl, rfl⟩)
    | (go_at_call 10; refine (nClose _).mono ?_; rintro e w3 ⟨rfl, rfl⟩)
    | (go_at_call 11; refine (nBroken _).mono ?_; rintro e w4 ⟨rfl, rfl⟩)
    | (go_at_call 12; refine (nWaiting _).mono ?_; rintro e w5 ⟨rfl, rfl⟩)
    | (go_at_call 13; refine (nNeeds _).mono ?_; rintro e w6 ⟨rfl, rfl⟩)
    | (go_at_call 14; refine (nTold _).mono ?_; rintro e w7 ⟨rfl, rfl⟩))
  go_ret
  exact ⟨rfl, E1⟩

end Go.Proofs.Ytalhnggfilgmjaa
