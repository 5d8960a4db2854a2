/- The walk of the law TagReads, out of its callees' contracts. -/
import Derived.Test.YtdihgdjinghnbaaW3b
namespace Go.Proofs.Ytdihgdjinghnbaa
open Go.RowKit
set_option linter.unusedVariables false

theorem tagV_8 : tagV [8] = (1, 0, 1, 0) := by decide

theorem tagV_18 : tagV [18] = (2, 2, 1, 0) := by decide

theorem lit_8 (w : World) (e : TypeId) {b : Nat} (hb : b = w.heap.size) : BytesAt (w.alloc (.cells #[.int .u8 8] e)) (some ⟨b, 0, none⟩) 1 1 [8] := bytes_lit w e [.int .u8 8] [8] 1 hb (by simp [bv]) rfl (by simp [maxLen])

theorem lit_18 (w : World) (e : TypeId) {b : Nat} (hb : b = w.heap.size) : BytesAt (w.alloc (.cells #[.int .u8 18] e)) (some ⟨b, 0, none⟩) 1 1 [18] := bytes_lit w e [.int .u8 18] [18] 1 hb (by simp [bv]) rfl (by simp [maxLen])

theorem alive03 (w : World) : Calls Try.prog 22 #[] w fun e w' => e = .returned (.bool true) ∧ Ext w w' := by
  go_enter Try.func22, Try.ntmps22
  go_wp2_with fail
  refine (tRead (lit_8 _ _ (by first | rfl | simp)) tagV_8).mono ?_
  rintro e w1 ⟨rfl, E1⟩
  go_wp2_with fail
  refine (tRead (lit_18 _ _ (by first | rfl | simp)) tagV_18).mono ?_
  rintro e w2 ⟨rfl, E2⟩
  have h := two_blocks E2
  have c0 : w2.cell? ⟨w1.heap.size, 0, none⟩ = some (.int .i64 1) := h.1 0
  have c1 : w2.cell? ⟨w1.heap.size, 1, none⟩ = some (.int .i64 0) := h.1 1
  have hlt : w1.heap.size < w2.heap.size := by have := h.2.2.2.2; omega
  have hE : Ext w w2 := (((Ext.refl w).alloc _).trans E1).trans (((Ext.refl w1).alloc _ |>.alloc _).trans E2)
  clear h
  go_wp2_with fail
  go_ret
  exact ⟨rfl, hE.alloc _⟩

theorem tagReads_walk {A : Option Addr} {n c : Nat} {bs : List UInt8} {w : World} (hb : BytesAt w A n c bs) :
    Calls Try.prog 4 #[.slice A n c] w fun e w' => e = .returned (.bool true) ∧ Ext w w' := by
  have hmax := Reads.max hb
  have hcap := Reads.cap hb
  unfold maxLen at hmax
  by_cases hn : (2000 : Int) < n
  · go_enter Try.func4, Try.ntmps4
    go_wp2_with (go_at_call 22; refine (alive03 _).mono ?_; rintro e w1 ⟨rfl, E1⟩)
    go_ret
    exact ⟨rfl, E1⟩
  · rcases ht : tagV bs with ⟨T, V, N, C⟩
    have hC : C ≤ 5 := by have := (tagV_bd bs).1; rw [ht] at this; exact this
    have Ht := Lib.hid ht
    clear ht
    go_enter Try.func4, Try.ntmps4
    go_wp2_with (first | (go_at_call 22; refine (alive03 _).mono ?_; rintro e w1 ⟨rfl, E1⟩) | (go_at_call 23; refine (tRead (hb.ext E1) Ht.out).mono ?_; rintro e w2 ⟨rfl, E2⟩) | (go_at_call 24; refine (tReadR (p := 0) (hb.ext (E1.trans (E2.alloc _))) rfl (Nat.zero_le _) (by omega) Ht.out).mono ?_; rintro e w3 ⟨rfl, rfl⟩))
    go_ret
    exact ⟨rfl, (E1.trans E2).alloc _⟩

end Go.Proofs.Ytdihgdjinghnbaa
