/- The walk of the law TagReads, out of its callees' contracts. -/
import Derived.Test.YtcipokmklkognaaW3b
namespace Go.Proofs.Ytcipokmklkognaa
open Go.RowKit
set_option linter.unusedVariables false

theorem tagV_8 : tagV [8] = (1, 0, 1, 0) := by decide

theorem tagV_18 : tagV [18] = (2, 2, 1, 0) := by decide

theorem lit_8 (w : World) (e : TypeId) {b : Nat} (hb : b = w.heap.size) : BytesAt (w.alloc (.cells #[.int .u8 8] e)) (some ⟨b, 0, none⟩) 1 1 [8] := bytes_lit w e [.int .u8 8] [8] 1 hb (by simp [bv]) rfl (by simp [maxLen])

theorem lit_18 (w : World) (e : TypeId) {b : Nat} (hb : b = w.heap.size) : BytesAt (w.alloc (.cells #[.int .u8 18] e)) (some ⟨b, 0, none⟩) 1 1 [18] := bytes_lit w e [.int .u8 18] [18] 1 hb (by simp [bv]) rfl (by simp [maxLen])

theorem alive03 (w : World) : Calls Try.prog 20 #[] w fun e w' => e = .returned (.bool true) ∧ Ext w w' := by
  go_enter Try.func20, Try.ntmps20
  go_wp2_with fail
  refine (tRead (lit_8 _ _ (by first | rfl | simp)) tagV_8).mono ?_
  rintro e w1 ⟨rfl, E1⟩
  go_wp2_with fail
  refine (tRead (lit_18 _ _ (by first | rfl | simp)) tagV_18).mono ?_
  rintro e w2 ⟨rfl, E2⟩
  have h := two_blocks E2
  have c0 : w2.cell? ⟨w1.heap.size, 0, none⟩ = some (.int .i64 1) := h.1 0
  have c1 : w2.cell? ⟨w1.heap.size, 1, none⟩ = some (.int .i64 0) := h.1 1
  have hlt : w1.heap.size < w2.heap.size := by have := h.2.2.2.2; omega
  have hE : Ext w w2 := (((Ext.refl w).alloc _).trans E1).trans (((Ext.refl w1).alloc _ |>.alloc _).trans E2)
  clear h
  go_wp2_with fail
  go_ret
  exact ⟨rfl, hE.alloc _⟩

end Go.Proofs.Ytcipokmklkognaa
