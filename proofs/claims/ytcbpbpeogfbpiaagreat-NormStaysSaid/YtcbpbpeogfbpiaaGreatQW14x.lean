/- Contracts of layer 14: what bytes mean, as the reference has it. -/
import Derived.Test.YtcbpbpeogfbpiaaGreatQW14z
import Derived.Test.YtcbpbpeogfbpiaaGreatQS14o
import Derived.Test.YtcbpbpeogfbpiaaGreatQW9r
import Derived.Test.YtcbpbpeogfbpiaaGreatQKScalarReads
import Derived.Test.YtcbpbpeogfbpiaaGreatQW7f
import Derived.Test.YtcbpbpeogfbpiaaGreatQWSortS
import Derived.StillTailTactics
import Derived.Deep.DeepCutAuto

namespace Go.Proofs.YtcbpbpeogfbpiaaGreat
open Go.RowKit Go.Shelf
set_option linter.unusedVariables false

/-- What stands while the fields are told. -/
structure ROut (w w6 wr : World) (bx : Nat) (U : Option Addr) (un uc : Nat) (V : Option Addr) (vn vc : Nat) (ys : List ValR) : Prop where
  x : BlkT wr bx 70 #[.slice V vn vc, .slice U un uc]
  own : Own w wr 64 4 V vn vc (ys.flatMap tvalC)
  vnL : vn = ys.length
  vnew : ∀ b, (Value.slice V 0 0).ownBlock = some b → w6.heap.size ≤ b
  stays : Stays (fun b => b ≠ bx) w6 wr
  at_ : ∀ y ∈ ys, ValAt wr y
  away : ∀ y ∈ ys, ∀ b, UsesV y b → w6.heap.size ≤ b ∧ (Value.slice V 0 0).ownBlock ≠ some b

section
variable {w w6 wr wz : World} {bx : Nat} {U : Option Addr} {un uc : Nat} {V : Option Addr} {vn vc : Nat} {ys : List ValR}

theorem ROut.up (h : ROut w w6 wr bx U un uc V vn vc ys) (k : Ext wr wz) : ROut w w6 wz bx U un uc V vn vc ys :=
  ⟨h.x.up k, h.own.up k, h.vnL, h.vnew, h.stays.trans (Stays.of_ext k), fun y hy => (h.at_ y hy).up k, h.away⟩

/-- A value is put behind the others. -/
theorem ROut.put (h : ROut w w6 wr bx U un uc V vn vc ys) (hb : w.heap.size ≤ bx) (h6 : bx < w6.heap.size) {u : ValR} (E : Ext wr wz) (hu : ValAt wz u) (ha : ∀ b, UsesV u b → wr.heap.size ≤ b)
    {ob : Obj} {V7 : Option Addr} {c7 : Nat} {w7 : World} (own7 : Own w w7 64 4 V7 (vn + 1) c7 (ys.flatMap tvalC ++ tvalC u)) (g7 : (wz.alloc ob).grownBy w7 (Value.slice V vn vc).ownBlock) (m7 : Moved (wz.alloc ob) V V7) :
    ROut w w6 (w7.setCell ⟨bx, 0, none⟩ (.slice V7 (vn + 1) c7)) bx U un uc V7 (vn + 1) c7 (ys ++ [u]) := by
  have X0 : Ext wr (wz.alloc ob) := E.alloc ob
  have hxu := h.own.up X0
  have hB := (h.x.up X0).beside hxu (by decide) g7
  have hlt := h.stays.size
  have hsz : wz.heap.size < (wz.alloc ob).heap.size := by simp
  have hsz2 := E.size
  have hS0 : Stays (fun b => (Value.slice V 0 0).ownBlock ≠ some b ∧ b ≠ bx) (wz.alloc ob) (w7.setCell ⟨bx, 0, none⟩ (.slice V7 (vn + 1) c7)) :=
    (Stays.grown g7 (fun b hb q => q.1 (by rw [ownBlock_any V vn vc 0 0] at hb; exact hb))).set (fun q => q.2 rfl) _
  have hS := (Stays.of_ext X0).trans hS0
  have hfar := own7.far hB (by decide) hb 0 (.slice V7 (vn + 1) c7)
  have hnr : ∀ b, b < wz.heap.size → (Value.slice V 0 0).ownBlock ≠ some b → (Value.slice V7 0 0).ownBlock ≠ some b := by
    intro b hb h0
    rcases m7 with q | q
    · rw [q]; exact h0
    · rw [q]
      intro r
      injection r with r
      omega
  have hall : ∀ y ∈ ys ++ [u], ValAt wz y ∧ ∀ b, UsesV y b → w6.heap.size ≤ b ∧ (Value.slice V 0 0).ownBlock ≠ some b := by
    intro y hy
    rcases List.mem_append.1 hy with hy | hy
    · exact ⟨(h.at_ y hy).up E, h.away y hy⟩
    · rw [List.mem_singleton] at hy
      subst hy
      refine ⟨hu, fun b hb => ?_⟩
      have := ha b hb
      refine ⟨by omega, fun q => ?_⟩
      have := (h.own.new_lt q).2
      omega
  refine ⟨hB.set_ 0 _, ?_, ?_, fun b hb => ?_, ?_, fun y hy => ((hall y hy).1.up ((Ext.refl wz).alloc ob)).stays hS0 (fun b hb => ?_), fun y hy b hb => ?_⟩
  · rw [List.flatMap_append]
    simpa using hfar
  · rw [List.length_append, ← h.vnL]
    rfl
  · rcases m7 with q | q
    · rw [q] at hb
      exact h.vnew b hb
    · rw [q] at hb
      injection hb with hb
      omega
  · refine ⟨Nat.le_trans hlt hS.size, fun b hb hlt2 => ?_⟩
    rw [hS.block b ⟨fun q => ?_, hb⟩ (by omega), h.stays.block b hb hlt2]
    have := h.vnew b q
    omega
  · have := (hall y hy).2 b hb
    exact ⟨this.2, by omega⟩
  · have := (hall y hy).2 b hb
    exact ⟨this.1, hnr b ((hall y hy).1.lt hb) this.2⟩
end

end Go.Proofs.YtcbpbpeogfbpiaaGreat
