/- Contracts of layer 16: a text as bytes. -/
import Derived.Test.YtgjhglehghjoeaaGreatQbWA
import Derived.Lib.ConvBytes
import Derived.Lib.AppendStr

namespace Go.Proofs.YtgjhglehghjoeaaGreat
open Go.RowKit
set_option linter.unusedVariables false

theorem freeze_row (w : World) (c : Array Value) (e : TypeId) (k : Nat) : (w.alloc (.cells c e)).freeze ⟨w.heap.size, k, none⟩ 1 = w.alloc (.cells c e (k, k + 1)) := by
  unfold World.freeze World.alloc
  rw [if_neg (by decide)]
  have hm : ∀ (a : Array Obj) (o : Obj) (f : Obj → Obj), (a.push o).modify a.size f = a.push (f o) := by
    intro a o f
    apply Array.ext_getElem?
    intro i
    simp only [Array.getElem?_modify, Array.getElem?_push]
    by_cases h : a.size = i
    · subst h; simp
    · have h' : ¬ i = a.size := fun e => h e.symm
      simp [h, h']
  simp only [hm]
  rfl

theorem conv_text (w : World) (t : ByteArray) (ht : t.data.toList.length ≤ maxLen) : ∃ (A : Option Addr) (c : Nat) (W2 : World), (convert 9 61 (.string t)).run Tryz.prog w = .ok (.slice A t.data.toList.length c) W2 ∧ Ext w W2 ∧ BytesAt W2 A t.data.toList.length c t.data.toList := by
  have hsz : t.size = t.data.toList.length := rfl
  have hr := Go.Lib.run_convert_string_bytes (P := Tryz.prog) w 9 61 5 t Tryz.underlying9 Tryz.underlying61 Tryz.underlying5
  have hw : Go.Lib.bytesWorld w 5 t = w.drew.alloc (.cells (Go.Lib.bytesCells w 5 t) 5 ((Go.Lib.bytesCells w 5 t).size, (Go.Lib.bytesCells w 5 t).size + 1)) := by
    unfold Go.Lib.bytesWorld
    have h0 : w.heap.size = w.drew.heap.size := rfl
    rw [h0]
    exact freeze_row w.drew _ _ _
  refine ⟨some ⟨w.heap.size, 0, none⟩, grownCap w t.size 0 5, Go.Lib.bytesWorld w 5 t, by rw [← hsz]; exact hr, ?_, ?_⟩
  · rw [hw]
    exact (Ext.refl w).drew.alloc _
  · refine ⟨by rw [List.length_map, Nat.mul_one], by rw [← hsz]; exact grownCap_ge _ _ _ _, grownCap_le_maxLen _ _ _ _ (by rw [hsz]; exact ht), fun _ => ⟨w.heap.size, 0, rfl, by rw [Go.Lib.bytesWorld_size]; omega, fun j u hj => ?_⟩⟩
    rw [List.getElem?_map] at hj
    rcases hb : t.data.toList[j]? with _ | b
    · rw [hb] at hj
      cases hj
    · rw [hb] at hj
      cases hj
      have hlt : j < t.size := by rw [hsz]; exact (List.getElem?_eq_some_iff.1 hb).1
      have h1 := Go.Lib.bytesWorld_cell w 5 t j hlt
      rw [Nat.zero_add, h1, List.getD_eq_getElem?_getD, hb]
      rfl

end Go.Proofs.YtgjhglehghjoeaaGreat
