/- Contracts of layer 16: a text as bytes. -/
import Derived.Test.YtnnphodgegcddaaGreatQfWA
import Derived.Lib.ConvBytes
import Derived.Lib.AppendStr
import Derived.Test.YtnnphodgegcddaaGreatQfM14
import Derived.Test.YtnnphodgegcddaaGreatQfW10
import Derived.Test.YtnnphodgegcddaaGreatQfW9
import Derived.Test.YtnnphodgegcddaaGreatQfS18
import Derived.Test.YtnnphodgegcddaaGreatQfW14w

namespace Go.Proofs.YtnnphodgegcddaaGreat
open Go.RowKit
set_option linter.unusedVariables false

theorem freeze_row (w : World) (c : Array Value) (e : TypeId) (k : Nat) : (w.alloc (.cells c e)).freeze ⟨w.heap.size, k, none⟩ 1 = w.alloc (.cells c e (k, k + 1)) := by
 unfold World.freeze World.alloc
 rw [if_neg (by decide)]
 have hm : ∀ (a : Array Obj) (o : Obj) (f : Obj → Obj), (a.push o).modify a.size f = a.push (f o) := by
  intro a o f
  apply Array.ext_getElem?
  intro i
  simp only [Array.getElem?_modify, Array.getElem?_push]
  by_cases h : a.size = i
  · subst h; simp
  · have h' : ¬ i = a.size := fun e => h e.symm
    simp [h, h']
 simp only [hm]
 rfl

theorem conv_text (w : World) (t : ByteArray) (ht : t.data.toList.length ≤ maxLen) : ∃ (A : Option Addr) (c : Nat) (W2 : World), (convert 9 24 (.string t)).run Tryz.prog w = .ok (.slice A t.data.toList.length c) W2 ∧ Ext w W2 ∧ BytesAt W2 A t.data.toList.length c t.data.toList := by
 have hsz : t.size = t.data.toList.length := rfl
 have hr := Go.Lib.run_convert_string_bytes (P := Tryz.prog) w 9 24 5 t Tryz.underlying9 Tryz.underlying24 Tryz.underlying5
 have hw : Go.Lib.bytesWorld w 5 t = w.drew.alloc (.cells (Go.Lib.bytesCells w 5 t) 5 ((Go.Lib.bytesCells w 5 t).size, (Go.Lib.bytesCells w 5 t).size + 1)) := by
  unfold Go.Lib.bytesWorld
  have h0 : w.heap.size = w.drew.heap.size := rfl
  rw [h0]
  exact freeze_row w.drew _ _ _
 refine ⟨some ⟨w.heap.size, 0, none⟩, grownCap w t.size 0 5, Go.Lib.bytesWorld w 5 t, by rw [← hsz]; exact hr, ?_, ?_⟩
 · rw [hw]
   exact (Ext.refl w).drew.alloc _
 · refine ⟨by rw [List.length_map, Nat.mul_one], by rw [← hsz]; exact grownCap_ge _ _ _ _, grownCap_le_maxLen _ _ _ _ (by rw [hsz]; exact ht), fun _ => ⟨w.heap.size, 0, rfl, by rw [Go.Lib.bytesWorld_size]; omega, fun j u hj => ?_⟩⟩
   rw [List.getElem?_map] at hj
   rcases hb : t.data.toList[j]? with _ | b
   · rw [hb] at hj
     cases hj
   · rw [hb] at hj
     cases hj
     have hlt : j < t.size := by rw [hsz]; exact (List.getElem?_eq_some_iff.1 hb).1
     have h1 := Go.Lib.bytesWorld_cell w 5 t j hlt
     rw [Nat.zero_add, h1, List.getD_eq_getElem?_getD, hb]
     rfl

theorem infoB : ∃ i, Tryz.prog.info? 5 = some i ∧ i.zero = some (.int .u8 0) ∧ i.size = 1 ∧ i.bytes = 1 := by
 have h : (Tryz.prog.info? 5).map (fun i => (i.zero, i.size, i.bytes)) = some (some (Value.int IntKind.u8 0), 1, 1) := by kernel_rfl
 exact info_parts h

theorem run_append_text {w0 w : World} {A : Option Addr} {n c : Nat} {xs : List UInt8} (ty : TypeId) (h : Own w0 w 5 1 A n c (xs.map bv)) (t : ByteArray) (hb : n + t.data.toList.length ≤ 140737488355328) :
  ∃ A' c' w', (Builtin.append_ #[24, 9] ty #[.slice A n c, .string t]).run Tryz.prog w = .ok (.slice A' (n + t.data.toList.length) c') w' ∧ Own w0 w' 5 1 A' (n + t.data.toList.length) c' ((xs ++ t.data.toList).map bv) ∧ w.grownBy w' (Value.slice A n c).ownBlock := by
 obtain ⟨i, hi, hz, h1, h2⟩ := infoB
 obtain ⟨v', w', hrun, hrow, hg, _⟩ := Go.Lib.run_append_own_string (P := Tryz.prog) w w0.heap.size 24 9 ty 5 i Tryz.underlying24 Tryz.underlying9 hi hz h1 h2 (.slice A n c) n (xs.map bv) h.row t (by show n + t.data.toList.length ≤ _; unfold maxLen; omega) hb h.ext.size
 have hs : xs.map bv ++ Go.Lib.strCells t = (xs ++ t.data.toList).map bv := by rw [List.map_append]; rfl
 rw [hs] at hrow
 obtain ⟨A', c', rfl⟩ : ∃ A' c', v' = .slice A' (n + t.data.toList.length) c' := by
  rcases hrow.2 with ⟨rfl, e⟩ | ⟨g, cap, cur, rfl, _⟩
  · exact ⟨none, 0, by rw [show n + t.data.toList.length = 0 from e]⟩
  · exact ⟨_, _, rfl⟩
 exact ⟨A', c', w', hrun, ⟨hrow, grown_ext h hg h.ext⟩, hg⟩

end Go.Proofs.YtnnphodgegcddaaGreat

/- Contracts of layer 16: the reference's bytes of a value that fits a field. -/





namespace Go.Proofs.YtnnphodgegcddaaGreat
open Go.RowKit Go.Shelf
set_option linter.unusedVariables false

theorem flat_upto {α : Type} {T : List (List α)} (k : Nat) : (T.take k).flatten.length ≤ T.flatten.length := by
 have h := congrArg List.flatten (List.take_append_drop k T)
 rw [List.flatten_append] at h
 have h2 := congrArg List.length h
 rw [List.length_append] at h2
 omega

theorem putB_more (n : Int) (v : List UInt8) : v.length ≤ (putB n 2 v).length := by rw [putB_len]; omega

end Go.Proofs.YtnnphodgegcddaaGreat

/- Contracts of layer 16: the reference's bytes of a right meaning. -/


namespace Go.Proofs.YtnnphodgegcddaaGreat
open Go.RowKit Go.Shelf
set_option linter.unusedVariables false

theorem flat_map_flatten {α β : Type} {g : α → List (List β)} : ∀ l : List α, (l.flatMap g).flatten = (l.map fun a => (g a).flatten).flatten
 | [] => rfl
 | a :: l => by rw [List.flatMap_cons, List.flatten_append, flat_map_flatten l, List.map_cons, List.flatten_cons]

theorem packW_ge (k : Int) : ∀ l : List Nat, (∀ x ∈ l, x < 18446744073709551616) → l.length ≤ (packW k l).length
 | [], _ => Nat.zero_le _
 | x :: l, h => by
   have h1 := (putS_length (k := k) (h x List.mem_cons_self)).1
   have h2 := packW_ge k l (fun y hy => h y (List.mem_cons_of_mem _ hy))
   rw [packW, List.length_append, List.length_cons]
   omega

theorem right_puts {S : List MsgD} (hR : rightS S = true) {m i : Nat} {M : MsgD} {f : FieldD} (hM : S[m]? = some M) (hf : M.fields[i]? = some f) : rightB f.number 2 = true ∧ rightB f.number (wireI f.kind) = true := by
 obtain ⟨⟨T, hT⟩, n1, n2, hkb⟩ := right_number hR hM hf
 refine ⟨by rw [hT]; exact rightB_of (by omega) (by omega) (by decide), ?_⟩
 unfold kindB at hkb
 have hkb := of_decide_eq_true hkb
 unfold wireI
 repeat' split
 all_goals
  rw [hT]
  exact rightB_of (by omega) (by omega) (by decide)

end Go.Proofs.YtnnphodgegcddaaGreat

/- Contracts of layers 16 and 18: the reference's bytes of a right meaning, and of valid bytes. -/


namespace Go.Proofs.YtnnphodgegcddaaGreat
open Go.RowKit Go.Shelf
set_option linter.unusedVariables false

end Go.Proofs.YtnnphodgegcddaaGreat
