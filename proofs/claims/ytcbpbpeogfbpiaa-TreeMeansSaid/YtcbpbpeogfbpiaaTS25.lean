/- Plain words: the texts of a meaning are no longer than its bytes. -/
import Derived.Test.YtcbpbpeogfbpiaaTW20h

namespace Go.Proofs.Ytcbpbpeogfbpiaa
open Go.RowKit
set_option linter.unusedVariables false

/-- The unknown records' texts are no longer than the bytes. -/
theorem texts_ofM {S : List MsgD} {sub : Nat → List UInt8 → MsgT} {m : Nat} {bs : List UInt8} {B : Nat} (hb : bs.length ≤ B) (h : ∀ m' b', b'.length < bs.length → TextsT B (sub m' b')) : TextsT B (ofM sub S m bs) := by
  unfold ofM
  split
  · exact .mk _ (fun t ht => by cases ht) (fun v hv => by cases hv)
  · rename_i M hM
    have hall : ∀ v ∈ (sortK (keyF M.fields) M.fields.length).filterMap (placeO sub M.fields bs (viewsV M.fields bs).1), ∃ i f, M.fields[i]? = some f ∧ viewsO (viewsV M.fields bs).1 i ≠ [] ∧ v = valueU sub f ((viewsO (viewsV M.fields bs).1 i).flatMap (wordsO f bs)) ((viewsO (viewsV M.fields bs).1 i).flatMap (piecesO f bs)) := fun v hv => by
      obtain ⟨i, _, hi⟩ := List.mem_filterMap.1 hv
      obtain ⟨f, h1, h2, h3, _⟩ := place_some hi
      exact ⟨i, f, h1, h2, h3⟩
    refine .mk _ (fun t ht => ?_) (fun v hv y hy => ?_)
    · obtain ⟨u, hu, rfl⟩ := List.mem_map.1 ht
      have hm := (List.mem_filter.1 hu).1
      have := (view_bd hm).2.2
      show (spanB bs u.r.f u.r.t).length ≤ B
      rw [spanB_length bs (by omega)]
      omega
    · obtain ⟨i, f, hf, hne, rfl⟩ := hall v hv
      have hy' : y ∈ (if f.kind = 17 then (ppiecesO f ((viewsO (viewsV M.fields bs).1 i).flatMap (piecesO f bs))).map (sub f.of_.toNat) else []) := hy
      split at hy'
      · obtain ⟨x, hx, rfl⟩ := List.mem_map.1 hy'
        rw [ppieces_eq] at hx
        have := fpiece_small hf hne hx
        exact h _ _ (by omega)
      · cases hy'

theorem texts_of {S : List MsgD} {B : Nat} : ∀ (d m : Nat) (bs : List UInt8), bs.length ≤ B → TextsT B (ofV S d m bs)
  | 0, m, bs, h => texts_ofM h (fun m' b' _ => .mk _ (fun t ht => by cases ht) (fun v hv => by cases hv))
  | d + 1, m, bs, h => texts_ofM h (fun m' b' hb => texts_of d m' b' (by omega))

end Go.Proofs.Ytcbpbpeogfbpiaa
