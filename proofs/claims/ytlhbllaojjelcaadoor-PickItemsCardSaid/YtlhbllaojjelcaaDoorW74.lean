/- The document's answers for 13 and 21: the way of names, of a path. -/
import Derived.Test.YtlhbllaojjelcaaDoorW73
import Derived.Deep.RegionHeld3
namespace Go.Proofs.YtlhbllaojjelcaaDoor
open Go.RowKit Go.Shelf
set_option linter.unusedVariables false

theorem wayV_len {S : List MsgD} : ∀ {l : List ByteArray} {m : Nat} {way : List Int}, wayV S m l = some way → way.length = l.length
  | [], m, way, h => by
    unfold wayV at h
    injection h with h
    rw [← h]
    rfl
  | s :: l, m, way, h => by
    unfold wayV at h
    split at h
    · cases h
    · split at h
      · cases h
      · split at h
        · rename_i hl
          injection h with h
          rw [← h, hl]
          rfl
        · split at h
          · cases h
          · rename_i f _ _ _
            rcases hw : wayV S f.of_.toNat l with _ | way'
            · rw [hw] at h; cases h
            · rw [hw] at h
              injection h with h
              rw [← h]
              simp [wayV_len hw]


/-- The way of a path ahead of bytes that are checked; the code. -/
def wayAtV (S : List MsgD) (root d : Int) (p : ByteArray) (bs : List UInt8) : List Int × Nat :=
  if argsV S root d ≠ 0 then ([], argsV S root d) else if (resolveV S root p).2 ≠ 0 then ([], (resolveV S root p).2) else ((resolveV S root p).1, (checkB S root bs d).2)

theorem resolve_nil {S : List MsgD} {root : Int} {p : ByteArray} (h : (resolveV S root p).2 ≠ 0) : (resolveV S root p).1 = [] := by
  unfold resolveV at h ⊢
  split
  · rfl
  · rename_i h0
    rw [if_neg h0] at h
    split
    · rfl
    · rename_i hn
      rw [hn] at h
      simp only at h
      split
      · rfl
      · rename_i hw
        rw [hw] at h
        exact absurd rfl h

end Go.Proofs.YtlhbllaojjelcaaDoor
