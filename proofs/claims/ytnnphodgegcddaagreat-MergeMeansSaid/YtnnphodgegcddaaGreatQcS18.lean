/- Plain words of layer 18: the normal form, field by field, is the meaning's bytes; and how long it is at most. -/
import Derived.Test.YtnnphodgegcddaaGreatQcS15
import Derived.Test.YtnnphodgegcddaaGreatQcS14o

/- Plain words of layer 18: the normal form, field by field. -/
namespace Go.Proofs.YtnnphodgegcddaaGreat
open Go.RowKit
set_option linter.unusedVariables false

section
variable {se : Nat → MsgT → List UInt8} {sub : Nat → List UInt8 → MsgT} {f : FieldD} {bs : List UInt8} {fs : List FieldD} {L : List ViewD} {S : List MsgD} {m : Nat} {M : MsgD}

end

end Go.Proofs.YtnnphodgegcddaaGreat

/- Plain words of layer 18: how long a normal form is at most. -/
namespace Go.Proofs.YtnnphodgegcddaaGreat
open Go.RowKit
set_option linter.unusedVariables false

section
variable {se : Nat → MsgT → List UInt8} {sub : Nat → List UInt8 → MsgT} {f : FieldD} {bs : List UInt8} {fs : List FieldD} {S : List MsgD} {m : Nat} {M : MsgD}

end

end Go.Proofs.YtnnphodgegcddaaGreat

/- Plain words of layer 18: the normal form of two messages, one behind the other; how long it is; and what it means. -/


/- Plain words of layer 18: the normal form of two messages is no longer than theirs together. -/
namespace Go.Proofs.YtnnphodgegcddaaGreat
open Go.RowKit
open Go.Lib (uvarint uvarint_small uvarint_big uvarint_pos)
set_option linter.unusedVariables false

section
variable {se : Nat → MsgT → List UInt8} {sub : Nat → List UInt8 → MsgT} {f : FieldD} {a b : List UInt8} {fs : List FieldD} {S : List MsgD} {m : Nat} {M : MsgD}

end

end Go.Proofs.YtnnphodgegcddaaGreat

/- Plain words of layer 18: right meanings within more depth; the normal form. -/
namespace Go.Proofs.YtnnphodgegcddaaGreat
open Go.RowKit
set_option linter.unusedVariables false

section
variable {S : List MsgD}

def meanB (S : List MsgD) (m : Nat) (bs : List UInt8) : MsgT := ofV S 100000 m bs

theorem mean_right (hR : rightS S = true) {d m : Nat} {bs : List UInt8} (hm : m < S.length) (h : (firstV S d m bs).2 = 0) (hb : bs.length ≤ 100000) : RightV S d m (meanB S m bs) := of_right hR d 100000 m bs hm h hb

theorem mean_join (hR : rightS S = true) {d m : Nat} {a b : List UInt8} (hm : m < S.length) (ha : (firstV S d m a).2 = 0) (hb : (firstV S d m b).2 = 0) (hl : a.length + b.length ≤ 100000) : meanB S m (a ++ b) = joinV S 100000 m (meanB S m a) (meanB S m b) := of_join hR 100000 d m a b hm hl ha hb

end

end Go.Proofs.YtnnphodgegcddaaGreat

/- Plain words of layer 15: how many things the meaning of so many bytes has; what two messages' bytes mean together. No program is named. -/



namespace Go.Proofs.YtnnphodgegcddaaGreat
open Go.RowKit
set_option linter.unusedVariables false

section
variable {fs : List FieldD} {bs : List UInt8} {i : Nat} {f : FieldD} {sub sub' : Nat → List UInt8 → MsgT} {S : List MsgD}

theorem fit_ofM8 (hR : rightS S = true) {m : Nat} (hb : bs.length ≤ 100000) (h : ∀ m' b', b'.length < bs.length → FitT 100000000 (sub m' b')) : FitT 100000000 (ofM sub S m bs) := by
 unfold ofM
 split
 · exact .mk _ (Nat.zero_le _) (Nat.zero_le _) (fun v hv => by cases hv) (fun v hv => by cases hv)
 · rename_i M hM
   have hn := (right_msg hR hM).2.2.1
   have hall : ∀ v ∈ (sortK (keyF M.fields) M.fields.length).filterMap (placeO sub M.fields bs (viewsV M.fields bs).1), ∃ i f, M.fields[i]? = some f ∧ viewsO (viewsV M.fields bs).1 i ≠ [] ∧ v = valueU sub f ((viewsO (viewsV M.fields bs).1 i).flatMap (wordsO f bs)) ((viewsO (viewsV M.fields bs).1 i).flatMap (piecesO f bs)) := fun v hv => by
    obtain ⟨i, _, hi⟩ := List.mem_filterMap.1 hv
    obtain ⟨f, h1, h2, h3, _⟩ := place_some hi
    exact ⟨i, f, h1, h2, h3⟩
   refine .mk _ ?_ ?_ (fun v hv => ?_) (fun v hv y hy => ?_)
   · refine Nat.le_trans (List.length_filterMap_le _ _) ?_
     rw [sortK_length]
     omega
   · show (List.map _ _).length ≤ _
     rw [List.length_map]
     have h1 := List.length_filter_le (fun v : ViewD => decide (v.field < 0)) (viewsV M.fields bs).1
     have h2 := (viewsV_bd M.fields bs).2.1
     omega
   · obtain ⟨i, f, hf, hne, rfl⟩ := hall v hv
     have h1 := words_le f bs (viewsO (viewsV M.fields bs).1 i) (fun v hv => (own_bd hv).2.2.2)
     have h2 := (pieces_le f bs (viewsO (viewsV M.fields bs).1 i) (fun v hv => (own_bd hv).2.2.2)).1
     have h3 := own_weigh (fs := M.fields) (bs := bs) (i := i)
     exact fit_value (by omega) (by omega)
   · obtain ⟨i, f, hf, hne, rfl⟩ := hall v hv
     have hy' : y ∈ (if f.kind = 17 then (ppiecesO f ((viewsO (viewsV M.fields bs).1 i).flatMap (piecesO f bs))).map (sub f.of_.toNat) else []) := hy
     split at hy'
     · obtain ⟨x, hx, rfl⟩ := List.mem_map.1 hy'
       rw [ppieces_eq] at hx
       have := fpiece_small hf hne hx
       exact h _ _ (by omega)
     · cases hy'

theorem fit_of8 (hR : rightS S = true) : ∀ (d m : Nat) (bs : List UInt8), bs.length ≤ 100000 → FitT 100000000 (ofV S d m bs)
 | 0, m, bs, h => fit_ofM8 hR h (fun m' b' _ => .mk _ (Nat.zero_le _) (Nat.zero_le _) (fun v hv => by cases hv) (fun v hv => by cases hv))
 | d + 1, m, bs, h => fit_ofM8 hR h (fun m' b' hb => fit_of8 hR d m' b' (by omega))
end

end Go.Proofs.YtnnphodgegcddaaGreat

/- Plain words of layer 14: right meanings, however deep. No program is named. -/

namespace Go.Proofs.YtnnphodgegcddaaGreat
open Go.RowKit
set_option linter.unusedVariables false

section
variable {S : List MsgD}

end

end Go.Proofs.YtnnphodgegcddaaGreat
