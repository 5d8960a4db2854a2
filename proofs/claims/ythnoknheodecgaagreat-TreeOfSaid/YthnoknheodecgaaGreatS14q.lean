/- Plain words of layer 14: what a field's own views are; meanings are small, and the same however much is left for the depth. -/
import Derived.Test.YthnoknheodecgaaGreatS14p
import Derived.Test.YthnoknheodecgaaGreatM14b
namespace Go.Proofs.YthnoknheodecgaaGreat
open Go.RowKit
set_option linter.unusedVariables false

/-- What a field's own view is. -/
theorem own_view {fs : List FieldD} {bs : List UInt8} {v : ViewD} {i : Nat} {f : FieldD} (h : v ∈ (viewsV fs bs).1) (hi : v.field = (i : Int)) (hf : fs[i]? = some f) : (v.run = true ∧ f.rep = true ∧ numberB f.kind = true) ∨ (v.run = false ∧ kindB f.kind = true) := by
  rcases view_is h with e | ⟨k, f', e1, e2, e3⟩
  · omega
  · have hk : k = i := by omega
    subst hk
    rw [hf] at e2
    cases e2
    exact e3

theorem pieces_number {f : FieldD} {bs : List UInt8} (h : numberB f.kind = true) (l : List ViewD) : l.flatMap (piecesO f bs) = [] := by
  rw [List.flatMap_eq_nil_iff]
  intro v _
  unfold piecesO
  split
  · rfl
  · rfl

theorem words_other {fs : List FieldD} {bs : List UInt8} {L : List ViewD} {P C : Nat} (hv : viewsV fs bs = (L, P, C)) {k i : Nat} {f : FieldD} (hf : fs[i]? = some f) (h : numberB f.kind = false) : (viewsO (L.take k) i).flatMap (wordsO f bs) = [] := by
  rw [List.flatMap_eq_nil_iff]
  intro v hm
  have h1 : v ∈ (viewsV fs bs).1 := by rw [hv]; exact List.mem_of_mem_take (List.mem_filter.1 hm).1
  have h2 : v.field = (i : Int) := by have := (List.mem_filter.1 hm).2; simpa using this
  rcases own_view h1 h2 hf with ⟨_, _, h3⟩ | ⟨h3, _⟩
  · rw [h] at h3
    cases h3
  · unfold wordsO
    rw [h3, h]
    rfl

theorem number_17 {k : Int} (h : numberB k = true) : k ≠ 17 := by
  unfold numberB at h
  have := of_decide_eq_true h
  omega

section
variable {fs : List FieldD} {bs : List UInt8} {i : Nat} {f : FieldD} {sub sub' : Nat → List UInt8 → MsgT} {S : List MsgD}

theorem own_bd {v : ViewD} (hv : v ∈ viewsO (viewsV fs bs).1 i) : v ∈ (viewsV fs bs).1 ∧ v.field = (i : Int) ∧ v.r.a ≤ v.r.t ∧ v.r.t ≤ bs.length := by
  have h1 := (List.mem_filter.1 hv).1
  have h2 := (List.mem_filter.1 hv).2
  have h3 := view_bd h1
  exact ⟨h1, by simpa using h2, h3.2.1, h3.2.2⟩

theorem own_weigh : weighL (viewsO (viewsV fs bs).1 i) ≤ bs.length := Nat.le_trans (viewsO_weigh _ i) (viewsV_weigh fs bs)

/-- Each value of a field is shorter than the bytes. -/
theorem fpiece_small (hf : fs[i]? = some f) (hne : viewsO (viewsV fs bs).1 i ≠ []) {x : List UInt8} (hx : x ∈ fpiecesO f bs (viewsO (viewsV fs bs).1 i)) : x.length + 1 ≤ bs.length := by
  refine fpiece_lt hne (fun v hv => (own_bd hv).2.2) own_weigh (fun h17 v hv => ?_) hx
  rcases own_view (own_bd hv).1 (own_bd hv).2.1 hf with ⟨_, _, q⟩ | ⟨q, _⟩
  · exact absurd h17 (number_17 q)
  · exact q

/-- What a field's value comes from. -/
theorem place_some {L : List ViewD} {u : ValT} (h : placeO sub fs bs L i = some u) : ∃ f, fs[i]? = some f ∧ viewsO L i ≠ [] ∧ u = valueU sub f ((viewsO L i).flatMap (wordsO f bs)) ((viewsO L i).flatMap (piecesO f bs)) ∧ manyU u ≠ 0 := by
  unfold placeO at h
  split at h
  · cases h
  · rename_i f hf
    split at h
    · cases h
    · rename_i hne
      rw [fieldO_eq] at h
      split at h
      · cases h
      · rename_i hm
        injection h with h
        subst h
        exact ⟨f, hf, hne, rfl, hm⟩

theorem value_congr {f : FieldD} {ws : List Nat} {ps : List (List UInt8)} (h : ∀ x ∈ ppiecesO f ps, sub f.of_.toNat x = sub' f.of_.toNat x) : valueU sub f ws ps = valueU sub' f ws ps := by
  unfold valueU
  congr 1
  split
  · exact List.map_congr_left h
  · rfl

theorem ofM_congr {m : Nat} (h : ∀ m' b', b'.length < bs.length → sub m' b' = sub' m' b') : ofM sub S m bs = ofM sub' S m bs := by
  unfold ofM
  split
  · rfl
  · rename_i M hM
    congr 1
    refine congrArg (fun g => List.filterMap g _) (funext fun i => ?_)
    unfold placeO
    split
    · rfl
    · rename_i f hf
      split
      · rfl
      · rename_i hne
        rw [fieldO_eq, fieldO_eq, value_congr (sub := sub) (sub' := sub') (f := f)]
        intro x hx
        rw [ppieces_eq] at hx
        have := fpiece_small hf hne hx
        exact h _ _ (by omega)

/-- So much for the depth is as good as more. -/
theorem ofV_fuel (S : List MsgD) : ∀ (d d' m : Nat) (bs : List UInt8), bs.length ≤ d → bs.length ≤ d' → ofV S d m bs = ofV S d' m bs := by
  intro d
  induction d with
  | zero =>
    intro d' m bs h1 h2
    rcases d' with _ | d'
    · rfl
    · exact ofM_congr (fun m' b' h => by omega)
  | succ d ih =>
    intro d' m bs h1 h2
    rcases d' with _ | d'
    · exact ofM_congr (fun m' b' h => by omega)
    · exact ofM_congr (fun m' b' h => ih d' m' b' (by omega) (by omega))

theorem fit_value {B : Nat} {f : FieldD} {ws : List Nat} {ps : List (List UInt8)} (hw : ws.length ≤ B) (hp : ps.length + 1 ≤ B) : (valueU sub f ws ps).words.length ≤ B ∧ (valueU sub f ws ps).texts.length ≤ B ∧ (valueU sub f ws ps).subs.length ≤ B := by
  have h1 : (pwordsO f ws).length ≤ ws.length := by
    unfold pwordsO
    split
    · exact Nat.le_refl _
    · unfold lastO
      rw [List.length_drop]
      omega
  have h2 : (ppiecesO f ps).length ≤ ps.length + 1 := by
    unfold ppiecesO
    split
    · omega
    · split
      · simp
      · have := lastO_length ps
        omega
  unfold valueU
  refine ⟨by show (pwordsO f ws).length ≤ B; omega, ?_, ?_⟩
  · show (if f.kind = 17 then [] else (ppiecesO f ps).map textO).length ≤ B
    split
    · simp
    · rw [List.length_map]
      omega
  · show (if f.kind = 17 then (ppiecesO f ps).map (sub f.of_.toNat) else []).length ≤ B
    split
    · rw [List.length_map]
      omega
    · simp

theorem fit_ofM (hR : rightS S = true) {m : Nat} (hb : bs.length ≤ 100000) (h : ∀ m' b', b'.length < bs.length → FitT 1000000000000 (sub m' b')) : FitT 1000000000000 (ofM sub S m bs) := by
  unfold ofM
  split
  · exact .mk _ (Nat.zero_le _) (Nat.zero_le _) (fun v hv => by cases hv) (fun v hv => by cases hv)
  · rename_i M hM
    have hn := (right_msg hR hM).2.2.1
    have hall : ∀ v ∈ (sortK (keyF M.fields) M.fields.length).filterMap (placeO sub M.fields bs (viewsV M.fields bs).1), ∃ i f, M.fields[i]? = some f ∧ viewsO (viewsV M.fields bs).1 i ≠ [] ∧ v = valueU sub f ((viewsO (viewsV M.fields bs).1 i).flatMap (wordsO f bs)) ((viewsO (viewsV M.fields bs).1 i).flatMap (piecesO f bs)) := fun v hv => by
      obtain ⟨i, _, hi⟩ := List.mem_filterMap.1 hv
      obtain ⟨f, h1, h2, h3, _⟩ := place_some hi
      exact ⟨i, f, h1, h2, h3⟩
    refine .mk _ ?_ ?_ (fun v hv => ?_) (fun v hv y hy => ?_)
    · refine Nat.le_trans (List.length_filterMap_le _ _) ?_
      rw [sortK_length]
      omega
    · show (List.map _ _).length ≤ _
      rw [List.length_map]
      have h1 := List.length_filter_le (fun v : ViewD => decide (v.field < 0)) (viewsV M.fields bs).1
      have h2 := (viewsV_bd M.fields bs).2.1
      omega
    · obtain ⟨i, f, hf, hne, rfl⟩ := hall v hv
      have h1 := words_le f bs (viewsO (viewsV M.fields bs).1 i) (fun v hv => (own_bd hv).2.2.2)
      have h2 := (pieces_le f bs (viewsO (viewsV M.fields bs).1 i) (fun v hv => (own_bd hv).2.2.2)).1
      have h3 := own_weigh (fs := M.fields) (bs := bs) (i := i)
      exact fit_value (by omega) (by omega)
    · obtain ⟨i, f, hf, hne, rfl⟩ := hall v hv
      have hy' : y ∈ (if f.kind = 17 then (ppiecesO f ((viewsO (viewsV M.fields bs).1 i).flatMap (piecesO f bs))).map (sub f.of_.toNat) else []) := hy
      split at hy'
      · obtain ⟨x, hx, rfl⟩ := List.mem_map.1 hy'
        rw [ppieces_eq] at hx
        have := fpiece_small hf hne hx
        exact h _ _ (by omega)
      · cases hy'

theorem fit_of (hR : rightS S = true) : ∀ (d m : Nat) (bs : List UInt8), bs.length ≤ 100000 → FitT 1000000000000 (ofV S d m bs)
  | 0, m, bs, h => fit_ofM hR h (fun m' b' _ => .mk _ (Nat.zero_le _) (Nat.zero_le _) (fun v hv => by cases hv) (fun v hv => by cases hv))
  | d + 1, m, bs, h => fit_ofM hR h (fun m' b' hb => fit_of hR d m' b' (by omega))
end

end Go.Proofs.YthnoknheodecgaaGreat
