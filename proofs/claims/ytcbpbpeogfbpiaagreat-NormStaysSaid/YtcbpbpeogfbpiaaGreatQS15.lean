/- Plain words of layers 15 and 17: meanings, joined. -/
import Derived.Test.YtcbpbpeogfbpiaaGreatQS11
import Derived.Test.YtcbpbpeogfbpiaaGreatQS14o

/- Plain words of layer 17: where a message may be cut. No program is named. -/
namespace Go.Proofs.YtcbpbpeogfbpiaaGreat
open Go.RowKit
set_option linter.unusedVariables false

section
variable {S : List MsgD} {d m : Nat} {M : MsgD}

theorem look_first {fs : List FieldD} {bs : List UInt8} {v : ViewD} (h : lookV fs bs 0 = (v, 0)) : headV bs = (v.r.n, v.r.w, v.r.a, v.r.t, 0) ∧ v.r.f = 0 ∧ 0 < v.r.a ∧ v.r.a ≤ v.r.t ∧ v.r.t ≤ bs.length ∧ v.r = ⟨v.r.n, v.r.w, 0, v.r.a, v.r.t⟩ := by
  obtain ⟨h1, h2, h3, h4, h5⟩ := nextV_ok (lookV_of h).1
  rw [List.drop_zero] at h1
  refine ⟨h1, h2, h3, h4, h5, ?_⟩
  obtain ⟨⟨a1, a2, a3, a4, a5⟩, _, _⟩ := v
  simp only at h2
  subst h2
  rfl

theorem firstV_nil (S : List MsgD) (d m : Nat) : (firstV S d m []).2 = 0 := by
  rw [firstV_eq]
  unfold checkM
  rcases S[m]? with _ | M
  · rfl
  · simp only
    rw [fromC_end (by simp)]

/-- A valid message that isn't empty: its first record alone is valid, and the rest is; nothing shorter is. -/
theorem valid_head (hm : S[m]? = some M) {bs : List UInt8} (h : (firstV S d m bs).2 = 0) (hne : bs ≠ []) :
    ∃ v, lookV M.fields bs 0 = (v, 0) ∧ 0 < v.r.t ∧ v.r.t ≤ bs.length ∧ (firstV S d m (bs.take v.r.t)).2 = 0 ∧ (firstV S d m (bs.drop v.r.t)).2 = 0 ∧ (∀ s, 0 < s → s < v.r.t → (firstV S d m (bs.take s)).2 ≠ 0) ∧
      (viewsV M.fields bs).1 = v :: (viewsV M.fields (bs.drop v.r.t)).1.map (ViewD.shift v.r.t) := by
  have hpos : 0 < bs.length := by cases bs with | nil => exact absurd rfl hne | cons a l => simp
  have h0 := h
  rw [firstV_eq, checkM_valid hm] at h
  rcases hl : lookV M.fields bs 0 with ⟨v, C⟩
  have hC : C = 0 := by
    by_cases e : C = 0
    · exact e
    · have := h.1
      unfold viewsV at this
      rw [scan_fail hpos hl e] at this
      exact this
  subst hC
  obtain ⟨g1, g2, g3, g4, g5, g6⟩ := look_first hl
  have hsplit : bs = bs.take v.r.t ++ bs.drop v.r.t := (List.take_append_drop _ _).symm
  have htl : (bs.take v.r.t).length = v.r.t := by rw [List.length_take]; omega
  have hone : viewsV M.fields (bs.take v.r.t) = ([v], 0, 0) := by
    refine viewsV_one (T := v.r.n) (V := v.r.w) (a := v.r.a) ?_ ?_
    · rw [htl]; exact headV_prefix g1 (Nat.le_refl _)
    · rw [htl, ← g6]; exact (lookV_of hl).2
  have hv1 : v ∈ (viewsV M.fields bs).1 := by
    unfold viewsV
    have hh := h.1
    unfold viewsV at hh
    rw [scan_ok (lookV_onward M.fields bs) hpos hl] at hh ⊢
    unfold pre at hh ⊢
    split
    · simp
    · rw [if_neg ‹_›] at hh; exact absurd hh ‹_›
  have hval := h.2 v hv1
  have hleft : (firstV S d m (bs.take v.r.t)).2 = 0 := by
    rw [firstV_eq, checkM_valid hm, hone]
    refine ⟨rfl, fun u hu => ?_⟩
    simp only [List.mem_singleton] at hu
    subst hu
    rw [← valueC_left (a := bs.take u.r.t) _ (bs.drop u.r.t) (by rw [htl]; exact Nat.le_refl _), ← hsplit]
    exact hval
  have hright : (firstV S d m (bs.drop v.r.t)).2 = 0 := by
    have := (firstV_append (bs.drop v.r.t) hleft).1
    rw [← hsplit] at this
    exact this.1 h0
  refine ⟨v, rfl, by omega, g5, hleft, hright, fun s hs hst hbad => ?_, ?_⟩
  · rw [firstV_eq, checkM_valid hm] at hbad
    have hsl : (bs.take s).length = s := by rw [List.length_take]; omega
    rcases hl2 : lookV M.fields (bs.take s) 0 with ⟨u, K⟩
    have hK : K = 0 := by
      by_cases e : K = 0
      · exact e
      · have := hbad.1
        unfold viewsV at this
        rw [scan_fail (by omega) hl2 e] at this
        exact this
    subst hK
    obtain ⟨f1, _, _, _, f5, _⟩ := look_first hl2
    have f6 := headV_append f1 (bs.drop s)
    rw [List.take_append_drop, g1] at f6
    simp only [Prod.mk.injEq] at f6
    omega
  · have hr2 := hright
    rw [firstV_eq, checkM_valid hm] at hr2
    have ha := viewsV_append (l := M.fields) (a := bs.take v.r.t) (b := bs.drop v.r.t) (by rw [hone])
    rw [← hsplit, if_pos hr2.1, hone, htl] at ha
    rw [ha]
    rfl

end

end Go.Proofs.YtcbpbpeogfbpiaaGreat

/- Plain words of layer 15: meanings, joined; what two messages' bytes mean, one behind the other. -/
namespace Go.Proofs.YtcbpbpeogfbpiaaGreat
open Go.RowKit
set_option linter.unusedVariables false

section
variable {fs : List FieldD} {a b : List UInt8} {i : Nat} {f : FieldD}

theorem viewsO_shift (k : Nat) (L : List ViewD) (i : Nat) : viewsO (L.map (ViewD.shift k)) i = (viewsO L i).map (ViewD.shift k) := by
  unfold viewsO
  rw [List.filter_map]
  rfl

theorem viewsO_append (L K : List ViewD) (i : Nat) : viewsO (L ++ K) i = viewsO L i ++ viewsO K i := List.filter_append ..

theorem value_left (a b : List UInt8) {v : ViewD} (h : v.r.t ≤ a.length) : valueO (a ++ b) v = valueO a v := span_left a b h

theorem value_right (a b : List UInt8) (v : ViewD) : valueO (a ++ b) (v.shift a.length) = valueO b v := by
  have := span_right a b v.r.a v.r.t
  rw [Nat.add_comm a.length, Nat.add_comm a.length] at this
  exact this

theorem whole_right (a b : List UInt8) (v : ViewD) : spanB (a ++ b) (v.shift a.length).r.f (v.shift a.length).r.t = spanB b v.r.f v.r.t := by
  have := span_right a b v.r.f v.r.t
  rw [Nat.add_comm a.length, Nat.add_comm a.length] at this
  exact this

theorem flat_congr {α β : Type} {g h : α → List β} : ∀ {l : List α}, (∀ x ∈ l, g x = h x) → l.flatMap g = l.flatMap h
  | [], _ => rfl
  | x :: l, e => by
    rw [List.flatMap_cons, List.flatMap_cons, e x List.mem_cons_self, flat_congr (l := l) (fun y hy => e y (List.mem_cons_of_mem _ hy))]

/-- The views of both. -/
theorem both_views (ha : (viewsV fs a).2.2 = 0) (hb : (viewsV fs b).2.2 = 0) : (viewsV fs (a ++ b)).1 = (viewsV fs a).1 ++ (viewsV fs b).1.map (ViewD.shift a.length) := by
  rw [viewsV_append ha, if_pos hb]

theorem both_own (ha : (viewsV fs a).2.2 = 0) (hb : (viewsV fs b).2.2 = 0) (i : Nat) : viewsO (viewsV fs (a ++ b)).1 i = viewsO (viewsV fs a).1 i ++ (viewsO (viewsV fs b).1 i).map (ViewD.shift a.length) := by
  rw [both_views ha hb, viewsO_append, viewsO_shift]

theorem both_words (ha : (viewsV fs a).2.2 = 0) (hb : (viewsV fs b).2.2 = 0) (f : FieldD) (i : Nat) :
    (viewsO (viewsV fs (a ++ b)).1 i).flatMap (wordsO f (a ++ b)) = (viewsO (viewsV fs a).1 i).flatMap (wordsO f a) ++ (viewsO (viewsV fs b).1 i).flatMap (wordsO f b) := by
  rw [both_own ha hb, List.flatMap_append, List.flatMap_map]
  congr 1
  · refine flat_congr fun v hv => ?_
    unfold wordsO
    rw [value_left a b (own_bd hv).2.2.2]
  · refine flat_congr fun v hv => ?_
    unfold wordsO
    rw [value_right]
    rfl

theorem both_pieces (ha : (viewsV fs a).2.2 = 0) (hb : (viewsV fs b).2.2 = 0) (f : FieldD) (i : Nat) :
    (viewsO (viewsV fs (a ++ b)).1 i).flatMap (piecesO f (a ++ b)) = (viewsO (viewsV fs a).1 i).flatMap (piecesO f a) ++ (viewsO (viewsV fs b).1 i).flatMap (piecesO f b) := by
  rw [both_own ha hb, List.flatMap_append, List.flatMap_map]
  congr 1
  · refine flat_congr fun v hv => ?_
    unfold piecesO
    rw [value_left a b (own_bd hv).2.2.2]
  · refine flat_congr fun v hv => ?_
    unfold piecesO
    rw [value_right]
    rfl

theorem both_unk (ha : (viewsV fs a).2.2 = 0) (hb : (viewsV fs b).2.2 = 0) :
    (((viewsV fs (a ++ b)).1.filter fun v => decide (v.field < 0)).map fun v => textO (spanB (a ++ b) v.r.f v.r.t)) =
      (((viewsV fs a).1.filter fun v => decide (v.field < 0)).map fun v => textO (spanB a v.r.f v.r.t)) ++ (((viewsV fs b).1.filter fun v => decide (v.field < 0)).map fun v => textO (spanB b v.r.f v.r.t)) := by
  rw [both_views ha hb, List.filter_append, List.map_append, List.filter_map, List.map_map]
  congr 1
  · refine List.map_congr_left fun v hv => ?_
    have := view_bd (List.mem_filter.1 hv).1
    rw [span_left a b this.2.2]
  · refine List.map_congr_left fun v hv => ?_
    show textO (spanB (a ++ b) (v.shift a.length).r.f (v.shift a.length).r.t) = _
    rw [whole_right]
end

section
variable {fs : List FieldD} {a b bs : List UInt8} {i : Nat} {f : FieldD} {sub : Nat → List UInt8 → MsgT} {sj : Nat → MsgT → MsgT → MsgT}

/-- What a field's own views give: for a single field, one thing at least. -/
theorem own_things (hf : fs[i]? = some f) (hne : viewsO (viewsV fs bs).1 i ≠ []) : (numberB f.kind = true ∧ (viewsO (viewsV fs bs).1 i).flatMap (piecesO f bs) = [] ∧ (f.rep = false → (viewsO (viewsV fs bs).1 i).flatMap (wordsO f bs) ≠ [])) ∨
    (numberB f.kind = false ∧ (viewsO (viewsV fs bs).1 i).flatMap (wordsO f bs) = [] ∧ (viewsO (viewsV fs bs).1 i).flatMap (piecesO f bs) ≠ []) := by
  rcases hn : numberB f.kind with _ | _
  · refine .inr ⟨rfl, ?_, ?_⟩
    · rw [List.flatMap_eq_nil_iff]
      intro v hv
      rcases own_view (own_bd hv).1 (own_bd hv).2.1 hf with ⟨_, _, q⟩ | ⟨q, _⟩
      · rw [hn] at q
        cases q
      · unfold wordsO
        rw [q, hn]
        rfl
    · obtain ⟨v, l, hl⟩ := List.exists_cons_of_ne_nil hne
      have hv : v ∈ viewsO (viewsV fs bs).1 i := by rw [hl]; exact List.mem_cons_self
      intro q
      rw [List.flatMap_eq_nil_iff] at q
      have h1 := q v hv
      rcases own_view (own_bd hv).1 (own_bd hv).2.1 hf with ⟨_, _, q⟩ | ⟨q, _⟩
      · rw [hn] at q
        cases q
      · unfold piecesO at h1
        rw [q, hn] at h1
        cases h1
  · refine .inl ⟨rfl, pieces_number hn _, fun hr => ?_⟩
    obtain ⟨v, l, hl⟩ := List.exists_cons_of_ne_nil hne
    have hv : v ∈ viewsO (viewsV fs bs).1 i := by rw [hl]; exact List.mem_cons_self
    intro q
    rw [List.flatMap_eq_nil_iff] at q
    have h1 := q v hv
    rcases own_view (own_bd hv).1 (own_bd hv).2.1 hf with ⟨_, q, _⟩ | ⟨q, _⟩
    · rw [hr] at q
      cases q
    · unfold wordsO at h1
      rw [q, hn] at h1
      cases h1

/-- A value's things, of its words and values. -/
theorem manyU_value (f : FieldD) (ws : List Nat) (ps : List (List UInt8)) : manyU (valueU sub f ws ps) = (pwordsO f ws).length + (ppiecesO f ps).length := by
  unfold manyU valueU
  by_cases h : f.kind = 17
  · simp [h]
  · simp [h]

end

end Go.Proofs.YtcbpbpeogfbpiaaGreat

/- Plain words of layer 15: values put one by one; what two messages mean, one behind the other, is their meanings, joined. -/
namespace Go.Proofs.YtcbpbpeogfbpiaaGreat
open Go.RowKit
set_option linter.unusedVariables false

section
variable {v : ValT} {F : List Nat} {N : Nat → Int} {g : Nat → Option ValT}

end

end Go.Proofs.YtcbpbpeogfbpiaaGreat

/- Plain words of layer 15: what two valid messages mean, one behind the other, is their meanings, joined. -/
namespace Go.Proofs.YtcbpbpeogfbpiaaGreat
open Go.RowKit
set_option linter.unusedVariables false

theorem filterMap_same {α β : Type} {g h : α → Option β} : ∀ {l : List α}, (∀ x ∈ l, g x = h x) → l.filterMap g = l.filterMap h
  | [], _ => rfl
  | x :: l, e => by
    rw [List.filterMap_cons, List.filterMap_cons, e x List.mem_cons_self, filterMap_same (l := l) (fun y hy => e y (List.mem_cons_of_mem _ hy))]

section
variable {S : List MsgD} {m : Nat} {M : MsgD} {fs : List FieldD} {bs : List UInt8} {i : Nat} {f : FieldD} {sub : Nat → List UInt8 → MsgT} {sj : Nat → MsgT → MsgT → MsgT}

/-- The fields' places by rising numbers. -/
theorem right_sorted (hR : rightS S = true) (hM : S[m]? = some M) : (sortK (keyF M.fields) M.fields.length).Pairwise (fun i j => keyF M.fields i < keyF M.fields j) := by
  refine (sortK_pair (keyF M.fields) M.fields.length).imp_of_mem (fun {i j} hi hj h => ?_)
  have h1 := sortK_mem.1 hi
  have h2 := sortK_mem.1 hj
  have e1 := List.getElem?_eq_getElem h1
  have e2 := List.getElem?_eq_getElem h2
  have k1 := keyF_at e1
  have k2 := keyF_at e2
  have q1 := (right_field hR hM e1).2
  have q2 := (right_field hR hM e2).2
  unfold ltK at h
  by_cases he : keyF M.fields i = keyF M.fields j
  · exfalso
    rw [k1, k2] at he
    rw [he, q2] at q1
    omega
  · omega

theorem place_number {L : List ViewD} {u : ValT} (h : placeO sub fs bs L i = some u) : u.number = keyF fs i ∧ manyU u ≠ 0 ∧ ∃ f, fs[i]? = some f := by
  obtain ⟨f, hf, _, rfl, hm⟩ := place_some h
  exact ⟨(keyF_at hf).symm, hm, f, hf⟩

/-- The values of a single message's records, one behind the other, are valid. -/
theorem pieces_valid {e o : Nat} : ∀ {L : List ViewD}, (∀ v ∈ L, v.run = false ∧ (firstV S e o (valueO bs v)).2 = 0) → numberB f.kind = false → (firstV S e o (L.flatMap (piecesO f bs)).flatten).2 = 0
  | [], _, _ => firstV_nil S e o
  | v :: L, h, hn => by
    have h1 := h v List.mem_cons_self
    have ih := pieces_valid (L := L) (fun u hu => h u (List.mem_cons_of_mem _ hu)) hn
    have hp : piecesO f bs v = [valueO bs v] := by
      unfold piecesO
      rw [h1.1, hn]
      rfl
    rw [List.flatMap_cons, hp, List.flatten_append]
    rw [show ([valueO bs v] : List (List UInt8)).flatten = valueO bs v by simp]
    exact (firstV_append _ h1.2).1.2 ih
end

end Go.Proofs.YtcbpbpeogfbpiaaGreat
