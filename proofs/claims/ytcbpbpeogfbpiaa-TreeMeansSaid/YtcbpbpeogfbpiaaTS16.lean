/- Plain words of layers 16 and 18: right meanings, and their bytes. -/
import Derived.Test.YtcbpbpeogfbpiaaTS15

/- Plain words of layers 16 and 18: a meaning's bytes; a record put alone, viewed; the views of pieces, one behind the other. -/
namespace Go.Proofs.Ytcbpbpeogfbpiaa
open Go.RowKit
open Go.Lib (uvarint)
set_option linter.unusedVariables false

section
variable {fs : List FieldD} {i : Nat} {f : FieldD}

end

end Go.Proofs.Ytcbpbpeogfbpiaa

/- Plain words of layers 14 and 16: right meanings, and that their bytes mean them. -/
namespace Go.Proofs.Ytcbpbpeogfbpiaa
open Go.RowKit
open Go.Lib (uvarint)
set_option linter.unusedVariables false

/-- A value that fits a field. -/
def RightF (rs : Nat → MsgT → Prop) (f : FieldD) (v : ValT) : Prop :=
  v.number = f.number ∧ manyU v ≠ 0 ∧ (f.rep = false → manyU v = 1) ∧
    ((numberB f.kind = true ∧ v.texts = [] ∧ v.subs = [] ∧ ∀ w ∈ v.words, w < 18446744073709551616 ∧ canonN f.kind w = w) ∨
      (numberB f.kind = false ∧ kindB f.kind = true ∧ f.kind ≠ 17 ∧ v.words = [] ∧ v.subs = [] ∧ (f.kind = 15 → ∀ t ∈ v.texts, rightT t.data.toList = true)) ∨
      (f.kind = 17 ∧ v.words = [] ∧ v.texts = [] ∧ ∀ y ∈ v.subs, rs f.of_.toNat y))

/-- A right meaning. -/
def RightJ (rs : Nat → MsgT → Prop) (S : List MsgD) (m : Nat) (x : MsgT) : Prop := ∃ M, S[m]? = some M ∧ x.vals.Pairwise (fun u v => u.number < v.number) ∧
  (∀ v ∈ x.vals, ∃ (i : Nat) (f : FieldD), M.fields[i]? = some f ∧ RightF rs f v) ∧
  ∀ t ∈ x.unk, ∃ T V a, headV t.data.toList = (T, V, a, t.data.toList.length, 0) ∧ M.fields.find? (fun f => f.number == (T : Int)) = none

/-- .. so many messages deep at most. -/
def RightV (S : List MsgD) : Nat → Nat → MsgT → Prop
  | 0 => RightJ (fun _ _ => False) S
  | d + 1 => RightJ (RightV S d) S

section
variable {S : List MsgD} {m : Nat} {M : MsgD} {i : Nat} {f : FieldD} {se : Nat → MsgT → List UInt8} {v : ValT}

end

end Go.Proofs.Ytcbpbpeogfbpiaa

/- Plain words of layers 14 and 16: what valid bytes mean is right. -/
namespace Go.Proofs.Ytcbpbpeogfbpiaa
open Go.RowKit
set_option linter.unusedVariables false

section
variable {S : List MsgD} {m : Nat} {M : MsgD} {fs : List FieldD} {bs : List UInt8} {i : Nat} {f : FieldD} {sub : Nat → List UInt8 → MsgT}

theorem words_canon (f : FieldD) (bs : List UInt8) (v : ViewD) : ∀ w ∈ wordsO f bs v, w < 18446744073709551616 ∧ canonN f.kind w = w := by
  intro w hw
  unfold wordsO at hw
  split at hw
  · unfold wordsV at hw
    split at hw
    · obtain ⟨x, _, rfl⟩ := List.mem_map.1 hw
      exact ⟨(readS_bd f.kind x.1).1, readS_canon f.kind x.1⟩
    · cases hw
  · split at hw
    · rw [List.mem_singleton] at hw
      subst hw
      exact ⟨(readS_bd f.kind (valueO bs v)).1, readS_canon f.kind (valueO bs v)⟩
    · cases hw

theorem pwords_mem {f : FieldD} {ws : List Nat} {w : Nat} (h : w ∈ pwordsO f ws) : w ∈ ws := by
  unfold pwordsO at h
  split at h
  · exact h
  · exact lastO_mem h

/-- An unknown view's record is an unknown record. -/
theorem unknown_right {v : ViewD} (hv : v ∈ (viewsV fs bs).1) (hn : v.field < 0) : ∃ T V a, headV (textO (spanB bs v.r.f v.r.t)).data.toList = (T, V, a, (textO (spanB bs v.r.f v.r.t)).data.toList.length, 0) ∧ fs.find? (fun f => f.number == (T : Int)) = none := by
  obtain ⟨h1, h2⟩ := viewsV_each fs bs v hv
  have hh := span_head h1
  refine ⟨v.r.n, v.r.w, v.r.a - v.r.f, hh, ?_⟩
  rcases seenV_find fs v.r with ⟨q, _⟩ | ⟨k, f, q1, q2, q3, q4, q5⟩
  · exact q
  · rw [q5] at h2
    exfalso
    split at h2
    · injection h2 with h2 _
      rw [← h2] at hn
      simp at hn
      omega
    · split at h2
      · injection h2 with h2 _
        rw [← h2] at hn
        simp at hn
        omega
      · injection h2 with _ h2
        cases h2

/-- What a valid message's field means fits it. -/
theorem place_right (hM : S[m]? = some M) {d : Nat} (hb : (firstV S d m bs).2 = 0) {rs : Nat → MsgT → Prop} {u : ValT} (hu : placeO sub M.fields bs (viewsV M.fields bs).1 i = some u)
    (hrs : ∀ (f : FieldD), M.fields[i]? = some f → f.kind = 17 → ∀ x : List UInt8, x.length + 1 ≤ bs.length → (∀ e, d = e + 1 → (firstV S e f.of_.toNat x).2 = 0) → d ≠ 0 → rs f.of_.toNat (sub f.of_.toNat x)) :
    ∃ f, M.fields[i]? = some f ∧ RightF rs f u := by
  rw [firstV_eq, checkM_valid hM] at hb
  obtain ⟨f, hf, hne, rfl, hm⟩ := place_some hu
  have hsmall : ∀ x ∈ ppiecesO f ((viewsO (viewsV M.fields bs).1 i).flatMap (piecesO f bs)), x.length + 1 ≤ bs.length := fun x hx => by
    rw [ppieces_eq] at hx
    exact fpiece_small hf hne hx
  have hthings := own_things hf hne
  have hkb : kindB f.kind = true := by
    obtain ⟨v, l, hl⟩ := List.exists_cons_of_ne_nil hne
    have hv : v ∈ viewsO (viewsV M.fields bs).1 i := by rw [hl]; exact List.mem_cons_self
    rcases own_view (own_bd hv).1 (own_bd hv).2.1 hf with ⟨_, _, q⟩ | ⟨_, q⟩
    · unfold numberB at q
      have := of_decide_eq_true q
      unfold kindB
      exact decide_eq_true (by omega)
    · exact q
  refine ⟨f, hf, rfl, hm, fun hr => ?_, ?_⟩
  · have h1 := manyU_value (sub := sub) f ((viewsO (viewsV M.fields bs).1 i).flatMap (wordsO f bs)) ((viewsO (viewsV M.fields bs).1 i).flatMap (piecesO f bs))
    have hw1 : (pwordsO f ((viewsO (viewsV M.fields bs).1 i).flatMap (wordsO f bs))).length ≤ 1 := by
      unfold pwordsO
      rw [if_neg (by simp [hr])]
      exact lastO_length _
    rcases hthings with ⟨q, hp, _⟩ | ⟨q, hw, _⟩
    · have : (ppiecesO f ((viewsO (viewsV M.fields bs).1 i).flatMap (piecesO f bs))).length = 0 := by
        rw [hp]
        unfold ppiecesO
        rw [if_neg (by simp [hr]), if_neg (number_17 q)]
        rfl
      omega
    · have h2 : (pwordsO f ((viewsO (viewsV M.fields bs).1 i).flatMap (wordsO f bs))).length = 0 := by
        rw [hw]
        unfold pwordsO
        rw [if_neg (by simp [hr])]
        rfl
      have h3 : (ppiecesO f ((viewsO (viewsV M.fields bs).1 i).flatMap (piecesO f bs))).length ≤ 1 := by
        unfold ppiecesO
        rw [if_neg (by simp [hr])]
        split
        · simp
        · exact lastO_length _
      omega
  · have hown : ∀ v ∈ viewsO (viewsV M.fields bs).1 i, numberB f.kind = false → v.run = false := fun v hv hn => by
      rcases own_view (own_bd hv).1 (own_bd hv).2.1 hf with ⟨_, _, q⟩ | ⟨q, _⟩
      · rw [hn] at q
        cases q
      · exact q
    rcases hthings with ⟨q, hp, _⟩ | ⟨q, hw, _⟩
    · refine .inl ⟨q, ?_, ?_, fun w hw => ?_⟩
      · unfold valueU
        rw [hp]
        show (if f.kind = 17 then [] else (ppiecesO f []).map textO) = []
        rw [if_neg (number_17 q)]
        unfold ppiecesO
        split
        · rfl
        · rw [if_neg (number_17 q)]
          rfl
      · unfold valueU
        show (if f.kind = 17 then _ else []) = []
        rw [if_neg (number_17 q)]
      · obtain ⟨v, _, hv⟩ := List.mem_flatMap.1 (pwords_mem hw)
        exact words_canon f bs v w hv
    · have hw0 : (valueU sub f ((viewsO (viewsV M.fields bs).1 i).flatMap (wordsO f bs)) ((viewsO (viewsV M.fields bs).1 i).flatMap (piecesO f bs))).words = [] := by
        unfold valueU
        rw [hw]
        show pwordsO f [] = []
        unfold pwordsO
        split <;> rfl
      by_cases h17 : f.kind = 17
      · refine .inr (.inr ⟨h17, hw0, ?_, fun y hy => ?_⟩)
        · unfold valueU
          show (if f.kind = 17 then [] else _) = []
          rw [if_pos h17]
        · have hy' : y ∈ (if f.kind = 17 then (ppiecesO f ((viewsO (viewsV M.fields bs).1 i).flatMap (piecesO f bs))).map (sub f.of_.toNat) else []) := hy
          rw [if_pos h17] at hy'
          obtain ⟨x, hx, rfl⟩ := List.mem_map.1 hy'
          have hd0 : d ≠ 0 := by
            rintro rfl
            obtain ⟨v, l, hl⟩ := List.exists_cons_of_ne_nil hne
            have hv : v ∈ viewsO (viewsV M.fields bs).1 i := by rw [hl]; exact List.mem_cons_self
            have h1 := (valueC_sub (S := S) (d := 0) (bs := bs) (own_bd hv).2.1 hf (hown v hv q) h17).1 rfl
            have h2 := hb.2 v (own_bd hv).1
            rw [h1] at h2
            cases h2
          refine hrs f hf h17 x (hsmall x hx) (fun e he => ?_) hd0
          subst he
          have hval : ∀ v ∈ viewsO (viewsV M.fields bs).1 i, v.run = false ∧ (firstV S e f.of_.toNat (valueO bs v)).2 = 0 := fun v hv => by
            refine ⟨hown v hv q, ?_⟩
            have h1 := (valueC_sub (S := S) (d := e + 1) (bs := bs) (own_bd hv).2.1 hf (hown v hv q) h17).2 e rfl
            have h2 := hb.2 v (own_bd hv).1
            rw [h1.1] at h2
            exact h2
          unfold ppiecesO at hx
          split at hx
          · obtain ⟨v, hv, hxv⟩ := List.mem_flatMap.1 hx
            unfold piecesO at hxv
            rw [(hval v hv).1, q] at hxv
            have hxv : x ∈ [valueO bs v] := hxv
            rw [List.mem_singleton] at hxv
            subst hxv
            exact (hval v hv).2
          · rw [List.mem_singleton] at hx
            subst hx
            exact pieces_valid hval q
      · refine .inr (.inl ⟨q, hkb, h17, hw0, ?_, fun h15 t ht => ?_⟩)
        · unfold valueU
          show (if f.kind = 17 then _ else []) = []
          rw [if_neg h17]
        · have ht' : t ∈ (if f.kind = 17 then [] else (ppiecesO f ((viewsO (viewsV M.fields bs).1 i).flatMap (piecesO f bs))).map textO) := ht
          rw [if_neg h17] at ht'
          obtain ⟨x, hx, rfl⟩ := List.mem_map.1 ht'
          have hx2 : x ∈ (viewsO (viewsV M.fields bs).1 i).flatMap (piecesO f bs) := by
            unfold ppiecesO at hx
            split at hx
            · exact hx
            · exact lastO_mem hx
          obtain ⟨v, hv, hxv⟩ := List.mem_flatMap.1 hx2
          have hr := hown v hv q
          unfold piecesO at hxv
          rw [hr, q] at hxv
          have hxv : x ∈ [valueO bs v] := hxv
          rw [List.mem_singleton] at hxv
          subst hxv
          have h1 := (valueC_text (subC S d) none (bs := bs) (own_bd hv).2.1 hf hr h15).1
          have h2 := hb.2 v (own_bd hv).1
          rw [h1] at h2
          show rightT (valueO bs v) = true
          by_cases hT : rightT (spanB bs v.r.a v.r.t) = true
          · exact hT
          · simp [hT] at h2
end

theorem right_step {S : List MsgD} (hR : rightS S = true) {d D m : Nat} {M : MsgD} {bs : List UInt8} (hM : S[m]? = some M) (hb : (firstV S d m bs).2 = 0) (rs : Nat → MsgT → Prop)
    (hrs : ∀ (i : Nat) (f : FieldD), M.fields[i]? = some f → f.kind = 17 → ∀ x : List UInt8, x.length + 1 ≤ bs.length → (∀ e, d = e + 1 → (firstV S e f.of_.toNat x).2 = 0) → d ≠ 0 → rs f.of_.toNat (ofV S D f.of_.toNat x)) : RightJ rs S m (ofV S (D + 1) m bs) := by
  refine ⟨M, hM, ?_, fun v hv => ?_, fun t ht => ?_⟩
  · show (ofM (ofV S D) S m bs).vals.Pairwise _
    unfold ofM
    rw [hM]
    show List.Pairwise _ ((sortK (keyF M.fields) M.fields.length).filterMap _)
    rw [List.pairwise_filterMap]
    refine (right_sorted hR hM).imp (fun {a b} hab u hu v hv => ?_)
    rw [(place_number hu).1, (place_number hv).1]
    exact hab
  · have hv' : v ∈ (sortK (keyF M.fields) M.fields.length).filterMap (placeO (ofV S D) M.fields bs (viewsV M.fields bs).1) := by
      have : v ∈ (ofM (ofV S D) S m bs).vals := hv
      unfold ofM at this
      rw [hM] at this
      exact this
    obtain ⟨i, _, hi⟩ := List.mem_filterMap.1 hv'
    obtain ⟨f, hf, hr⟩ := place_right (rs := rs) hM hb hi (fun f hf h17 x hx he hd => hrs i f hf h17 x hx he hd)
    exact ⟨i, f, hf, hr⟩
  · have ht' : t ∈ (((viewsV M.fields bs).1.filter fun v => decide (v.field < 0)).map fun v => textO (spanB bs v.r.f v.r.t)) := by
      have : t ∈ (ofM (ofV S D) S m bs).unk := ht
      unfold ofM at this
      rw [hM] at this
      exact this
    obtain ⟨v, hv, rfl⟩ := List.mem_map.1 ht'
    exact unknown_right (List.mem_filter.1 hv).1 (by simpa using (List.mem_filter.1 hv).2)

/-- What valid bytes mean is right. -/
theorem of_right {S : List MsgD} (hR : rightS S = true) : ∀ (d D m : Nat) (bs : List UInt8), m < S.length → (firstV S d m bs).2 = 0 → bs.length ≤ D → RightV S d m (ofV S D m bs)
  | 0, D, m, bs, hm, hb, hD => by
    obtain ⟨M, hM⟩ : ∃ M, S[m]? = some M := ⟨_, List.getElem?_eq_getElem hm⟩
    rw [ofV_fuel S D (D + 1) m bs hD (by omega)]
    exact right_step hR hM hb _ (fun i f hf h17 x hx he hd => absurd rfl hd)
  | e + 1, D, m, bs, hm, hb, hD => by
    obtain ⟨M, hM⟩ : ∃ M, S[m]? = some M := ⟨_, List.getElem?_eq_getElem hm⟩
    rw [ofV_fuel S D (D + 1) m bs hD (by omega)]
    refine right_step hR hM hb _ (fun i f hf h17 x hx he _ => ?_)
    obtain ⟨o, ho1, ho2⟩ := right_of hR hM hf h17
    have hno : f.of_.toNat = o := by rw [ho1]; rfl
    have h0 := he e rfl
    rw [hno] at h0 ⊢
    exact of_right hR e D o x ho2 h0 (by omega)

end Go.Proofs.Ytcbpbpeogfbpiaa

/- Plain words of layers 14 and 16: a right meaning's bytes are valid. -/
namespace Go.Proofs.Ytcbpbpeogfbpiaa
open Go.RowKit
set_option linter.unusedVariables false

end Go.Proofs.Ytcbpbpeogfbpiaa
