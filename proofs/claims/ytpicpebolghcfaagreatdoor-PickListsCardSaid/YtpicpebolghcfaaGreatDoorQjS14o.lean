/- Plain words of layer 14: what valid bytes mean. -/
import Derived.Test.YtpicpebolghcfaaGreatDoorQjM14
import Derived.Test.YtpicpebolghcfaaGreatDoorQjW9
import Derived.Test.YtpicpebolghcfaaGreatDoorQjWSortS
import Derived.Test.YtpicpebolghcfaaGreatDoorQjS51

/- Plain words of layer 14: what valid bytes mean. -/
namespace Go.Proofs.YtpicpebolghcfaaGreatDoor
open Go.RowKit
set_option linter.unusedVariables false

def wordsO (f : FieldD) (bs : List UInt8) (v : ViewD) : List Nat :=
  if v.run = true then (wordsV f.kind (valueO bs v)).1 else if numberB f.kind = true then [(readS f.kind (valueO bs v)).1] else []

def piecesO (f : FieldD) (bs : List UInt8) (v : ViewD) : List (List UInt8) :=
  if v.run = true then [] else if numberB f.kind = true then [] else [valueO bs v]

def lastO {α : Type} (l : List α) : List α := l.drop (l.length - 1)

def fwordsO (f : FieldD) (bs : List UInt8) (vs : List ViewD) : List Nat := if f.rep = true then vs.flatMap (wordsO f bs) else lastO (vs.flatMap (wordsO f bs))

def fpiecesO (f : FieldD) (bs : List UInt8) (vs : List ViewD) : List (List UInt8) :=
  if f.rep = true then vs.flatMap (piecesO f bs) else if f.kind = 17 then [(vs.flatMap (piecesO f bs)).flatten] else lastO (vs.flatMap (piecesO f bs))

def fieldO (sub : Nat → List UInt8 → MsgT) (f : FieldD) (bs : List UInt8) (vs : List ViewD) : Option ValT :=
  let ps := fpiecesO f bs vs
  let u : ValT := ⟨(), (), (), f.number, fwordsO f bs vs, if f.kind = 17 then [] else ps.map textO, if f.kind = 17 then ps.map (sub f.of_.toNat) else []⟩
  if u.words.length + u.texts.length + u.subs.length = 0 then none else some u

def viewsO (L : List ViewD) (i : Nat) : List ViewD := L.filter fun v => v.field == (i : Int)

def placeO (sub : Nat → List UInt8 → MsgT) (fs : List FieldD) (bs : List UInt8) (L : List ViewD) (i : Nat) : Option ValT :=
  match fs[i]? with
  | none => none
  | some f => if viewsO L i = [] then none else fieldO sub f bs (viewsO L i)

def ofM (sub : Nat → List UInt8 → MsgT) (S : List MsgD) (m : Nat) (bs : List UInt8) : MsgT := match S[m]? with
  | none => .mk () () [] []
  | some M => .mk () () ((sortK (keyF M.fields) M.fields.length).filterMap (placeO sub M.fields bs (viewsV M.fields bs).1))
      (((viewsV M.fields bs).1.filter fun v => decide (v.field < 0)).map fun v => textO (spanB bs v.r.f v.r.t))

def ofV (S : List MsgD) : Nat → Nat → List UInt8 → MsgT
  | 0 => ofM (fun _ _ => .mk () () [] []) S
  | d + 1 => ofM (ofV S d) S

theorem viewsO_yes {L : List ViewD} {i k : Nat} {v : ViewD} (h : L[k]? = some v) (hv : v.field = (i : Int)) : viewsO (L.take (k + 1)) i = viewsO (L.take k) i ++ [v] := by
  unfold viewsO
  rw [take_snoc _ _ _ h, List.filter_append]
  simp [hv]

theorem viewsO_no {L : List ViewD} {i k : Nat} {v : ViewD} (h : L[k]? = some v) (hv : ¬ v.field = (i : Int)) : viewsO (L.take (k + 1)) i = viewsO (L.take k) i := by
  unfold viewsO
  rw [take_snoc _ _ _ h, List.filter_append]
  simp [hv]

theorem lastO_length {α : Type} (l : List α) : (lastO l).length ≤ 1 := by
  unfold lastO
  rw [List.length_drop]
  omega

theorem lastO_snoc {α : Type} (l : List α) (x : α) : lastO (l ++ [x]) = [x] := by
  unfold lastO
  simp

end Go.Proofs.YtpicpebolghcfaaGreatDoor

/- Plain words of layer 14: how long the parts of what is read are. -/
namespace Go.Proofs.YtpicpebolghcfaaGreatDoor
open Go.RowKit
set_option linter.unusedVariables false

def weighV (v : ViewD) : Nat := v.r.t - v.r.a + 1

def weighL (L : List ViewD) : Nat := (L.map weighV).sum

theorem weighL_cons (L : List ViewD) (v : ViewD) : weighL (v :: L) = weighV v + weighL L := rfl

theorem weighL_filter (q : ViewD → Bool) : ∀ L : List ViewD, weighL (L.filter q) ≤ weighL L
  | [] => Nat.le_refl _
  | v :: L => by
    have ih := weighL_filter q L
    rw [weighL_cons]
    by_cases h : q v = true
    · rw [List.filter_cons_of_pos h, weighL_cons]
      omega
    · rw [List.filter_cons_of_neg h]
      omega

theorem weighL_take (L : List ViewD) (k : Nat) : weighL (L.take k) ≤ weighL L := by
  have h : weighL L = weighL (L.take k) + weighL (L.drop k) := by
    unfold weighL
    rw [← List.sum_append, ← List.map_append, List.take_append_drop]
  omega

theorem weighL_mem {L : List ViewD} {v : ViewD} (h : v ∈ L) : weighV v ≤ weighL L := by
  induction L with
  | nil => cases h
  | cons u L ih =>
    rw [weighL_cons]
    rcases List.mem_cons.1 h with rfl | h
    · omega
    · have := ih h
      omega

theorem scan_weigh (l : List FieldD) (bs : List UInt8) : ∀ (m p : Nat), bs.length - p ≤ m → p ≤ bs.length → weighL (scan (lookV l bs) ViewD.to bs.length p).1 ≤ bs.length - p := by
  intro m
  induction m with
  | zero =>
    intro p hm hp
    rw [scan_end (by omega)]
    exact Nat.zero_le _
  | succ m ih =>
    intro p hm hp
    by_cases he : p = bs.length
    · rw [scan_end (by omega)]
      exact Nat.zero_le _
    · rcases hs : lookV l bs p with ⟨v, C⟩
      have hlt : p < bs.length := by omega
      by_cases hC : C = 0
      · subst hC
        have h1 := lookV_onward l bs p hlt (by rw [hs])
        rw [hs] at h1
        simp only at h1
        have hn := nextV_ok (lookV_of hs).1
        rw [scan_ok (lookV_onward l bs) hlt hs]
        have := ih v.to (by omega) h1.2
        have hto : v.to = v.r.t := rfl
        have hw : weighV v = v.r.t - v.r.a + 1 := rfl
        have hto2 := h1.2
        rw [hto] at this hto2
        unfold pre
        split
        · have : weighL (v :: (scan (lookV l bs) ViewD.to bs.length v.to).1) ≤ bs.length - p := by
            rw [weighL_cons, hto]
            omega
          exact this
        · exact Nat.zero_le _
      · rw [scan_fail hlt hs hC]
        exact Nat.zero_le _

theorem viewsV_weigh (l : List FieldD) (bs : List UInt8) : weighL (viewsV l bs).1 ≤ bs.length := by
  have := scan_weigh l bs bs.length 0 (by omega) (Nat.zero_le _)
  exact Nat.le_trans this (by omega)

theorem viewsO_weigh (L : List ViewD) (i : Nat) : weighL (viewsO L i) ≤ weighL L := weighL_filter _ L

theorem wordsV_length (k : Int) (bs : List UInt8) : (wordsV k bs).1.length ≤ bs.length + 1 := by
  have h := valsV_len k bs
  unfold wordsV
  split
  · simpa using h
  · simp

theorem words_weigh (f : FieldD) (bs : List UInt8) (v : ViewD) (h : v.r.t ≤ bs.length) : (wordsO f bs v).length ≤ weighV v := by
  unfold wordsO
  split
  · have h1 := wordsV_length f.kind (valueO bs v)
    have h2 : (valueO bs v).length = v.r.t - v.r.a := spanB_length bs h
    unfold weighV
    omega
  · split
    · unfold weighV
      simp
    · simp

theorem words_le (f : FieldD) (bs : List UInt8) : ∀ L : List ViewD, (∀ v ∈ L, v.r.t ≤ bs.length) → (L.flatMap (wordsO f bs)).length ≤ weighL L
  | [], _ => Nat.zero_le _
  | v :: L, h => by
    have ih := words_le f bs L (fun u hu => h u (List.mem_cons_of_mem _ hu))
    have := words_weigh f bs v (h v List.mem_cons_self)
    rw [List.flatMap_cons, List.length_append, weighL_cons]
    omega

theorem pieces_weigh (f : FieldD) (bs : List UInt8) (v : ViewD) (h : v.r.t ≤ bs.length) : (piecesO f bs v).length + (piecesO f bs v).flatten.length ≤ weighV v ∧ (piecesO f bs v).length ≤ 1 := by
  have h2 : (valueO bs v).length = v.r.t - v.r.a := spanB_length bs h
  unfold piecesO weighV
  split
  · simp
  · split
    · simp
    · simp
      omega

theorem pieces_le (f : FieldD) (bs : List UInt8) : ∀ L : List ViewD, (∀ v ∈ L, v.r.t ≤ bs.length) → (L.flatMap (piecesO f bs)).length + (L.flatMap (piecesO f bs)).flatten.length ≤ weighL L ∧ (L.flatMap (piecesO f bs)).length ≤ L.length
  | [], _ => ⟨Nat.zero_le _, Nat.zero_le _⟩
  | v :: L, h => by
    have ih := pieces_le f bs L (fun u hu => h u (List.mem_cons_of_mem _ hu))
    have := pieces_weigh f bs v (h v List.mem_cons_self)
    rw [List.flatMap_cons, List.length_append, weighL_cons, List.flatten_append, List.length_append, List.length_cons]
    omega

theorem piece_lt {f : FieldD} {bs : List UInt8} {L : List ViewD} (h : ∀ v ∈ L, v.r.a ≤ v.r.t ∧ v.r.t ≤ bs.length) {x : List UInt8} (hx : x ∈ L.flatMap (piecesO f bs)) : x.length + 1 ≤ weighL L := by
  obtain ⟨v, hv, hx⟩ := List.mem_flatMap.1 hx
  have h2 : (valueO bs v).length = v.r.t - v.r.a := spanB_length bs (h v hv).2
  have h3 := weighL_mem hv
  unfold piecesO at hx
  unfold weighV at h3
  split at hx
  · cases hx
  · split at hx
    · cases hx
    · rw [List.mem_singleton] at hx
      subst hx
      omega

theorem lastO_mem {α : Type} {l : List α} {x : α} (h : x ∈ lastO l) : x ∈ l := List.mem_of_mem_drop h

theorem fpiece_lt {f : FieldD} {bs : List UInt8} {L : List ViewD} (hn : L ≠ []) (h : ∀ v ∈ L, v.r.a ≤ v.r.t ∧ v.r.t ≤ bs.length) (hw : weighL L ≤ bs.length) (hk : f.kind = 17 → ∀ v ∈ L, v.run = false) {x : List UInt8} (hx : x ∈ fpiecesO f bs L) :
    x.length + 1 ≤ bs.length := by
  unfold fpiecesO at hx
  split at hx
  · exact Nat.le_trans (piece_lt h hx) hw
  · split at hx
    · rename_i h17
      rw [List.mem_singleton] at hx
      subst hx
      have h1 := pieces_le f bs L (fun v hv => (h v hv).2)
      rcases L with _ | ⟨v, L⟩
      · exact absurd rfl hn
      · have hr := hk h17 v List.mem_cons_self
        have hp : piecesO f bs v = [valueO bs v] := by
          unfold piecesO
          rw [hr, if_neg (by simp), if_neg]
          rw [h17]
          decide
        rw [List.flatMap_cons, hp] at h1 ⊢
        have h2 := h1.1
        simp only [List.length_append, List.length_cons, List.length_nil] at h2
        omega
    · exact Nat.le_trans (piece_lt h (lastO_mem hx)) hw

def pwordsO (f : FieldD) (ws : List Nat) : List Nat := if f.rep = true then ws else lastO ws

def ppiecesO (f : FieldD) (ps : List (List UInt8)) : List (List UInt8) := if f.rep = true then ps else if f.kind = 17 then [ps.flatten] else lastO ps

def valueU (sub : Nat → List UInt8 → MsgT) (f : FieldD) (ws : List Nat) (ps : List (List UInt8)) : ValT :=
  ⟨(), (), (), f.number, pwordsO f ws, if f.kind = 17 then [] else (ppiecesO f ps).map textO, if f.kind = 17 then (ppiecesO f ps).map (sub f.of_.toNat) else []⟩

def manyU {τ σ : Type} (u : ValG τ σ) : Nat := u.words.length + u.texts.length + u.subs.length

theorem fieldO_eq (sub : Nat → List UInt8 → MsgT) (f : FieldD) (bs : List UInt8) (vs : List ViewD) :
    fieldO sub f bs vs = if manyU (valueU sub f (vs.flatMap (wordsO f bs)) (vs.flatMap (piecesO f bs))) = 0 then none else some (valueU sub f (vs.flatMap (wordsO f bs)) (vs.flatMap (piecesO f bs))) := rfl

theorem manyU_bare {τ : Type} (u : ValG τ (MsgX τ)) : manyU (bareV u) = manyU u := by
  unfold manyU bareV
  simp

theorem ppieces_eq (f : FieldD) (bs : List UInt8) (vs : List ViewD) : ppiecesO f (vs.flatMap (piecesO f bs)) = fpiecesO f bs vs := rfl

theorem filterMap_snoc {α β : Type} {l : List α} {k : Nat} {x : α} (g : α → Option β) (h : l[k]? = some x) : (l.take (k + 1)).filterMap g = (l.take k).filterMap g ++ (g x).toList := by
  rw [take_snoc _ _ _ h, List.filterMap_append]
  rcases hg : g x with _ | y
  · simp [hg]
  · simp [hg]

theorem view_is {fs : List FieldD} {bs : List UInt8} {v : ViewD} (h : v ∈ (viewsV fs bs).1) :
    v.field = -1 ∨ ∃ (k : Nat) (f : FieldD), v.field = (k : Int) ∧ fs[k]? = some f ∧ ((v.run = true ∧ f.rep = true ∧ numberB f.kind = true) ∨ (v.run = false ∧ kindB f.kind = true)) := by
  have h2 := (viewsV_each fs bs v h).2
  rcases idxB_cases (numP (v.r.n : Int)) fs with ⟨h1, _⟩ | ⟨k, f, h1, hf, _⟩
  · rw [seenV_none h1] at h2
    injection h2 with h2 _
    left
    rw [← h2]
  · rw [seenV_some h1 hf] at h2
    right
    split at h2
    · rename_i hc
      injection h2 with h2 _
      rw [Bool.and_eq_true, Bool.and_eq_true] at hc
      exact ⟨k, f, by rw [← h2], hf, .inl ⟨by rw [← h2], hc.1.1, hc.1.2⟩⟩
    · split at h2
      · rename_i hc
        injection h2 with h2 _
        exact ⟨k, f, by rw [← h2], hf, .inr ⟨by rw [← h2], hc.1⟩⟩
      · injection h2 with _ h2
        cases h2

end Go.Proofs.YtpicpebolghcfaaGreatDoor

/- Plain words of layer 14: what a field's own views are; meanings are small, and the same however much is left for the depth. -/
namespace Go.Proofs.YtpicpebolghcfaaGreatDoor
open Go.RowKit
set_option linter.unusedVariables false

theorem own_view {fs : List FieldD} {bs : List UInt8} {v : ViewD} {i : Nat} {f : FieldD} (h : v ∈ (viewsV fs bs).1) (hi : v.field = (i : Int)) (hf : fs[i]? = some f) : (v.run = true ∧ f.rep = true ∧ numberB f.kind = true) ∨ (v.run = false ∧ kindB f.kind = true) := by
  rcases view_is h with e | ⟨k, f', e1, e2, e3⟩
  · omega
  · have hk : k = i := by omega
    subst hk
    rw [hf] at e2
    cases e2
    exact e3

theorem pieces_number {f : FieldD} {bs : List UInt8} (h : numberB f.kind = true) (l : List ViewD) : l.flatMap (piecesO f bs) = [] := by
  rw [List.flatMap_eq_nil_iff]
  intro v _
  unfold piecesO
  split
  · rfl
  · rfl

theorem words_other {fs : List FieldD} {bs : List UInt8} {L : List ViewD} {P C : Nat} (hv : viewsV fs bs = (L, P, C)) {k i : Nat} {f : FieldD} (hf : fs[i]? = some f) (h : numberB f.kind = false) : (viewsO (L.take k) i).flatMap (wordsO f bs) = [] := by
  rw [List.flatMap_eq_nil_iff]
  intro v hm
  have h1 : v ∈ (viewsV fs bs).1 := by rw [hv]; exact List.mem_of_mem_take (List.mem_filter.1 hm).1
  have h2 : v.field = (i : Int) := by have := (List.mem_filter.1 hm).2; simpa using this
  rcases own_view h1 h2 hf with ⟨_, _, h3⟩ | ⟨h3, _⟩
  · rw [h] at h3
    cases h3
  · unfold wordsO
    rw [h3, h]
    rfl

theorem number_17 {k : Int} (h : numberB k = true) : k ≠ 17 := by
  unfold numberB at h
  have := of_decide_eq_true h
  omega

section
variable {fs : List FieldD} {bs : List UInt8} {i : Nat} {f : FieldD} {sub sub' : Nat → List UInt8 → MsgT} {S : List MsgD}

theorem own_bd {v : ViewD} (hv : v ∈ viewsO (viewsV fs bs).1 i) : v ∈ (viewsV fs bs).1 ∧ v.field = (i : Int) ∧ v.r.a ≤ v.r.t ∧ v.r.t ≤ bs.length := by
  have h1 := (List.mem_filter.1 hv).1
  have h2 := (List.mem_filter.1 hv).2
  have h3 := view_bd h1
  exact ⟨h1, by simpa using h2, h3.2.1, h3.2.2⟩

theorem own_weigh : weighL (viewsO (viewsV fs bs).1 i) ≤ bs.length := Nat.le_trans (viewsO_weigh _ i) (viewsV_weigh fs bs)

theorem fpiece_small (hf : fs[i]? = some f) (hne : viewsO (viewsV fs bs).1 i ≠ []) {x : List UInt8} (hx : x ∈ fpiecesO f bs (viewsO (viewsV fs bs).1 i)) : x.length + 1 ≤ bs.length := by
  refine fpiece_lt hne (fun v hv => (own_bd hv).2.2) own_weigh (fun h17 v hv => ?_) hx
  rcases own_view (own_bd hv).1 (own_bd hv).2.1 hf with ⟨_, _, q⟩ | ⟨q, _⟩
  · exact absurd h17 (number_17 q)
  · exact q

theorem place_some {L : List ViewD} {u : ValT} (h : placeO sub fs bs L i = some u) : ∃ f, fs[i]? = some f ∧ viewsO L i ≠ [] ∧ u = valueU sub f ((viewsO L i).flatMap (wordsO f bs)) ((viewsO L i).flatMap (piecesO f bs)) ∧ manyU u ≠ 0 := by
  unfold placeO at h
  split at h
  · cases h
  · rename_i f hf
    split at h
    · cases h
    · rename_i hne
      rw [fieldO_eq] at h
      split at h
      · cases h
      · rename_i hm
        injection h with h
        subst h
        exact ⟨f, hf, hne, rfl, hm⟩

theorem value_congr {f : FieldD} {ws : List Nat} {ps : List (List UInt8)} (h : ∀ x ∈ ppiecesO f ps, sub f.of_.toNat x = sub' f.of_.toNat x) : valueU sub f ws ps = valueU sub' f ws ps := by
  unfold valueU
  congr 1
  split
  · exact List.map_congr_left h
  · rfl

theorem ofM_congr {m : Nat} (h : ∀ m' b', b'.length < bs.length → sub m' b' = sub' m' b') : ofM sub S m bs = ofM sub' S m bs := by
  unfold ofM
  split
  · rfl
  · rename_i M hM
    congr 1
    refine congrArg (fun g => List.filterMap g _) (funext fun i => ?_)
    unfold placeO
    split
    · rfl
    · rename_i f hf
      split
      · rfl
      · rename_i hne
        rw [fieldO_eq, fieldO_eq, value_congr (sub := sub) (sub' := sub') (f := f)]
        intro x hx
        rw [ppieces_eq] at hx
        have := fpiece_small hf hne hx
        exact h _ _ (by omega)

theorem ofV_fuel (S : List MsgD) : ∀ (d d' m : Nat) (bs : List UInt8), bs.length ≤ d → bs.length ≤ d' → ofV S d m bs = ofV S d' m bs := by
  intro d
  induction d with
  | zero =>
    intro d' m bs h1 h2
    rcases d' with _ | d'
    · rfl
    · exact ofM_congr (fun m' b' h => by omega)
  | succ d ih =>
    intro d' m bs h1 h2
    rcases d' with _ | d'
    · exact ofM_congr (fun m' b' h => by omega)
    · exact ofM_congr (fun m' b' h => ih d' m' b' (by omega) (by omega))

end

end Go.Proofs.YtpicpebolghcfaaGreatDoor
