/- Plain words of layer 11: valid messages. No program is named. -/
import Derived.Test.YtlhbllaojjelcaaDoorW10
import Derived.Test.YtlhbllaojjelcaaDoorS4
namespace Go.Proofs.YtlhbllaojjelcaaDoor
open Go.RowKit
set_option linter.unusedVariables false

/-- A step that is checked once more. -/
theorem scan_and {α : Type} {s1 s2 : Nat → α × Nat} {tt : α → Nat} {len : Nat} {g : α → Nat} (hO : Onward s1 tt len) (h1 : ∀ p x, p < len → s1 p = (x, 0) → s2 p = (x, g x)) (h2 : ∀ p, p < len → (s1 p).2 ≠ 0 → (s2 p).2 ≠ 0) :
    Onward s2 tt len ∧ ∀ (m p : Nat), len - p ≤ m → (((scan s2 tt len p).2.2 = 0 ↔ (scan s1 tt len p).2.2 = 0 ∧ ∀ x ∈ (scan s1 tt len p).1, g x = 0) ∧ ((scan s2 tt len p).2.2 = 0 → (scan s2 tt len p).1 = (scan s1 tt len p).1)) := by
  have hO2 : Onward s2 tt len := by
    intro p hp h0
    rcases hs : s1 p with ⟨x, C⟩
    by_cases hC : C = 0
    · subst hC
      have := hO p hp (by rw [hs])
      rw [hs] at this
      rw [h1 p x hp hs]
      exact this
    · exact absurd h0 (h2 p hp (by rw [hs]; exact hC))
  refine ⟨hO2, fun m => ?_⟩
  induction m with
  | zero =>
    intro p h
    rw [scan_end (by omega), scan_end (by omega)]
    simp
  | succ m ih =>
    intro p h
    by_cases hp : len ≤ p
    · rw [scan_end hp, scan_end hp]
      simp
    · rcases hs : s1 p with ⟨x, C⟩
      by_cases hC : C = 0
      · subst hC
        have hx := hO p (by omega) (by rw [hs])
        rw [hs] at hx
        simp only at hx
        have hs2 := h1 p x (by omega) hs
        obtain ⟨i1, i2⟩ := ih (tt x) (by omega)
        rw [scan_ok hO (by omega) hs]
        by_cases hg : g x = 0
        · rw [hg] at hs2
          rw [scan_ok hO2 (by omega) hs2]
          unfold pre
          by_cases c1 : (scan s1 tt len (tt x)).2.2 = 0
          · by_cases c2 : (scan s2 tt len (tt x)).2.2 = 0
            · rw [if_pos c1, if_pos c2]
              have := (i1.1 c2).2
              simp only [List.singleton_append, List.mem_cons, forall_eq_or_imp, true_and, true_iff, hg]
              exact ⟨this, fun _ => by rw [i2 c2]⟩
            · rw [if_pos c1, if_neg c2]
              refine ⟨⟨fun h0 => absurd h0 c2, fun h0 => absurd (i1.2 ⟨c1, fun y hy => h0.2 y (by simp [hy])⟩) c2⟩, fun h0 => absurd h0 c2⟩
          · by_cases c2 : (scan s2 tt len (tt x)).2.2 = 0
            · exact absurd (i1.1 c2).1 c1
            · rw [if_neg c1, if_neg c2]
              exact ⟨⟨fun h0 => absurd h0 c2, fun h0 => absurd h0.1 c1⟩, fun h0 => absurd h0 c2⟩
        · rw [scan_fail (by omega) hs2 hg]
          refine ⟨⟨fun h0 => absurd h0 hg, fun h0 => ?_⟩, fun h0 => absurd h0 hg⟩
          unfold pre at h0
          by_cases c1 : (scan s1 tt len (tt x)).2.2 = 0
          · rw [if_pos c1] at h0
            exact absurd (h0.2 x (by simp)) hg
          · rw [if_neg c1] at h0
            exact absurd h0.1 c1
      · have hs2 := h2 p (by omega) (by rw [hs]; exact hC)
        rw [scan_fail (by omega) hs hC, scan_fail (step := s2) (x := (s2 p).1) (C := (s2 p).2) (by omega) rfl hs2]
        exact ⟨⟨fun h0 => absurd h0 hs2, fun h0 => absurd h0.1 hC⟩, fun h0 => absurd h0 hs2⟩

/-- A record's value, checked: the place and the code of what isn't right. -/
def valueC (sub : Option (Nat → List UInt8 → Nat × Nat)) (fs : List FieldD) (bs : List UInt8) (v : ViewD) : Nat × Nat :=
  if v.field < 0 then (0, 0) else match fs[v.field.toNat]? with
  | none => (0, 0)
  | some f =>
    if v.run = true then (v.r.f, codeV f.kind (spanB bs v.r.a v.r.t))
    else if f.kind = 15 then (v.r.f, if rightT (spanB bs v.r.a v.r.t) = true then 0 else 7)
    else if f.kind = 17 then match sub with
      | none => (v.r.f, 8)
      | some g => (v.r.a + (g f.of_.toNat (spanB bs v.r.a v.r.t)).1, (g f.of_.toNat (spanB bs v.r.a v.r.t)).2)
    else (0, 0)

def stepC (sub : Option (Nat → List UInt8 → Nat × Nat)) (fs : List FieldD) (bs : List UInt8) (p : Nat) : ViewD × Nat :=
  if (lookV fs bs p).2 = 0 then ((lookV fs bs p).1, (valueC sub fs bs (lookV fs bs p).1).2) else (ViewD.zero, (lookV fs bs p).2)

def placeC (sub : Option (Nat → List UInt8 → Nat × Nat)) (fs : List FieldD) (bs : List UInt8) (p : Nat) : Nat :=
  if (lookV fs bs p).2 = 0 then (valueC sub fs bs (lookV fs bs p).1).1 else p

/-- From a place on: the place and the code of what isn't right first. -/
def fromC (sub : Option (Nat → List UInt8 → Nat × Nat)) (fs : List FieldD) (bs : List UInt8) (p : Nat) : Nat × Nat :=
  if (scan (stepC sub fs bs) ViewD.to bs.length p).2.2 = 0 then (0, 0) else (placeC sub fs bs (scan (stepC sub fs bs) ViewD.to bs.length p).2.1, (scan (stepC sub fs bs) ViewD.to bs.length p).2.2)

def checkM (sub : Option (Nat → List UInt8 → Nat × Nat)) (S : List MsgD) (m : Nat) (bs : List UInt8) : Nat × Nat := match S[m]? with
  | none => (0, 0)
  | some M => fromC sub M.fields bs 0

/-- What isn't right first in a message's bytes, so many messages deep at most: its place, the code. -/
def firstV (S : List MsgD) : Nat → Nat → List UInt8 → Nat × Nat
  | 0 => checkM none S
  | d + 1 => checkM (some (firstV S d)) S

def subC (S : List MsgD) : Nat → Option (Nat → List UInt8 → Nat × Nat)
  | 0 => none
  | d + 1 => some (firstV S d)

theorem firstV_eq (S : List MsgD) (d : Nat) : firstV S d = checkM (subC S d) S := by cases d <;> rfl

theorem stepC_and (sub : Option (Nat → List UInt8 → Nat × Nat)) (fs : List FieldD) (bs : List UInt8) :
    Onward (stepC sub fs bs) ViewD.to bs.length ∧ ∀ (m p : Nat), bs.length - p ≤ m → (((scan (stepC sub fs bs) ViewD.to bs.length p).2.2 = 0 ↔ (scan (lookV fs bs) ViewD.to bs.length p).2.2 = 0 ∧ ∀ x ∈ (scan (lookV fs bs) ViewD.to bs.length p).1, (valueC sub fs bs x).2 = 0) ∧
      ((scan (stepC sub fs bs) ViewD.to bs.length p).2.2 = 0 → (scan (stepC sub fs bs) ViewD.to bs.length p).1 = (scan (lookV fs bs) ViewD.to bs.length p).1)) := by
  refine scan_and (g := fun x => (valueC sub fs bs x).2) (lookV_onward fs bs) (fun p x hp h => ?_) (fun p hp h => ?_)
  · unfold stepC
    rw [h, if_pos rfl]
  · unfold stepC
    rw [if_neg h]
    exact h

theorem fromC_end {sub : Option (Nat → List UInt8 → Nat × Nat)} {fs : List FieldD} {bs : List UInt8} {p : Nat} (h : bs.length ≤ p) : fromC sub fs bs p = (0, 0) := by
  unfold fromC
  rw [scan_end h, if_pos rfl]

theorem fromC_look {sub : Option (Nat → List UInt8 → Nat × Nat)} {fs : List FieldD} {bs : List UInt8} {p : Nat} (h : p < bs.length) {v : ViewD} {C : Nat} (hl : lookV fs bs p = (v, C)) (hC : C ≠ 0) : fromC sub fs bs p = (p, C) := by
  have hs : stepC sub fs bs p = (ViewD.zero, C) := by unfold stepC; rw [hl, if_neg hC]
  unfold fromC
  rw [scan_fail h hs hC, if_neg hC]
  unfold placeC
  rw [hl, if_neg hC]

theorem fromC_bad {sub : Option (Nat → List UInt8 → Nat × Nat)} {fs : List FieldD} {bs : List UInt8} {p : Nat} (h : p < bs.length) {v : ViewD} (hl : lookV fs bs p = (v, 0)) {P C : Nat} (hv : valueC sub fs bs v = (P, C)) (hC : C ≠ 0) : fromC sub fs bs p = (P, C) := by
  have hs : stepC sub fs bs p = (v, C) := by unfold stepC; rw [hl, if_pos rfl, hv]
  unfold fromC
  rw [scan_fail h hs hC, if_neg hC]
  unfold placeC
  rw [hl, if_pos rfl, hv]

theorem fromC_ok {sub : Option (Nat → List UInt8 → Nat × Nat)} {fs : List FieldD} {bs : List UInt8} {p : Nat} (h : p < bs.length) {v : ViewD} (hl : lookV fs bs p = (v, 0)) {P : Nat} (hv : valueC sub fs bs v = (P, 0)) : fromC sub fs bs p = fromC sub fs bs v.r.t := by
  have hs : stepC sub fs bs p = (v, 0) := by unfold stepC; rw [hl, if_pos rfl, hv]
  unfold fromC
  rw [scan_ok (stepC_and sub fs bs).1 h hs]
  unfold pre ViewD.to
  by_cases c : (scan (stepC sub fs bs) (fun v => v.r.t) bs.length v.r.t).2.2 = 0
  · rw [if_pos c, if_pos rfl, if_pos c]
  · rw [if_neg c, if_neg c]

/-- Valid: the records can be told, and each one's value is right. -/
theorem checkM_valid {sub : Option (Nat → List UInt8 → Nat × Nat)} {S : List MsgD} {m : Nat} {M : MsgD} (hm : S[m]? = some M) (bs : List UInt8) :
    (checkM sub S m bs).2 = 0 ↔ (viewsV M.fields bs).2.2 = 0 ∧ ∀ v ∈ (viewsV M.fields bs).1, (valueC sub M.fields bs v).2 = 0 := by
  unfold checkM
  rw [hm]
  simp only
  have h := ((stepC_and sub M.fields bs).2 bs.length 0 (by omega)).1
  unfold viewsV
  rw [← h]
  unfold fromC
  by_cases c : (scan (stepC sub M.fields bs) ViewD.to bs.length 0).2.2 = 0
  · rw [if_pos c]; simp [c]
  · rw [if_neg c]

/-- How deep a record's value is. -/
def deepC (sub : Option (Nat → List UInt8 → Nat)) (fs : List FieldD) (bs : List UInt8) (v : ViewD) : Nat :=
  if v.field < 0 then 0 else match fs[v.field.toNat]? with
  | none => 0
  | some f => if v.run = true then 0 else if f.kind = 17 then match sub with
      | none => 0
      | some g => 1 + g f.of_.toNat (spanB bs v.r.a v.r.t)
    else 0

def deepL (sub : Option (Nat → List UInt8 → Nat)) (fs : List FieldD) (bs : List UInt8) : List ViewD → Nat
  | [] => 0
  | v :: L => max (deepC sub fs bs v) (deepL sub fs bs L)

def deepM (sub : Option (Nat → List UInt8 → Nat)) (S : List MsgD) (m : Nat) (bs : List UInt8) : Nat := match S[m]? with
  | none => 0
  | some M => deepL sub M.fields bs (viewsV M.fields bs).1

/-- How deep a message's bytes are, so many messages deep at most. -/
def deepV (S : List MsgD) : Nat → Nat → List UInt8 → Nat
  | 0 => deepM none S
  | d + 1 => deepM (some (deepV S d)) S

def subD (S : List MsgD) : Nat → Option (Nat → List UInt8 → Nat)
  | 0 => none
  | d + 1 => some (deepV S d)

theorem deepV_eq (S : List MsgD) (d : Nat) : deepV S d = deepM (subD S d) S := by cases d <;> rfl

theorem deepL_append (sub : Option (Nat → List UInt8 → Nat)) (fs : List FieldD) (bs : List UInt8) : ∀ L K : List ViewD, deepL sub fs bs (L ++ K) = max (deepL sub fs bs L) (deepL sub fs bs K)
  | [], K => by simp [deepL]
  | v :: L, K => by simp only [List.cons_append, deepL, deepL_append sub fs bs L K]; omega

theorem deepL_le {sub : Option (Nat → List UInt8 → Nat)} {fs : List FieldD} {bs : List UInt8} {m : Nat} : ∀ {L : List ViewD}, deepL sub fs bs L ≤ m ↔ ∀ v ∈ L, deepC sub fs bs v ≤ m
  | [] => by simp [deepL]
  | v :: L => by
    have ih := deepL_le (sub := sub) (fs := fs) (bs := bs) (m := m) (L := L)
    simp only [deepL, List.mem_cons, forall_eq_or_imp, ← ih]
    omega

theorem deepL_congr {sub sub' : Option (Nat → List UInt8 → Nat)} {fs : List FieldD} {bs bs' : List UInt8} : ∀ {L : List ViewD}, (∀ v ∈ L, deepC sub fs bs v = deepC sub' fs bs' v) → deepL sub fs bs L = deepL sub' fs bs' L
  | [], _ => rfl
  | v :: L, h => by
    have := deepL_congr (L := L) (fun x hx => h x (List.mem_cons_of_mem _ hx))
    simp only [deepL, this, h v (List.mem_cons_self ..)]

theorem view_bd {fs : List FieldD} {bs : List UInt8} {v : ViewD} (h : v ∈ (viewsV fs bs).1) : v.r.f < v.r.a ∧ v.r.a ≤ v.r.t ∧ v.r.t ≤ bs.length := by
  have := nextV_ok (viewsV_each fs bs v h).1
  omega

theorem span_left (a b : List UInt8) {x t : Nat} (h : t ≤ a.length) : spanB (a ++ b) x t = spanB a x t := by
  unfold spanB
  rw [List.take_append_of_le_length h]

theorem span_right (a b : List UInt8) (x t : Nat) : spanB (a ++ b) (a.length + x) (a.length + t) = spanB b x t := by
  unfold spanB
  rw [List.take_length_add_append, List.drop_length_add_append]

theorem valueC_left (sub : Option (Nat → List UInt8 → Nat × Nat)) {fs : List FieldD} {a : List UInt8} (b : List UInt8) {v : ViewD} (h : v.r.t ≤ a.length) : valueC sub fs (a ++ b) v = valueC sub fs a v := by
  unfold valueC
  rw [span_left a b h]

theorem valueC_right (sub : Option (Nat → List UInt8 → Nat × Nat)) {fs : List FieldD} (a b : List UInt8) (v : ViewD) : (valueC sub fs (a ++ b) (v.shift a.length)).2 = (valueC sub fs b v).2 := by
  have hs : spanB (a ++ b) (v.shift a.length).r.a (v.shift a.length).r.t = spanB b v.r.a v.r.t := by
    unfold ViewD.shift Rec.shift
    simp only
    rw [Nat.add_comm v.r.a, Nat.add_comm v.r.t]
    exact span_right a b _ _
  have h1 : (v.shift a.length).field = v.field := rfl
  have h2 : (v.shift a.length).run = v.run := rfl
  unfold valueC
  rw [hs, h1, h2]
  split
  · rfl
  · split
    · rfl
    · split
      · rfl
      · split
        · rfl
        · split
          · cases sub <;> rfl
          · rfl

theorem deepC_left (sub : Option (Nat → List UInt8 → Nat)) {fs : List FieldD} {a : List UInt8} (b : List UInt8) {v : ViewD} (h : v.r.t ≤ a.length) : deepC sub fs (a ++ b) v = deepC sub fs a v := by
  unfold deepC
  rw [span_left a b h]

theorem deepC_right (sub : Option (Nat → List UInt8 → Nat)) {fs : List FieldD} (a b : List UInt8) (v : ViewD) : deepC sub fs (a ++ b) (v.shift a.length) = deepC sub fs b v := by
  have hs : spanB (a ++ b) (v.shift a.length).r.a (v.shift a.length).r.t = spanB b v.r.a v.r.t := by
    unfold ViewD.shift Rec.shift
    simp only
    rw [Nat.add_comm v.r.a, Nat.add_comm v.r.t]
    exact span_right a b _ _
  have h1 : (v.shift a.length).field = v.field := rfl
  have h2 : (v.shift a.length).run = v.run := rfl
  unfold deepC
  rw [hs, h1, h2]

theorem valueC_mono {S : List MsgD} {d d' : Nat} (hd : d ≤ d') {fs : List FieldD} {bs : List UInt8} {v : ViewD} (h : (valueC (subC S d) fs bs v).2 = 0)
    (ih : ∀ e e' m bs, d = e + 1 → e ≤ e' → (firstV S e m bs).2 = 0 → (firstV S e' m bs).2 = 0 ∧ deepV S e' m bs = deepV S e m bs ∧ deepV S e m bs ≤ e) :
    (valueC (subC S d') fs bs v).2 = 0 ∧ deepC (subD S d') fs bs v = deepC (subD S d) fs bs v ∧ deepC (subD S d) fs bs v ≤ d := by
  unfold valueC at h ⊢
  unfold deepC
  by_cases h1 : v.field < 0
  · simp only [if_pos h1]; simp
  · simp only [if_neg h1] at h ⊢
    rcases hf : fs[v.field.toNat]? with _ | f
    · simp
    · simp only [hf] at h ⊢
      by_cases h2 : v.run = true
      · simp only [if_pos h2] at h ⊢
        exact ⟨h, trivial, Nat.zero_le _⟩
      · simp only [if_neg h2] at h ⊢
        by_cases h3 : f.kind = 15
        · have h4 : f.kind ≠ 17 := by omega
          simp only [if_pos h3, if_neg h4] at h ⊢
          exact ⟨h, trivial, Nat.zero_le _⟩
        · simp only [if_neg h3] at h ⊢
          by_cases h4 : f.kind = 17
          · simp only [if_pos h4] at h ⊢
            cases d with
            | zero => simp [subC] at h
            | succ e =>
              obtain ⟨e', rfl⟩ : ∃ e', d' = e' + 1 := ⟨d' - 1, by omega⟩
              simp only [subC, subD] at h ⊢
              obtain ⟨i1, i2, i3⟩ := ih e e' _ _ rfl (by omega) h
              exact ⟨i1, by rw [i2], by omega⟩
          · simp only [if_neg h4]; simp

/-- What is valid is so within more, and as deep; and no deeper than it may be. -/
theorem firstV_mono (S : List MsgD) : ∀ (d d' m : Nat) (bs : List UInt8), d ≤ d' → (firstV S d m bs).2 = 0 → (firstV S d' m bs).2 = 0 ∧ deepV S d' m bs = deepV S d m bs ∧ deepV S d m bs ≤ d := by
  intro d
  induction d with
  | zero =>
    intro d' m bs hd h
    have hv := fun {fs bs v} h => valueC_mono (S := S) hd (fs := fs) (bs := bs) (v := v) h (fun e e' m bs he => by omega)
    rw [firstV_eq] at h
    rw [firstV_eq, deepV_eq, deepV_eq]
    rcases hm : S[m]? with _ | M
    · simp [checkM, deepM, hm]
    · rw [checkM_valid hm] at h ⊢
      unfold deepM
      simp only [hm]
      exact ⟨⟨h.1, fun v hvm => (hv (h.2 v hvm)).1⟩, deepL_congr fun v hvm => (hv (h.2 v hvm)).2.1, deepL_le.2 fun v hvm => (hv (h.2 v hvm)).2.2⟩
  | succ d ih =>
    intro d' m bs hd h
    have hv := fun {fs bs v} h => valueC_mono (S := S) hd (fs := fs) (bs := bs) (v := v) h (fun e e' m bs he he' => by
      obtain rfl : d = e := by omega
      exact ih e' m bs he')
    rw [firstV_eq] at h
    rw [firstV_eq, deepV_eq, deepV_eq]
    rcases hm : S[m]? with _ | M
    · simp [checkM, deepM, hm]
    · rw [checkM_valid hm] at h ⊢
      unfold deepM
      simp only [hm]
      exact ⟨⟨h.1, fun v hvm => (hv (h.2 v hvm)).1⟩, deepL_congr fun v hvm => (hv (h.2 v hvm)).2.1, deepL_le.2 fun v hvm => (hv (h.2 v hvm)).2.2⟩

/-- Valid bytes are valid within their depth. -/
theorem firstV_deep (S : List MsgD) : ∀ (d' d m : Nat) (bs : List UInt8), d ≤ d' → (firstV S d' m bs).2 = 0 → deepV S d' m bs ≤ d → (firstV S d m bs).2 = 0 := by
  intro d'
  induction d' with
  | zero =>
    intro d m bs hd h _
    obtain rfl : d = 0 := by omega
    exact h
  | succ d' ih =>
    intro d m bs hd h hb
    rw [firstV_eq] at h ⊢
    rw [deepV_eq] at hb
    rcases hm : S[m]? with _ | M
    · simp [checkM, hm]
    · rw [checkM_valid hm] at h ⊢
      unfold deepM at hb
      simp only [hm] at hb
      rw [deepL_le] at hb
      refine ⟨h.1, fun v hvm => ?_⟩
      have h0 := h.2 v hvm
      have hb0 := hb v hvm
      unfold valueC at h0 ⊢
      unfold deepC at hb0
      by_cases h1 : v.field < 0
      · simp only [if_pos h1]
      · simp only [if_neg h1] at h0 hb0 ⊢
        rcases hf : M.fields[v.field.toNat]? with _ | f
        · simp
        · simp only [hf] at h0 hb0 ⊢
          by_cases h2 : v.run = true
          · simp only [if_pos h2] at h0 hb0 ⊢
            exact h0
          · simp only [if_neg h2] at h0 hb0 ⊢
            by_cases h3 : f.kind = 15
            · simp only [if_pos h3] at h0 ⊢
              exact h0
            · simp only [if_neg h3] at h0 ⊢
              by_cases h4 : f.kind = 17
              · simp only [if_pos h4, subC, subD] at h0 hb0 ⊢
                obtain ⟨e, rfl⟩ : ∃ e, d = e + 1 := ⟨d - 1, by omega⟩
                exact ih e _ _ (by omega) h0 (by omega)
              · simp only [if_neg h4]

/-- Two messages, one behind the other. -/
theorem firstV_append {S : List MsgD} {d m : Nat} {a : List UInt8} (b : List UInt8) (h : (firstV S d m a).2 = 0) :
    ((firstV S d m (a ++ b)).2 = 0 ↔ (firstV S d m b).2 = 0) ∧ ((firstV S d m b).2 = 0 → deepV S d m (a ++ b) = max (deepV S d m a) (deepV S d m b)) := by
  rw [firstV_eq] at h ⊢
  rw [deepV_eq]
  rcases hm : S[m]? with _ | M
  · simp [checkM, deepM, hm]
  · rw [checkM_valid hm] at h
    rw [checkM_valid hm, checkM_valid hm]
    unfold deepM
    simp only [hm]
    rw [viewsV_append h.1]
    by_cases hb : (viewsV M.fields b).2.2 = 0
    · rw [if_pos hb]
      constructor
      · constructor
        · rintro ⟨_, h2⟩
          refine ⟨hb, fun v hv => ?_⟩
          rw [← valueC_right _ a b v]
          exact h2 _ (List.mem_append_right _ (List.mem_map_of_mem hv))
        · rintro ⟨_, h2⟩
          refine ⟨rfl, fun v hv => ?_⟩
          rcases List.mem_append.1 hv with hv | hv
          · rw [valueC_left _ b (view_bd hv).2.2]
            exact h.2 v hv
          · obtain ⟨u, hu, rfl⟩ := List.mem_map.1 hv
            rw [valueC_right]
            exact h2 u hu
      · intro _
        rw [deepL_append]
        congr 1
        · exact deepL_congr fun v hv => deepC_left _ b (view_bd hv).2.2
        · have key : ∀ L : List ViewD, deepL (subD S d) M.fields (a ++ b) (L.map (ViewD.shift a.length)) = deepL (subD S d) M.fields b L := by
            intro L
            induction L with
            | nil => rfl
            | cons v L ih => simp only [List.map_cons, deepL, ih, deepC_right]
          exact key _
    · rw [if_neg hb]
      exact ⟨⟨fun h0 => absurd h0.1 hb, fun h0 => absurd h0.1 hb⟩, fun h0 => absurd h0.1 hb⟩

theorem fromC_scan {sub : Option (Nat → List UInt8 → Nat × Nat)} {fs : List FieldD} {bs : List UInt8} {p : Nat} (h : (fromC sub fs bs p).2 = 0) : (scan (lookV fs bs) ViewD.to bs.length p).2.2 = 0 := by
  have hh := ((stepC_and sub fs bs).2 (bs.length - p) p (Nat.le_refl _)).1
  refine (hh.1 ?_).1
  unfold fromC at h
  by_cases c : (scan (stepC sub fs bs) ViewD.to bs.length p).2.2 = 0
  · exact c
  · rw [if_neg c] at h; exact absurd h c

/-- How deep the records from a place on are. -/
def fromD (sub : Option (Nat → List UInt8 → Nat)) (fs : List FieldD) (bs : List UInt8) (p : Nat) : Nat := deepL sub fs bs (scan (lookV fs bs) ViewD.to bs.length p).1

theorem fromD_end {sd : Option (Nat → List UInt8 → Nat)} {fs : List FieldD} {bs : List UInt8} {p : Nat} (h : bs.length ≤ p) : fromD sd fs bs p = 0 := by
  unfold fromD
  rw [scan_end h]
  rfl

theorem fromD_ok {sub : Option (Nat → List UInt8 → Nat × Nat)} {sd : Option (Nat → List UInt8 → Nat)} {fs : List FieldD} {bs : List UInt8} {p : Nat} (h : p < bs.length) {v : ViewD} (hl : lookV fs bs p = (v, 0)) (hr : (fromC sub fs bs v.r.t).2 = 0) :
    fromD sd fs bs p = max (deepC sd fs bs v) (fromD sd fs bs v.r.t) := by
  have hc := fromC_scan hr
  unfold fromD
  rw [scan_ok (lookV_onward fs bs) h hl]
  unfold pre ViewD.to at *
  rw [if_pos hc]
  rfl

theorem firstV_from {S : List MsgD} {d m : Nat} {M : MsgD} (hm : S[m]? = some M) (bs : List UInt8) : firstV S d m bs = fromC (subC S d) M.fields bs 0 ∧ deepV S d m bs = fromD (subD S d) M.fields bs 0 := by
  rw [firstV_eq, deepV_eq]
  unfold checkM deepM
  rw [hm]
  exact ⟨rfl, rfl⟩

/-- What a view's field is. -/
theorem view_field {fs : List FieldD} {bs : List UInt8} {p : Nat} {v : ViewD} (h : lookV fs bs p = (v, 0)) : v.field = -1 ∨ ∃ k f, v.field = (k : Nat) ∧ fs[k]? = some f := by
  obtain ⟨_, h2⟩ := lookV_of h
  rcases idxB_cases (numP (v.r.n : Int)) fs with ⟨h1, _⟩ | ⟨k, f, h1, h3, _⟩
  · rw [seenV_none h1] at h2
    simp only [Prod.mk.injEq, and_true] at h2
    exact .inl (by rw [← h2])
  · rw [seenV_some h1 h3] at h2
    split at h2
    · simp only [Prod.mk.injEq, and_true] at h2
      exact .inr ⟨k, f, by rw [← h2], h3⟩
    · split at h2
      · simp only [Prod.mk.injEq, and_true] at h2
        exact .inr ⟨k, f, by rw [← h2], h3⟩
      · simp only [Prod.mk.injEq] at h2
        omega

theorem valueC_no (sub : Option (Nat → List UInt8 → Nat × Nat)) (sd : Option (Nat → List UInt8 → Nat)) {fs : List FieldD} {bs : List UInt8} {v : ViewD} (h : v.field = -1) : valueC sub fs bs v = (0, 0) ∧ deepC sd fs bs v = 0 := by
  unfold valueC deepC
  rw [if_pos (by omega), if_pos (by omega)]
  exact ⟨rfl, rfl⟩

theorem valueC_run (sub : Option (Nat → List UInt8 → Nat × Nat)) (sd : Option (Nat → List UInt8 → Nat)) {fs : List FieldD} {bs : List UInt8} {v : ViewD} {k : Nat} {f : FieldD} (h : v.field = (k : Nat)) (hf : fs[k]? = some f) (hr : v.run = true) : valueC sub fs bs v = (v.r.f, codeV f.kind (spanB bs v.r.a v.r.t)) ∧ deepC sd fs bs v = 0 := by
  unfold valueC deepC
  have hneg : ¬ (k : Int) < 0 := by omega
  simp only [h, Int.toNat_natCast, hf, if_neg hneg]
  simp only [if_pos hr]
  exact ⟨trivial, trivial⟩

theorem valueC_text (sub : Option (Nat → List UInt8 → Nat × Nat)) (sd : Option (Nat → List UInt8 → Nat)) {fs : List FieldD} {bs : List UInt8} {v : ViewD} {k : Nat} {f : FieldD} (h : v.field = (k : Nat)) (hf : fs[k]? = some f) (hr : v.run = false) (hk : f.kind = 15) : valueC sub fs bs v = (v.r.f, if rightT (spanB bs v.r.a v.r.t) = true then 0 else 7) ∧ deepC sd fs bs v = 0 := by
  unfold valueC deepC
  have hneg : ¬ (k : Int) < 0 := by omega
  simp only [h, Int.toNat_natCast, hf, if_neg hneg]
  have h17 : ¬ f.kind = 17 := by omega
  simp only [hr, if_pos hk, if_neg h17]
  exact ⟨rfl, rfl⟩

theorem valueC_sub {S : List MsgD} {d : Nat} {fs : List FieldD} {bs : List UInt8} {v : ViewD} {k : Nat} {f : FieldD} (h : v.field = (k : Nat)) (hf : fs[k]? = some f) (hr : v.run = false) (hk : f.kind = 17) :
    (d = 0 → valueC (subC S d) fs bs v = (v.r.f, 8)) ∧ ∀ e, d = e + 1 → valueC (subC S d) fs bs v = (v.r.a + (firstV S e f.of_.toNat (spanB bs v.r.a v.r.t)).1, (firstV S e f.of_.toNat (spanB bs v.r.a v.r.t)).2) ∧ deepC (subD S d) fs bs v = 1 + deepV S e f.of_.toNat (spanB bs v.r.a v.r.t) := by
  unfold valueC deepC
  have hneg : ¬ (k : Int) < 0 := by omega
  simp only [h, Int.toNat_natCast, hf, if_neg hneg]
  have h15 : ¬ f.kind = 15 := by omega
  simp only [hr, if_pos hk, if_neg h15]
  refine ⟨fun h0 => by subst h0; rfl, fun e he => by subst he; exact ⟨rfl, rfl⟩⟩

theorem valueC_other (sub : Option (Nat → List UInt8 → Nat × Nat)) (sd : Option (Nat → List UInt8 → Nat)) {fs : List FieldD} {bs : List UInt8} {v : ViewD} {k : Nat} {f : FieldD} (h : v.field = (k : Nat)) (hf : fs[k]? = some f) (hr : v.run = false) (h15 : ¬ f.kind = 15) (h17 : ¬ f.kind = 17) : valueC sub fs bs v = (0, 0) ∧ deepC sd fs bs v = 0 := by
  unfold valueC deepC
  have hneg : ¬ (k : Int) < 0 := by omega
  simp only [h, Int.toNat_natCast, hf, if_neg hneg]
  simp only [hr, if_neg h15, if_neg h17]
  exact ⟨rfl, rfl⟩

/-- A field that is a message names one of the schema's. -/
theorem right_of {S : List MsgD} (h : rightS S = true) {i k : Nat} {m : MsgD} {f : FieldD} (hm : S[i]? = some m) (hf : m.fields[k]? = some f) (h17 : f.kind = 17) : ∃ o : Nat, f.of_ = (o : Nat) ∧ o < S.length := by
  have ho := (faultV_inv ((right_msg h hm).2.2.2 k f hf)).2.2.2.2.2.2
  unfold ofB at ho
  rw [h17] at ho
  simp only [beq_self_eq_true, Bool.true_and, Bool.or_eq_false_iff, decide_eq_false_iff_not] at ho
  refine ⟨f.of_.toNat, by omega, by omega⟩

/-- May a schema, a message's place and a depth be? -/
def argsV (S : List MsgD) (root d : Int) : Nat := if rightS S = false then 9 else if root < 0 ∨ (S.length : Int) ≤ root ∨ d < 0 ∨ 64 < d then 2 else 0

/-- The place and the code of what isn't right first. -/
def checkB (S : List MsgD) (root : Int) (bs : List UInt8) (d : Int) : Nat × Nat := if argsV S root d = 0 then firstV S d.toNat root.toNat bs else (0, argsV S root d)

end Go.Proofs.YtlhbllaojjelcaaDoor
