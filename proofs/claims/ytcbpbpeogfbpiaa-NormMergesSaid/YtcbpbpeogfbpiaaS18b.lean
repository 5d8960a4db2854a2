/- Plain words of layer 18: the normal form of two messages, one behind the other; how long it is; and what it means. -/
import Derived.Test.YtcbpbpeogfbpiaaS18

/- Plain words of layer 18: the normal form of two messages is no longer than theirs together. -/
namespace Go.Proofs.Ytcbpbpeogfbpiaa
open Go.RowKit
open Go.Lib (uvarint uvarint_small uvarint_big uvarint_pos)
set_option linter.unusedVariables false

theorem uvarint_mono : ∀ (y x : Nat), x ≤ y → (uvarint x).length ≤ (uvarint y).length := by
  intro y
  induction y using Nat.strongRecOn with
  | ind y ih =>
    intro x h
    by_cases hx : x < 128
    · rw [uvarint_small hx]
      exact uvarint_pos y
    · rw [uvarint_big (by omega), uvarint_big (x := y) (by omega), List.length_cons, List.length_cons]
      have := ih (y / 128) (by omega) (x / 128) (by omega)
      omega

theorem uvarint_both (x y : Nat) : (uvarint (x + y)).length ≤ (uvarint x).length + (uvarint y).length := by
  by_cases h : x + y < 128
  · rw [uvarint_small h]
    have := uvarint_pos x
    have := uvarint_pos y
    simp
    omega
  · rw [uvarint_big (by omega), List.length_cons]
    by_cases hxy : x ≤ y
    · have := uvarint_mono y ((x + y) / 128) (by omega)
      have := uvarint_pos x
      omega
    · have := uvarint_mono x ((x + y) / 128) (by omega)
      have := uvarint_pos y
      omega

theorem putB_len (n : Int) (v : List UInt8) : (putB n 2 v).length = (tagB n 2).length + (uvarint v.length).length + v.length := by
  unfold putB
  rw [if_pos rfl, List.length_append, List.length_append]
  omega

theorem putB_both {n : Int} {x y z : List UInt8} (h : z.length ≤ x.length + y.length) : (putB n 2 z).length ≤ (putB n 2 x).length + (putB n 2 y).length := by
  rw [putB_len, putB_len, putB_len]
  have h1 := uvarint_mono _ _ h
  have h2 := uvarint_both x.length y.length
  omega

theorem packW_both (k : Int) (b : List Nat) : ∀ a : List Nat, packW k (a ++ b) = packW k a ++ packW k b
  | [] => rfl
  | x :: l => by
    rw [List.cons_append, packW, packW, packW_both k b l, List.append_assoc]

section
variable {se : Nat → MsgT → List UInt8} {sub : Nat → List UInt8 → MsgT} {f : FieldD} {a b : List UInt8} {fs : List FieldD} {S : List MsgD} {m : Nat} {M : MsgD}

theorem wire_other {k : Int} (h : kindB k = true) (hn : numberB k = false) : wireI k = 2 := by
  unfold kindB at h
  have h := of_decide_eq_true h
  unfold numberB at hn
  have hn := of_decide_eq_false hn
  unfold wireI
  rw [if_neg (by omega), if_neg (by omega), if_neg (by omega)]

theorem last_of {α : Type} {l : List α} (h : l ≠ []) : ∃ k x, l = k ++ [x] := ⟨_, _, (List.dropLast_concat_getLast h).symm⟩

/-- A field's records, of two messages'. -/
theorem fieldE_both {wa wb : List Nat} {pa pb : List (List UInt8)}
    (ha : (numberB f.kind = true ∧ pa = [] ∧ (f.rep = false → wa ≠ [])) ∨ (numberB f.kind = false ∧ wa = [] ∧ pa ≠ []))
    (hb : (numberB f.kind = true ∧ pb = [] ∧ (f.rep = false → wb ≠ [])) ∨ (numberB f.kind = false ∧ wb = [] ∧ pb ≠ []))
    (hsub : f.kind = 17 → f.rep = false → (se f.of_.toNat (sub f.of_.toNat (pa.flatten ++ pb.flatten))).length ≤ (se f.of_.toNat (sub f.of_.toNat pa.flatten)).length + (se f.of_.toNat (sub f.of_.toNat pb.flatten)).length) :
    (fieldE se sub f (wa ++ wb) (pa ++ pb)).length ≤ (fieldE se sub f wa pa).length + (fieldE se sub f wb pb).length := by
  rcases ha with ⟨hn, rfl, hwa⟩ | ⟨hn, rfl, hpa⟩
  · rcases hb with ⟨_, rfl, hwb⟩ | ⟨q, _⟩
    · rcases hr : f.rep with _ | _
      · obtain ⟨k, x, rfl⟩ := last_of (hwb hr)
        rw [List.append_nil, ← List.append_assoc, fieldE_word hn hr, fieldE_word hn hr]
        omega
      · rw [List.append_nil, fieldE_run hn hr, fieldE_run hn hr, fieldE_run hn hr]
        by_cases h1 : wa = []
        · subst h1
          rw [List.nil_append, if_pos rfl]
          omega
        · by_cases h2 : wb = []
          · subst h2
            rw [List.append_nil, if_neg h1]
            omega
          · rw [if_neg (by simp [h1]), if_neg h1, if_neg h2]
            exact putB_both (by rw [packW_both, List.length_append]; exact Nat.le_refl _)
    · rw [hn] at q
      cases q
  · rcases hb with ⟨q, _⟩ | ⟨_, rfl, hpb⟩
    · rw [hn] at q
      cases q
    · rw [List.append_nil]
      by_cases hk : f.kind = 17
      · rcases hr : f.rep with _ | _
        · rw [fieldE_join hk hr, fieldE_join hk hr, fieldE_join hk hr, List.flatten_append]
          exact putB_both (hsub hk hr)
        · rw [fieldE_subs hk hr, fieldE_subs hk hr, fieldE_subs hk hr, List.map_append, List.flatten_append, List.length_append]
          exact Nat.le_refl _
      · rcases hr : f.rep with _ | _
        · obtain ⟨k, x, rfl⟩ := last_of hpb
          rw [← List.append_assoc, fieldE_text hn hk hr, fieldE_text hn hk hr]
          omega
        · rw [fieldE_texts hn hk hr, fieldE_texts hn hk hr, fieldE_texts hn hk hr, List.map_append, List.flatten_append, List.length_append]
          exact Nat.le_refl _

theorem placeE_both {i : Nat} (ha : (viewsV fs a).2.2 = 0) (hb : (viewsV fs b).2.2 = 0) (hf : fs[i]? = some f)
    (hsub : f.kind = 17 → f.rep = false → viewsO (viewsV fs a).1 i ≠ [] → viewsO (viewsV fs b).1 i ≠ [] →
      (se f.of_.toNat (sub f.of_.toNat (((viewsO (viewsV fs a).1 i).flatMap (piecesO f a)).flatten ++ ((viewsO (viewsV fs b).1 i).flatMap (piecesO f b)).flatten))).length ≤
        (se f.of_.toNat (sub f.of_.toNat ((viewsO (viewsV fs a).1 i).flatMap (piecesO f a)).flatten)).length + (se f.of_.toNat (sub f.of_.toNat ((viewsO (viewsV fs b).1 i).flatMap (piecesO f b)).flatten)).length) :
    (placeE se sub fs (a ++ b) (viewsV fs (a ++ b)).1 i).length ≤ (placeE se sub fs a (viewsV fs a).1 i).length + (placeE se sub fs b (viewsV fs b).1 i).length := by
  have hw := both_words ha hb f i
  have hp := both_pieces ha hb f i
  have hv := both_own ha hb i
  by_cases h1 : viewsO (viewsV fs a).1 i = []
  · by_cases h2 : viewsO (viewsV fs b).1 i = []
    · rw [placeE_none (by rw [hv, h1, h2]; rfl)]
      exact Nat.zero_le _
    · rw [placeE_at hf (by rw [hv, h1]; simpa using h2), placeE_none h1, placeE_at hf h2, hw, hp, h1, List.flatMap_nil, List.flatMap_nil, List.nil_append, List.nil_append]
      omega
  · by_cases h2 : viewsO (viewsV fs b).1 i = []
    · rw [placeE_at hf (by rw [hv, h2]; simpa using h1), placeE_none h2, placeE_at hf h1, hw, hp, h2, List.flatMap_nil, List.flatMap_nil, List.append_nil, List.append_nil]
      omega
    · rw [placeE_at hf (by rw [hv]; simp [h1]), placeE_at hf h1, placeE_at hf h2, hw, hp]
      exact fieldE_both (own_things hf h1) (own_things hf h2) (fun hk hr => hsub hk hr h1 h2)

theorem flat_both {α : Type} {g h k : α → List UInt8} : ∀ {l : List α}, (∀ x ∈ l, (g x).length ≤ (h x).length + (k x).length) → (l.flatMap g).length ≤ (l.flatMap h).length + (l.flatMap k).length
  | [], _ => Nat.zero_le _
  | x :: l, e => by
    have ih := flat_both (g := g) (h := h) (k := k) (l := l) (fun y hy => e y (List.mem_cons_of_mem _ hy))
    have h1 := e x List.mem_cons_self
    simp only [List.flatMap_cons, List.length_append]
    omega

/-- The values of a single message's records are valid one level less deep. -/
theorem sub_valid {d i : Nat} {c : List UInt8} (hR : rightS S = true) (hM : S[m]? = some M) (hf : M.fields[i]? = some f) (h17 : f.kind = 17) (hc : (firstV S d m c).2 = 0) (hne : viewsO (viewsV M.fields c).1 i ≠ []) :
    ∃ e, d = e + 1 ∧ ∀ v ∈ viewsO (viewsV M.fields c).1 i, v.run = false ∧ (firstV S e f.of_.toNat (valueO c v)).2 = 0 := by
  rw [firstV_eq, checkM_valid hM] at hc
  have hrun : ∀ v ∈ viewsO (viewsV M.fields c).1 i, v.run = false := fun v hv => by
    rcases own_view (own_bd hv).1 (own_bd hv).2.1 hf with ⟨_, _, q⟩ | ⟨q, _⟩
    · exact absurd h17 (number_17 q)
    · exact q
  obtain ⟨v, l, hvl⟩ := List.exists_cons_of_ne_nil hne
  have hv : v ∈ viewsO (viewsV M.fields c).1 i := by rw [hvl]; exact List.mem_cons_self
  rcases d with _ | e
  · have h1 := (valueC_sub (S := S) (d := 0) (bs := c) (own_bd hv).2.1 hf (hrun v hv) h17).1 rfl
    have h2 := hc.2 v (own_bd hv).1
    rw [h1] at h2
    cases h2
  · refine ⟨e, rfl, fun u hu => ⟨hrun u hu, ?_⟩⟩
    have h1 := (valueC_sub (S := S) (d := e + 1) (bs := c) (own_bd hu).2.1 hf (hrun u hu) h17).2 e rfl
    have h2 := hc.2 u (own_bd hu).1
    rw [h1.1] at h2
    exact h2

theorem enc_bothJ (hR : rightS S = true) (hM : S[m]? = some M) {d : Nat} (ha : (firstV S d m a).2 = 0) (hb : (firstV S d m b).2 = 0)
    (hsub : ∀ (e o : Nat) (x y : List UInt8), d = e + 1 → o < S.length → (firstV S e o x).2 = 0 → (firstV S e o y).2 = 0 → (se o (sub o (x ++ y))).length ≤ (se o (sub o x)).length + (se o (sub o y)).length) :
    (encC se S m (ofM sub S m (a ++ b))).flatten.length ≤ (encC se S m (ofM sub S m a)).flatten.length + (encC se S m (ofM sub S m b)).flatten.length := by
  have hva : (viewsV M.fields a).2.2 = 0 := by rw [firstV_eq, checkM_valid hM] at ha; exact ha.1
  have hvb : (viewsV M.fields b).2.2 = 0 := by rw [firstV_eq, checkM_valid hM] at hb; exact hb.1
  rw [enc_of hR hM, enc_of hR hM, enc_of hR hM]
  have hu : unkW (a ++ b) (viewsV M.fields (a ++ b)).1 = unkW a (viewsV M.fields a).1 ++ unkW b (viewsV M.fields b).1 := both_unk hva hvb
  rw [hu, List.flatMap_append]
  simp only [List.length_append]
  have h1 := flat_both (g := placeE se sub M.fields (a ++ b) (viewsV M.fields (a ++ b)).1) (h := placeE se sub M.fields a (viewsV M.fields a).1) (k := placeE se sub M.fields b (viewsV M.fields b).1) (l := sortK (keyF M.fields) M.fields.length) (fun i hi => by
    have hil := sortK_mem.1 hi
    have hf := List.getElem?_eq_getElem hil
    refine placeE_both hva hvb hf (fun h17 hr h1 h2 => ?_)
    obtain ⟨o, ho1, ho2⟩ := right_of hR hM hf h17
    have hnum : numberB (M.fields[i]).kind = false := by rw [h17]; rfl
    obtain ⟨e, rfl, ea⟩ := sub_valid hR hM hf h17 ha h1
    obtain ⟨e', he', eb⟩ := sub_valid hR hM hf h17 hb h2
    obtain rfl : e' = e := by omega
    exact hsub e' _ _ _ rfl (by rw [ho1]; exact ho2) (pieces_valid ea hnum) (pieces_valid eb hnum))
  omega

/-- The normal form of two messages is no longer than theirs together. -/
theorem enc_both {S : List MsgD} (hR : rightS S = true) : ∀ (D d m : Nat) (a b : List UInt8), m < S.length → (firstV S d m a).2 = 0 → (firstV S d m b).2 = 0 →
    (encV S D m (ofV S D m (a ++ b))).length ≤ (encV S D m (ofV S D m a)).length + (encV S D m (ofV S D m b)).length
  | 0, d, m, a, b, hm, ha, hb => by
    rw [encV, encV, encV, ofV]
    exact enc_bothJ hR (List.getElem?_eq_getElem hm) ha hb (fun _ _ _ _ _ _ _ _ => Nat.zero_le _)
  | D + 1, d, m, a, b, hm, ha, hb => by
    rw [encV, encV, encV, ofV]
    exact enc_bothJ hR (List.getElem?_eq_getElem hm) ha hb (fun e o x y _ ho hx hy => enc_both hR D e o x y ho hx hy)
end

end Go.Proofs.Ytcbpbpeogfbpiaa

/- Plain words of layer 18: right meanings within more depth; the normal form. -/
namespace Go.Proofs.Ytcbpbpeogfbpiaa
open Go.RowKit
set_option linter.unusedVariables false

section
variable {S : List MsgD}

theorem RightJ.mono {rs rs' : Nat → MsgT → Prop} (h : ∀ m x, rs m x → rs' m x) {m : Nat} {x : MsgT} (hx : RightJ rs S m x) : RightJ rs' S m x := by
  obtain ⟨M, hM, hp, hv, hu⟩ := hx
  refine ⟨M, hM, hp, fun v hvm => ?_, hu⟩
  obtain ⟨i, f, hf, h1, h2, h3, h4⟩ := hv v hvm
  refine ⟨i, f, hf, h1, h2, h3, ?_⟩
  rcases h4 with h4 | h4 | ⟨h4, h5, h6, h7⟩
  · exact .inl h4
  · exact .inr (.inl h4)
  · exact .inr (.inr ⟨h4, h5, h6, fun y hy => h _ _ (h7 y hy)⟩)

theorem RightV.succ : ∀ {d m : Nat} {x : MsgT}, RightV S d m x → RightV S (d + 1) m x
  | 0, m, x, h => by
    have h' : RightJ (fun _ _ => False) S m x := h
    exact h'.mono (fun _ _ q => q.elim)
  | d + 1, m, x, h => by
    have h' : RightJ (RightV S d) S m x := h
    exact h'.mono (fun _ _ q => RightV.succ q)

theorem RightV.more {d m : Nat} {x : MsgT} (h : RightV S d m x) : ∀ {D : Nat}, d ≤ D → RightV S D m x := by
  intro D hD
  induction D with
  | zero => obtain rfl : d = 0 := by omega
            exact h
  | succ D ih =>
    by_cases e : d = D + 1
    · subst e
      exact h
    · exact RightV.succ (ih (by omega))

theorem encC_congr (hR : rightS S = true) {m : Nat} {x : MsgT} {rs : Nat → MsgT → Prop} (hx : RightJ rs S m x) {se se' : Nat → MsgT → List UInt8} (h : ∀ o y, rs o y → se o y = se' o y) : encC se S m x = encC se' S m x := by
  obtain ⟨M, hM, _, hv, _⟩ := hx
  unfold encC
  rw [hM]
  simp only
  congr 1
  refine flat_congr fun v hvm => ?_
  obtain ⟨i, f, hf, h1, _, _, h4⟩ := hv v hvm
  have hfind : M.fields.find? (fun g => g.number == v.number) = some f := by
    rw [h1]
    exact (find_of_idx (p := fun g : FieldD => decide (g.number = f.number)) (l := M.fields)).2 i f (right_field hR hM hf).2 hf
  rw [hfind]
  simp only
  unfold valueE
  split
  · rfl
  · congr 1
    refine List.map_congr_left fun y hy => ?_
    rcases h4 with ⟨_, _, q, _⟩ | ⟨_, _, _, _, q, _⟩ | ⟨_, _, _, q⟩
    · rw [q] at hy
      cases hy
    · rw [q] at hy
      cases hy
    · rw [h _ _ (q y hy)]

/-- The depth plays no part in a right meaning's bytes. -/
theorem encV_fuel (hR : rightS S = true) : ∀ {d D m : Nat} {x : MsgT}, RightV S d m x → d ≤ D → encV S D m x = encV S d m x
  | 0, 0, m, x, h, _ => rfl
  | 0, D + 1, m, x, h, _ => by
    have h' : RightJ (fun _ _ => False) S m x := h
    rw [encV, encV, encC_congr hR h' (se' := fun _ _ => []) (fun _ _ q => q.elim)]
  | d + 1, 0, m, x, h, hD => absurd hD (by omega)
  | d + 1, D + 1, m, x, h, hD => by
    have h' : RightJ (RightV S d) S m x := h
    rw [encV, encV, encC_congr hR h' (se' := encV S d) (fun o y q => encV_fuel hR q (by omega))]

/-- The meaning, and the normal form, of valid bytes. -/
def meanB (S : List MsgD) (m : Nat) (bs : List UInt8) : MsgT := ofV S 100000 m bs

def normB (S : List MsgD) (m : Nat) (bs : List UInt8) : List UInt8 := encV S 100000 m (meanB S m bs)

theorem normB_small (hR : rightS S = true) {m : Nat} {bs : List UInt8} (hb : bs.length ≤ 100000) : (normB S m bs).length ≤ 32 * bs.length := enc_small hR 100000 m bs hb

theorem mean_right (hR : rightS S = true) {d m : Nat} {bs : List UInt8} (hm : m < S.length) (h : (firstV S d m bs).2 = 0) (hb : bs.length ≤ 100000) : RightV S d m (meanB S m bs) := of_right hR d 100000 m bs hm h hb

theorem norm_means (hR : rightS S = true) {d m : Nat} {bs : List UInt8} (hm : m < S.length) (h : (firstV S d m bs).2 = 0) (hd : d ≤ 100000) (hb : bs.length ≤ 3125) : meanB S m (normB S m bs) = meanB S m bs := by
  have h1 := (mean_right hR hm h (by omega)).more hd
  have h2 := normB_small hR (m := m) (bs := bs) (by omega)
  exact of_enc hR 100000 100000 m (meanB S m bs) h1 (by unfold normB at h2; omega) (by unfold normB at h2; omega)

theorem norm_valid (hR : rightS S = true) {d m : Nat} {bs : List UInt8} (hm : m < S.length) (h : (firstV S d m bs).2 = 0) (hd : d ≤ 100000) (hb : bs.length ≤ 100000) : (firstV S d m (normB S m bs)).2 = 0 := by
  have h1 := mean_right hR hm h hb
  have h2 := normB_small hR (m := m) (bs := bs) hb
  unfold normB at h2 ⊢
  rw [encV_fuel hR h1 hd] at h2 ⊢
  exact enc_valid hR d m _ h1 (by omega)

theorem norm_same (hR : rightS S = true) {d d' m : Nat} {a b : List UInt8} (hm : m < S.length) (ha : (firstV S d m a).2 = 0) (hd : d ≤ 100000) (hb : (firstV S d' m b).2 = 0) (hd' : d' ≤ 100000) (hla : a.length ≤ 3125) (hlb : b.length ≤ 3125) : normB S m a = normB S m b ↔ meanB S m a = meanB S m b := by
  constructor
  · intro h
    rw [← norm_means hR hm ha hd hla, ← norm_means hR hm hb hd' hlb, h]
  · intro h
    unfold normB
    rw [h]

theorem mean_join (hR : rightS S = true) {d m : Nat} {a b : List UInt8} (hm : m < S.length) (ha : (firstV S d m a).2 = 0) (hb : (firstV S d m b).2 = 0) (hl : a.length + b.length ≤ 100000) : meanB S m (a ++ b) = joinV S 100000 m (meanB S m a) (meanB S m b) := of_join hR 100000 d m a b hm hl ha hb

theorem norm_both (hR : rightS S = true) {d m : Nat} {a b : List UInt8} (hm : m < S.length) (ha : (firstV S d m a).2 = 0) (hb : (firstV S d m b).2 = 0) (hd : d ≤ 100000) (hl : a.length + b.length ≤ 3125) : normB S m (normB S m a ++ normB S m b) = normB S m (a ++ b) := by
  have h1 := normB_small hR (m := m) (bs := a) (by omega)
  have h2 := normB_small hR (m := m) (bs := b) (by omega)
  have h3 := norm_valid hR hm ha hd (by omega)
  have h4 := norm_valid hR hm hb hd (by omega)
  have e1 := mean_join hR hm h3 h4 (by omega)
  have e2 := mean_join hR hm ha hb (by omega)
  rw [norm_means hR hm ha hd (by omega), norm_means hR hm hb hd (by omega), ← e2] at e1
  show encV S 100000 m (meanB S m (normB S m a ++ normB S m b)) = _
  rw [e1]
  rfl

theorem norm_shorter (hR : rightS S = true) {d m : Nat} {a b : List UInt8} (hm : m < S.length) (ha : (firstV S d m a).2 = 0) (hb : (firstV S d m b).2 = 0) : (normB S m (a ++ b)).length ≤ (normB S m a).length + (normB S m b).length := enc_both hR 100000 d m a b hm ha hb
end

end Go.Proofs.Ytcbpbpeogfbpiaa
