/- Plain words of layer 18: a normal form is at most twice as long as the bytes. -/
import Derived.Test.YtcbpbpeogfbpiaaS18b

/- Plain words of layer 18: a normal form is at most twice as long. -/
namespace Go.Proofs.Ytcbpbpeogfbpiaa
open Go.RowKit
open Go.Lib (uvarint uvarint_small uvarint_big uvarint_pos)
set_option linter.unusedVariables false

theorem readI_len : ∀ (bs : List UInt8) (i x l : Nat), readI i bs = (x, l, 0) → (uvarint x).length ≤ l
  | [], i, x, l, h => by
    rw [readI] at h
    cases h
  | b :: r, i, x, l, h => by
    rw [readI] at h
    split at h
    · cases h
    · split at h
      · rename_i hb
        simp only [Prod.mk.injEq] at h
        obtain ⟨rfl, rfl, _⟩ := h
        rw [uvarint_small hb]
        simp
      · split at h
        · rename_i hc
          simp only [Prod.mk.injEq] at h
          obtain ⟨rfl, rfl, _⟩ := h
          rcases hr : readI (i + 1) r with ⟨y, k, C⟩
          rw [hr] at hc
          simp only at hc
          subst hc
          have ih := readI_len r (i + 1) y k hr
          simp only
          by_cases hx : b.toNat % 128 + 128 * y < 128
          · rw [uvarint_small hx]
            simp
          · rw [uvarint_big (by omega), List.length_cons]
            have : (b.toNat % 128 + 128 * y) / 128 = y := by omega
            rw [this]
            omega
        · rename_i hc
          simp only [Prod.mk.injEq] at h
          exact absurd h.2.2 hc

theorem readV_len {bs : List UInt8} {x l : Nat} (h : readV bs = (x, l, 0)) : (uvarint x).length ≤ l := readI_len bs 0 x l h

theorem uvarint_ge : ∀ (k x : Nat), 128 ^ k ≤ x → k + 1 ≤ (uvarint x).length
  | 0, x, _ => uvarint_pos x
  | k + 1, x, h => by
    have h1 : 1 ≤ 128 ^ k := Nat.pos_of_ne_zero (by simp)
    rw [Nat.pow_succ] at h
    rw [uvarint_big (by omega), List.length_cons]
    have := uvarint_ge k (x / 128) (by omega)
    omega

theorem uvarint_eight {x y : Nat} (h : x / 8 = y / 8) : (uvarint x).length = (uvarint y).length := by
  by_cases hx : x < 128
  · rw [uvarint_small hx, uvarint_small (by omega)]
    simp
  · rw [uvarint_big (by omega), uvarint_big (x := y) (by omega), List.length_cons, List.length_cons]
    have : x / 128 = y / 128 := by omega
    rw [this]

/-- A canonical word is at most twice as long as the word. -/
theorem canon_len (k : Int) {x : Nat} (hx : x < 18446744073709551616) : (uvarint (canonN k x)).length ≤ 2 * (uvarint x).length := by
  have hp := uvarint_pos x
  have h10 := Lib.uvarint_length64 (canonN_lt k hx)
  by_cases hle : canonN k x ≤ x
  · have := uvarint_mono _ _ hle
    omega
  · have hb : 268435456 ≤ x := by
      unfold canonN at hle
      split at hle
      · unfold wideI sign32I at hle
        by_cases h5 : (2147483648 : Int) ≤ (x : Int) % 4294967296
        · omega
        · rw [if_neg h5, if_pos (by omega)] at hle
          omega
      · split at hle
        · split at hle <;> omega
        · split at hle <;> omega
    have := uvarint_ge 4 x (by simpa using hb)
    omega

/-- A word that is read, put again, is at most twice as long as its bytes. -/
theorem word_twice {k : Int} {bs : List UInt8} (h : k < 9 ∧ 1 ≤ bs.length ∨ 9 ≤ k ∧ k < 12 ∧ bs.length = 4 ∨ 12 ≤ k ∧ bs.length = 8) : (putS k (readS k bs).1).length ≤ 2 * bs.length := by
  rcases h with ⟨h1, h2⟩ | ⟨h1, h2, h3⟩ | ⟨h1, h2⟩
  · unfold putS
    rw [if_neg (by omega), if_neg (by omega), readS_canon]
    unfold readS
    have h0 : (uvarint 0).length = 1 := by rw [uvarint_small (by omega)]; simp
    split
    · show (uvarint 0).length ≤ _
      omega
    · rw [if_neg (by omega), if_neg (by omega)]
      split
      · rename_i hc
        have hv := readV_len (bs := bs) (x := (readV bs).1) (l := (readV bs).2.1) (by rw [← hc.1])
        have := canon_len k (readV_bd bs).1
        show (uvarint (canonN k (readV bs).1)).length ≤ _
        omega
      · show (uvarint 0).length ≤ _
        omega
  · unfold putS
    rw [if_neg (by omega), if_pos (by omega), littleB_length]
    omega
  · unfold putS
    rw [if_pos (by omega), littleB_length]
    omega

theorem vals_twice {k : Int} : ∀ (f : Nat) (bs : List UInt8), bs.length ≤ f → (packW k ((valsF k f bs).map fun u => (readS k u.1).1)).length ≤ 2 * bs.length + (if ∃ u ∈ valsF k f bs, u.2 ≠ 0 then 10 else 0)
  | 0, bs, h => by
    rw [valsF]
    exact Nat.zero_le _
  | f + 1, bs, h => by
    rw [valsF]
    split
    · exact Nat.zero_le _
    · split
      · rename_i hne hc
        rcases stepN_bd k bs with ⟨_, s1, s2⟩ | ⟨q, _⟩
        · have ih := vals_twice (k := k) f (bs.drop (stepN k bs).1) (by rw [List.length_drop]; omega)
          rw [List.length_drop] at ih
          have htl : (bs.take (stepN k bs).1).length = (stepN k bs).1 := by rw [List.length_take]; omega
          have h1 := word_twice (k := k) (bs := bs.take (stepN k bs).1) (by
            rw [htl]
            unfold stepN at hc s1 ⊢
            by_cases h9 : k < 9
            · rw [if_pos h9] at s1 ⊢
              exact .inl ⟨h9, s1⟩
            · rw [if_neg h9] at hc ⊢
              by_cases h12 : k < 12
              · rw [if_pos h12] at hc ⊢
                split at hc
                · cases hc
                · rw [if_neg ‹_›]
                  exact .inr (.inl ⟨by omega, h12, rfl⟩)
              · rw [if_neg h12] at hc ⊢
                split at hc
                · cases hc
                · rw [if_neg ‹_›]
                  exact .inr (.inr ⟨by omega, rfl⟩))
          rw [htl] at h1
          simp only [List.map_cons, packW, List.length_append]
          by_cases he : ∃ u ∈ valsF k f (bs.drop (stepN k bs).1), u.2 ≠ 0
          · rw [if_pos he] at ih
            obtain ⟨u, hu, hu2⟩ := he
            rw [if_pos ⟨u, List.mem_cons_of_mem _ hu, hu2⟩]
            omega
          · rw [if_neg he] at ih
            omega
        · exact absurd hc q
      · rename_i hne hc
        rw [if_pos ⟨_, List.mem_singleton.2 rfl, hc⟩]
        have := (putS_length (k := k) (readS_bd k ([] : List UInt8)).1).2
        simp only [List.map_cons, List.map_nil, packW, List.append_nil]
        omega

/-- A run of words, packed again, is at most twice as long. -/
theorem run_twice (k : Int) (bs : List UInt8) : (packW k (wordsV k bs).1).length ≤ 2 * bs.length := by
  unfold wordsV
  split
  · rename_i hc
    unfold valsV
    split
    · rename_i hk
      have : codeV k bs = 2 := by
        unfold codeV valsV
        rw [if_pos hk]
        rfl
      rw [hc] at this
      cases this
    · rename_i hk
      have h1 := vals_twice (k := k) bs.length bs (Nat.le_refl _)
      rw [if_neg] at h1
      · exact h1
      · rintro ⟨u, hu, h2⟩
        obtain ⟨j, hj⟩ := List.getElem?_of_mem hu
        have := codeV_bad (k := k) (bs := bs) (j := j) (x := u) (by unfold valsV; rw [if_neg hk]; exact hj) h2
        rw [hc] at this
        exact h2 this.symm
  · exact Nat.zero_le _

/-- What a record's head takes at least. -/
theorem head_len {bs : List UInt8} {T V a t : Nat} (h : headV bs = (T, V, a, t, 0)) :
    (∀ w : Nat, w < 8 → (tagB (T : Int) (w : Int)).length ≤ a) ∧ (V = 2 → ∀ w : Nat, w < 8 → (tagB (T : Int) (w : Int)).length + (uvarint (t - a)).length ≤ a) ∧ (V = 0 → 1 ≤ t - a) ∧ (V = 1 → t - a = 8) ∧ (V = 5 → t - a = 4) := by
  rcases headV_cases bs with ⟨C, h1, h2, _⟩ | ⟨T', V', N, a', g, ht, hs, h3, h4, h5⟩
  · rw [h] at h1
    simp only [Prod.mk.injEq] at h1
    exact absurd h1.2.2.2.2.symm h2
  · rw [h] at h5
    simp only [Prod.mk.injEq] at h5
    obtain ⟨rfl, rfl, rfl, rfl, _⟩ := h5
    have htag : ∀ w : Nat, w < 8 → (tagB (T : Int) (w : Int)).length ≤ N := by
      intro w hw
      unfold tagV at ht
      split at ht
      · rename_i hc
        simp only [Prod.mk.injEq] at ht
        exact absurd ht.2.2.2 hc
      · rename_i hc
        have hc : (readV bs).2.2 = 0 := by simpa using hc
        split at ht
        · simp only [Prod.mk.injEq] at ht
          obtain ⟨e1, e2, e3, _⟩ := ht
          have hv := readV_len (bs := bs) (x := (readV bs).1) (l := (readV bs).2.1) (by rw [← hc])
          rw [e3] at hv
          unfold tagB
          rw [uvarint_eight (y := (readV bs).1) (by omega)]
          exact hv
        · simp only [Prod.mk.injEq] at ht
          exact absurd ht.2.2.2 (by decide)
    have hsz : ∀ x l c, readV (bs.drop N) = (x, l, c) → c = 0 → 1 ≤ l ∧ (uvarint x).length ≤ l := fun x l c e hc => by
      subst hc
      have h1 := (readV_bd (bs.drop N)).2.2.2.2.1
      rw [e] at h1
      exact ⟨h1 rfl, readV_len e⟩
    rcases hr : readV (bs.drop N) with ⟨x, l, c⟩
    have hz := hsz x l c hr
    unfold sizeV at hs
    rw [hr] at hs
    have e1 : N + a' + g - (N + a') = g := by omega
    rw [e1]
    refine ⟨fun w hw => by have := htag w hw; omega, fun hV w hw => ?_, fun hV => ?_, fun hV => ?_, fun hV => ?_⟩
    · subst hV
      rw [if_neg (by omega), if_neg (by omega), if_neg (by omega)] at hs
      simp only [Prod.mk.injEq] at hs
      obtain ⟨rfl, rfl, rfl⟩ := hs
      have := htag w hw
      have := hz rfl
      omega
    · subst hV
      rw [if_pos rfl] at hs
      simp only [Prod.mk.injEq] at hs
      obtain ⟨rfl, rfl, rfl⟩ := hs
      exact (hz rfl).1
    · subst hV
      rw [if_neg (by omega), if_pos rfl] at hs
      simp only [Prod.mk.injEq] at hs
      omega
    · subst hV
      rw [if_neg (by omega), if_neg (by omega), if_pos rfl] at hs
      simp only [Prod.mk.injEq] at hs
      omega

theorem seen_is {l : List FieldD} {v : ViewD} (h : seenV l v.r = (v, 0)) {i : Nat} {f : FieldD} (hi : v.field = (i : Int)) (hf : l[i]? = some f) :
    f.number = (v.r.n : Int) ∧ ((v.run = true ∧ f.rep = true ∧ numberB f.kind = true ∧ v.r.w = 2) ∨ (v.run = false ∧ kindB f.kind = true ∧ wireI f.kind = (v.r.w : Int))) := by
  rcases idxB_cases (numP (v.r.n : Int)) l with ⟨h1, _⟩ | ⟨k, g, h1, h2, h3, _⟩
  · rw [seenV_none h1] at h
    simp only [Prod.mk.injEq, and_true] at h
    rw [← h] at hi
    simp only at hi
    omega
  · have hnum : g.number = (v.r.n : Int) := by
      unfold numP at h3
      simpa using h3
    have hk : ∀ {b : Bool}, (⟨v.r, (k : Int), b⟩ : ViewD) = v → k = i ∧ b = v.run := fun {b} e => by
      constructor
      · rw [← e] at hi
        simp only at hi
        omega
      · rw [← e]
    rw [seenV_some h1 h2] at h
    split at h
    · rename_i hc
      simp only [Prod.mk.injEq, and_true] at h
      obtain ⟨rfl, hb⟩ := hk h
      rw [h2] at hf
      cases hf
      simp only [Bool.and_eq_true, beq_iff_eq] at hc
      exact ⟨hnum, .inl ⟨hb.symm, hc.1.1, hc.1.2, hc.2⟩⟩
    · split at h
      · rename_i hc
        simp only [Prod.mk.injEq, and_true] at h
        obtain ⟨rfl, hb⟩ := hk h
        rw [h2] at hf
        cases hf
        exact ⟨hnum, .inr ⟨hb.symm, hc.1, hc.2⟩⟩
      · simp only [Prod.mk.injEq] at h
        exact absurd h.2 (by decide)

theorem flat_one {α : Type} {g : α → List UInt8} {c : Nat} {j : α} (hc : (g j).length ≤ c) : ∀ {l : List α}, l.Nodup → (∀ x ∈ l, x ≠ j → g x = []) → (l.flatMap g).length ≤ c
  | [], _, _ => Nat.zero_le _
  | x :: l, hn, h => by
    rw [List.nodup_cons] at hn
    rw [List.flatMap_cons, List.length_append]
    by_cases e : x = j
    · subst e
      have : l.flatMap g = [] := by
        rw [List.flatMap_eq_nil_iff]
        intro y hy
        exact h y (List.mem_cons_of_mem _ hy) (fun e => hn.1 (by rw [← e]; exact hy))
      rw [this]
      simpa using hc
    · rw [h x List.mem_cons_self e]
      have := flat_one hc hn.2 (fun y hy => h y (List.mem_cons_of_mem _ hy))
      simpa using this

theorem wire_cases {k : Int} (h : kindB k = true) : (k < 9 ∧ wireI k = 0) ∨ (9 ≤ k ∧ k < 12 ∧ wireI k = 5) ∨ (12 ≤ k ∧ k < 15 ∧ wireI k = 1) ∨ (15 ≤ k ∧ wireI k = 2) := by
  unfold kindB at h
  have h := of_decide_eq_true h
  unfold wireI
  by_cases h8 : k ≤ 8
  · rw [if_pos h8]
    exact .inl ⟨by omega, rfl⟩
  · rw [if_neg h8]
    by_cases h11 : k ≤ 11
    · rw [if_pos h11]
      exact .inr (.inl ⟨by omega, by omega, rfl⟩)
    · rw [if_neg h11]
      by_cases h14 : k ≤ 14
      · rw [if_pos h14]
        exact .inr (.inr (.inl ⟨by omega, by omega, rfl⟩))
      · rw [if_neg h14]
        exact .inr (.inr (.inr ⟨by omega, rfl⟩))

section
variable {se : Nat → MsgT → List UInt8} {sub : Nat → List UInt8 → MsgT} {f : FieldD} {bs : List UInt8} {fs : List FieldD} {S : List MsgD} {m : Nat} {M : MsgD}

theorem putB_short {n w : Int} {v : List UInt8} (hw : w ≠ 2) : (putB n w v).length = (tagB n w).length + v.length := by
  unfold putB
  rw [if_neg hw, List.length_append, List.length_append]
  simp

/-- One record's normal form is at most twice as long. -/
theorem one_twice (hR : rightS S = true) (hM : S[m]? = some M) {v : ViewD} (hv : (viewsV M.fields bs).1 = [v]) (hl : lookV M.fields bs 0 = (v, 0)) (ht : v.r.t = bs.length) {d : Nat} (hb : (firstV S d m bs).2 = 0)
    (hsub : ∀ (e o : Nat) (x : List UInt8), d = e + 1 → o < S.length → (firstV S e o x).2 = 0 → x.length + 1 ≤ bs.length → (se o (sub o x)).length ≤ 2 * x.length) :
    (encC se S m (ofM sub S m bs)).flatten.length ≤ 2 * bs.length := by
  obtain ⟨g1, g2, g3, g4, g5, g6⟩ := look_first hl
  have hseen := (lookV_of hl).2
  rw [enc_of hR hM, unk_flat, List.length_append]
  have hn : (sortK (keyF M.fields) M.fields.length).Nodup := (sortK_perm (keyF M.fields) M.fields.length).nodup_iff.2 List.nodup_range
  have hvl : (valueO bs v).length = v.r.t - v.r.a := by
    unfold valueO
    exact spanB_length bs (by omega)
  by_cases hneg : v.field < 0
  · have hz : (sortK (keyF M.fields) M.fields.length).flatMap (placeE se sub M.fields bs (viewsV M.fields bs).1) = [] := by
      rw [List.flatMap_eq_nil_iff]
      intro i _
      refine placeE_none ?_
      rw [hv]
      unfold viewsO
      rw [List.filter_cons, if_neg (by simp only [beq_iff_eq]; omega)]
      rfl
    rw [hz, hv, List.filter_cons, if_pos (by simpa using hneg)]
    simp only [List.filter_nil, List.flatMap_cons, List.flatMap_nil, List.append_nil, List.length_nil]
    rw [spanB_length bs (by omega)]
    omega
  · obtain ⟨i, hi⟩ := Int.eq_ofNat_of_zero_le (show 0 ≤ v.field by omega)
    have hu : ((viewsV M.fields bs).1.filter fun v => decide (v.field < 0)) = [] := by
      rw [hv, List.filter_cons, if_neg (by simpa using hneg)]
      rfl
    rw [hu]
    have hV : viewsO (viewsV M.fields bs).1 i = [v] := by
      rw [hv]
      unfold viewsO
      rw [List.filter_cons, if_pos (by simp [hi])]
      rfl
    have hmem : v ∈ (viewsV M.fields bs).1 := by rw [hv]; exact List.mem_singleton.2 rfl
    obtain ⟨f, hf⟩ : ∃ f, M.fields[i]? = some f := by
      rcases view_is hmem with q | ⟨k, f, e1, e2, _⟩
      · omega
      · obtain rfl : k = i := by omega
        exact ⟨f, e2⟩
    have hone : (placeE se sub M.fields bs (viewsV M.fields bs).1 i).length ≤ 2 * bs.length := by
      rw [placeE_at hf (by rw [hV]; simp), hV]
      simp only [List.flatMap_cons, List.flatMap_nil, List.append_nil]
      obtain ⟨q1, q2⟩ := seen_is hseen hi hf
      obtain ⟨s1, s2, s3, s4, s5⟩ := head_len g1
      rw [← q1] at s1 s2
      rcases q2 with ⟨r1, r2, r3, r4⟩ | ⟨r1, r2, r3⟩
      · have hw : wordsO f bs v = (wordsV f.kind (valueO bs v)).1 := by
          unfold wordsO
          rw [if_pos r1]
        have hp : piecesO f bs v = [] := by
          unfold piecesO
          rw [if_pos r1]
        rw [hp, fieldE_run r3 r2]
        split
        · exact Nat.zero_le _
        · have h1 := run_twice f.kind (valueO bs v)
          rw [← hw, hvl] at h1
          have h2 := s2 r4 2 (by omega)
          have h3 := uvarint_mono _ _ h1
          have h4 := uvarint_both (v.r.t - v.r.a) (v.r.t - v.r.a)
          rw [← Nat.two_mul] at h4
          rw [putB_len]
          have h5 : ((2 : Nat) : Int) = 2 := rfl
          rw [h5] at h2
          omega
      · rcases hnb : numberB f.kind with _ | _
        · have hw : wordsO f bs v = [] := by
            unfold wordsO
            rw [r1, hnb]
            rfl
          have hp : piecesO f bs v = [valueO bs v] := by
            unfold piecesO
            rw [r1, hnb]
            rfl
          have hV2 : v.r.w = 2 := by
            have := wire_other r2 hnb
            omega
          have h2 := s2 hV2 2 (by omega)
          have h5 : ((2 : Nat) : Int) = 2 := rfl
          rw [h5] at h2
          rw [hw, hp]
          by_cases h17 : f.kind = 17
          · obtain ⟨o, ho1, ho2⟩ := right_of hR hM hf h17
            obtain ⟨e, hde, ev⟩ := sub_valid hR hM hf h17 hb (by rw [hV]; simp)
            have h1 := hsub e f.of_.toNat (valueO bs v) hde (by rw [ho1]; exact ho2) (ev v (by rw [hV]; exact List.mem_singleton.2 rfl)).2 (by omega)
            rw [hvl] at h1
            have h3 := uvarint_mono _ _ h1
            have h4 := uvarint_both (v.r.t - v.r.a) (v.r.t - v.r.a)
            rw [← Nat.two_mul] at h4
            rcases hr : f.rep with _ | _
            · rw [fieldE_join h17 hr]
              simp only [List.flatten_cons, List.flatten_nil, List.append_nil]
              rw [putB_len]
              omega
            · rw [fieldE_subs h17 hr]
              simp only [List.map_cons, List.map_nil, List.flatten_cons, List.flatten_nil, List.append_nil]
              rw [putB_len]
              omega
          · rcases hr : f.rep with _ | _
            · have := fieldE_text (se := se) (sub := sub) hnb h17 hr (ps := []) (x := valueO bs v)
              rw [List.nil_append] at this
              rw [this, putB_len, hvl]
              omega
            · rw [fieldE_texts hnb h17 hr]
              simp only [List.map_cons, List.map_nil, List.flatten_cons, List.flatten_nil, List.append_nil]
              rw [putB_len, hvl]
              omega
        · have hw : wordsO f bs v = [(readS f.kind (valueO bs v)).1] := by
            unfold wordsO
            rw [r1, hnb]
            rfl
          have hp : piecesO f bs v = [] := by
            unfold piecesO
            rw [r1, hnb]
            rfl
          have h1 := word_twice (k := f.kind) (bs := valueO bs v) (by
            rw [hvl]
            unfold numberB at hnb
            have hnb := of_decide_eq_true hnb
            rcases wire_cases r2 with ⟨c1, c2⟩ | ⟨c1, c2, c3⟩ | ⟨c1, c2, c3⟩ | ⟨c1, _⟩
            · exact .inl ⟨c1, s3 (by omega)⟩
            · exact .inr (.inl ⟨c1, c2, s5 (by omega)⟩)
            · exact .inr (.inr ⟨c1, s4 (by omega)⟩)
            · omega)
          rw [hvl] at h1
          rw [hw, hp]
          have hx := (readS_bd f.kind (valueO bs v)).1
          have h10 := putS_length (k := f.kind) hx
          rcases hr : f.rep with _ | _
          · have := fieldE_word (se := se) (sub := sub) hnb hr (ws := []) (x := (readS f.kind (valueO bs v)).1)
            rw [List.nil_append] at this
            rw [this, r3]
            have hw8 : v.r.w < 8 := by
              rcases wire_cases r2 with ⟨c1, c2⟩ | ⟨c1, c2, c3⟩ | ⟨c1, c2, c3⟩ | ⟨c1, _⟩ <;> omega
            have hw2 : (v.r.w : Int) ≠ 2 := by
              unfold numberB at hnb
              have hnb := of_decide_eq_true hnb
              rcases wire_cases r2 with ⟨c1, c2⟩ | ⟨c1, c2, c3⟩ | ⟨c1, c2, c3⟩ | ⟨c1, _⟩ <;> omega
            have h2 := s1 v.r.w hw8
            rw [putB_short hw2]
            omega
          · rw [fieldE_run hnb hr, if_neg (by simp)]
            have h2 := s1 2 (by omega)
            have h5 : ((2 : Nat) : Int) = 2 := rfl
            rw [h5] at h2
            rw [putB_len]
            simp only [packW, List.append_nil]
            rw [uvarint_small (x := (putS f.kind (readS f.kind (valueO bs v)).1).length) (by omega)]
            simp only [List.length_cons, List.length_nil]
            omega
    have h1 := flat_one hone hn (fun x _ hx => placeE_none (se := se) (sub := sub) (fs := M.fields) (bs := bs) (by
      rw [hv]
      unfold viewsO
      rw [List.filter_cons, if_neg (by simp only [beq_iff_eq]; omega)]
      rfl))
    simpa using h1

/-- A normal form is at most twice as long. -/
theorem enc_twice {S : List MsgD} (hR : rightS S = true) : ∀ (n D d m : Nat) (bs : List UInt8), bs.length ≤ n → m < S.length → (firstV S d m bs).2 = 0 → bs.length ≤ 100000 → (encV S D m (ofV S D m bs)).length ≤ 2 * bs.length
  | 0, D, d, m, bs, hn, hm, hb, hl => by
    have := enc_small hR D m bs hl
    omega
  | n + 1, D, d, m, bs, hn, hm, hb, hl => by
    by_cases hne : bs = []
    · have := enc_small hR D m bs hl
      rw [hne] at this ⊢
      simpa using this
    · obtain ⟨M, hM⟩ : ∃ M, S[m]? = some M := ⟨_, List.getElem?_eq_getElem hm⟩
      obtain ⟨v, h1, h2, h3, h4, h5, _, h7⟩ := valid_head hM hb hne
      by_cases ht : v.r.t = bs.length
      · have hd0 : bs.drop v.r.t = [] := List.drop_of_length_le (by omega)
        rw [hd0, viewsV_nil] at h7
        have hv : (viewsV M.fields bs).1 = [v] := h7
        rcases D with _ | D
        · rw [encV, ofV]
          exact one_twice hR hM hv h1 ht hb (fun _ _ _ _ _ _ _ => Nat.zero_le _)
        · rw [encV, ofV]
          exact one_twice hR hM hv h1 ht hb (fun e o x _ ho hx hxl => enc_twice hR n D e o x (by omega) ho hx (by omega))
      · have hbs : bs.take v.r.t ++ bs.drop v.r.t = bs := List.take_append_drop _ _
        have hb1 := enc_both hR D d m _ _ hm h4 h5
        rw [hbs] at hb1
        have htl : (bs.take v.r.t).length = v.r.t := by rw [List.length_take]; omega
        have hdl : (bs.drop v.r.t).length = bs.length - v.r.t := List.length_drop
        have i1 := enc_twice hR n D d m (bs.take v.r.t) (by omega) hm h4 (by omega)
        have i2 := enc_twice hR n D d m (bs.drop v.r.t) (by omega) hm h5 (by omega)
        omega

theorem norm_twice {S : List MsgD} (hR : rightS S = true) {d m : Nat} {bs : List UInt8} (hm : m < S.length) (h : (firstV S d m bs).2 = 0) (hb : bs.length ≤ 100000) : (normB S m bs).length ≤ 2 * bs.length := enc_twice hR bs.length 100000 d m bs (Nat.le_refl _) hm h hb
end

end Go.Proofs.Ytcbpbpeogfbpiaa
