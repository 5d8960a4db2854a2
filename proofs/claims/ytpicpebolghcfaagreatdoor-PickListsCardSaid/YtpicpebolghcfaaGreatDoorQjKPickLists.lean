/- The walk of the law PickLists. -/
import Derived.Test.YtpicpebolghcfaaGreatDoorQjW97
import Derived.Test.YtpicpebolghcfaaGreatDoorQjW96
import Derived.Test.YtpicpebolghcfaaGreatDoorQjW94
import Derived.Test.YtpicpebolghcfaaGreatDoorQjW14x
import Derived.Test.YtpicpebolghcfaaGreatDoorQjW81

namespace Go.Proofs.YtpicpebolghcfaaGreatDoor
open Go.RowKit Go.Shelf
set_option linter.unusedVariables false

theorem rOfL {S : List MsgV} (hR : rightS (S.map MsgV.d) = true) : ∀ d, d ≤ 100000 → OfR S (d + 1) (ofV (S.map MsgV.d) d)
  | 0, _ => rStep hR (Nat.zero_le _) (fun w SA sn sc m A n c bs _ _ _ h => absurd h (Nat.not_lt_zero n))
  | d + 1, h => rStep hR (by omega) (rOfL hR d (by omega))

theorem at_valid {S : List MsgD} {root d : Int} {p : ByteArray} {bs : List UInt8} (h : (wayAtV S root d p bs).2 = 0) : (firstV S d.toNat root.toNat bs).2 = 0 ∧ (wayAtV S root d p bs).1.length ≤ 65 := by
  unfold wayAtV at h ⊢
  by_cases h0 : argsV S root d ≠ 0
  · rw [if_pos h0] at h
    exact absurd h h0
  · rw [if_neg h0] at h ⊢
    by_cases h1 : (resolveV S root p).2 ≠ 0
    · rw [if_pos h1] at h
      exact absurd h h1
    · rw [if_neg h1] at h ⊢
      obtain ⟨_, _, _, _, _, q⟩ := resolve_on (S := S) (root := root) (p := p) (by omega)
      refine ⟨?_, q⟩
      have h2 : (checkB S root bs d).2 = 0 := h
      unfold checkB at h2
      rw [if_pos (by omega)] at h2
      exact h2

theorem words_code {S : List MsgD} {f : FieldD} {way : List Int} {m : Nat} {bs : List UInt8} (hf : OnWay S m way f) (hn : numberB f.kind = true) (ht : thereP f (piecesW S m bs way) = true) (hc : codeV f.kind (piecesW S m bs way).flatten = 0) :
    (wordsV f.kind (loadP f (piecesW S m bs way))).2 = 0 := by
  by_cases hr : runP f = true
  · rw [load_run hr]
    exact hc
  · have hrep : f.rep = false := by
      unfold runP at hr
      rw [hn, Bool.and_true] at hr
      simpa using hr
    rw [load_last (number_17 hn) hrep]
    have hp := there_pos ht hrep
    have hm : lastP (piecesW S m bs way) ∈ piecesW S m bs way := by
      unfold lastP
      rw [List.getLast?_eq_some_getLast (List.ne_nil_of_length_pos hp), Option.getD_some]
      exact List.getLast_mem _
    obtain ⟨w, hw⟩ := pieceW_word hrep hn hf _ hm
    rw [hw]

theorem wordsAt_no {f : FieldD} {ps : List (List UInt8)} {C : Nat} (h : codeOf (numberB f.kind) f ps = C) (h0 : C ≠ 0) : wordsAt f ps = ([], C) := by
  unfold wordsAt
  rw [h, if_pos h0]

theorem wordsAt_yes {f : FieldD} {ps : List (List UInt8)} (h : codeOf (numberB f.kind) f ps = 0) : wordsAt f ps = wordsV f.kind (loadP f ps) := by
  unfold wordsAt
  rw [h, if_neg (by simp)]

theorem codeOf_kind (f : FieldD) (ps : List (List UInt8)) : codeOf false f ps = 2 := by unfold codeOf; rw [if_pos rfl]

theorem codeOf_no {f : FieldD} {ps : List (List UInt8)} (h : thereP f ps = false) : codeOf true f ps = 11 := by unfold codeOf; rw [if_neg (by simp), if_pos h]

theorem codeOf_yes {f : FieldD} {ps : List (List UInt8)} (h : thereP f ps = true) : codeOf true f ps = 0 := by unfold codeOf; rw [if_neg (by simp), if_neg (by rw [h]; simp)]

set_option maxHeartbeats 1000000 in
theorem pickLists_walk {A B : Option Addr} {n c m k : Nat} {S : List MsgV} {root d : Int} {p : ByteArray} {bs : List UInt8} {w : World} (hs : SchemaAt w A n c S) (hroot : -9223372036854775808 ≤ root ∧ root < 9223372036854775808) (hb : BytesAt w B m k bs) (hd : -9223372036854775808 ≤ d ∧ d < 9223372036854775808) (hp : p.size ≤ maxLen) :
    Calls Tryz.prog 3 #[.slice A n c, .int .i64 root, .slice B m k, .int .i64 d, .string p] w fun e w' => e = .returned (.bool true) ∧ Ext w w' := by
  by_cases hm : m ≤ 1500
  · by_cases hp5 : p.size ≤ 5000
    · have hm9 : m ≤ 1000000000 := by omega
      have hp9 : p.size ≤ 1000000000 := by omega
      by_cases hK : (wayAtV (S.map MsgV.d) root d p bs).2 = 0
      · obtain ⟨hRS, hr0, hr1, f, hf, _⟩ := at_on hK
        obtain ⟨hval, hw65⟩ := at_valid hK
        have hpl := piecesW_le (S.map MsgV.d) (wayAtV (S.map MsgV.d) root d p bs).1 root.toNat bs
        have hbl := hb.length
        have hSl := hs.length
        rw [List.length_map] at hr1
        have hrn : root.toNat < n := by omega
        have hroot2 : ((root.toNat : Nat) : Int) = root := Int.toNat_of_nonneg hr0
        obtain ⟨D', _, hat, hsol, hcode⟩ := at_of hRS hf bs 100000 d.toNat (by rw [List.length_map]; omega) (by omega) hval
        have hload : (loadP f (atP (S.map MsgV.d) root d p bs)).length ≤ 1000000 := by
          have := load_few (f := f) (ps := atP (S.map MsgV.d) root d p bs) (M := 1500) (by unfold atP; omega) (by unfold atP; omega) (by omega)
          omega
        have hW := fun W (a : SchemaAt W A n c S) (b : BytesAt W B m k bs) => pWords_ok (root := root) (d := d) a b hm9 hp hK hf
        have hR : ∀ W, SchemaAt W A n c S → BytesAt W B m k bs → Calls Tryz.prog 10 #[.slice A n c, .int .i64 root, .slice B m k, .int .i64 d, .string p] W fun e W' => ∃ A' c', e = .returned (.tuple #[.slice A' (wayAtV (S.map MsgV.d) root d p bs).1.length c', .int .i64 0]) ∧ Reads W' A' (wayAtV (S.map MsgV.d) root d p bs).1.length c' 1 ((wayAtV (S.map MsgV.d) root d p bs).1.map wyV) ∧ Ext W W' := by
          intro W a b
          have h := rResolve21 (root := root) (d := d) a b hm9 hp9
          rw [hK] at h
          refine h.mono ?_
          rintro e w' ⟨A', c', h1, h2⟩
          exact ⟨A', c', h1, h2.reads, h2.ext⟩
        have hO : ∀ W, SchemaAt W A n c S → BytesAt W B m k bs → Calls Tryz.prog 11 #[.slice A n c, .int .i64 root, .slice B m k] W fun e W' => ∃ y : MsgR, e = .returned (.agg #[.slice y.a.1 y.vals.length y.a.2, .slice y.b.1 y.unk.length y.b.2]) ∧ bare y = ofV (S.map MsgV.d) 100000 root.toNat bs ∧ TreeAt W' y ∧ Ext W W' := by
          intro W a b
          have h := rOfL hRS 100000 (Nat.le_refl _) W A n c root.toNat B m k bs a (by omega) b (by omega)
          rw [hroot2] at h
          refine h.mono ?_
          rintro e w' ⟨y, h1, h2, h3, _, h5⟩
          exact ⟨y, h1, h2, h3, h5⟩
        have hL : ∀ W A' c', SchemaAt W A n c S → Reads W A' (wayAtV (S.map MsgV.d) root d p bs).1.length c' 1 ((wayAtV (S.map MsgV.d) root d p bs).1.map wyV) → Calls Tryz.prog 12 #[.slice A n c, .int .i64 root, .slice A' (wayAtV (S.map MsgV.d) root d p bs).1.length c'] W fun e W' => e = .returned (.tuple #[fieldV f, .bool true]) ∧ Ext W W' := by
          intro W A' c' a h
          have := rLast hRS a hrn hf h hw65
          rw [hroot2] at this
          exact this
        have hA : ∀ W (y : MsgR) A' c', TreeAt W y → bare y = ofV (S.map MsgV.d) 100000 root.toNat bs → Reads W A' (wayAtV (S.map MsgV.d) root d p bs).1.length c' 1 ((wayAtV (S.map MsgV.d) root d p bs).1.map wyV) → Calls Tryz.prog 13 #[.agg #[.slice y.a.1 y.vals.length y.a.2, .slice y.b.1 y.unk.length y.b.2], .slice A' (wayAtV (S.map MsgV.d) root d p bs).1.length c'] W fun e W' => ∃ v : ValR, e = .returned (.tuple #[.agg #[.int .i64 v.number, .slice v.a.1 v.words.length v.a.2, .slice v.b.1 v.texts.length v.b.2, .slice v.c.1 v.subs.length v.c.2], .bool (thereP f (atP (S.map MsgV.d) root d p bs))]) ∧ Ext W W' ∧ Hid (true = thereP f (atP (S.map MsgV.d) root d p bs) → ValAt W v ∧ v.words = (valueP (ofV (S.map MsgV.d) D') f (atP (S.map MsgV.d) root d p bs)).words ∧ v.texts = (valueP (ofV (S.map MsgV.d) D') f (atP (S.map MsgV.d) root d p bs)).texts) := by
          intro W y A' c' hy hby h
          refine (rAt _ hf.ne hy (by rw [hby]; exact hsol) h (by omega)).mono ?_
          rintro e w' ⟨v, ok, h1, h2, h3⟩
          have hbr := atR_bare (wayAtV (S.map MsgV.d) root d p bs).1 y
          rw [hby, hat] at hbr
          rcases ht : thereP f (piecesW (S.map MsgV.d) root.toNat bs (wayAtV (S.map MsgV.d) root d p bs).1) with _ | _
          · rw [ht, if_neg (by simp)] at hbr
            rcases h3 with ⟨h3, _⟩ | ⟨_, h3⟩
            · subst h3
              refine ⟨v, ?_, h2, Lib.hid (fun q => ?_)⟩
              · unfold atP
                rw [ht]
                exact h1
              · unfold atP at q
                rw [ht] at q
                cases q
            · rw [h3] at hbr
              cases hbr
          · rw [ht, if_pos rfl] at hbr
            rcases h3 with ⟨_, h3⟩ | ⟨h3, h4⟩
            · rw [h3] at hbr
              cases hbr
            · subst h3
              rw [h4] at hbr
              have hv : bareV v = valueP (ofV (S.map MsgV.d) D') f (piecesW (S.map MsgV.d) root.toNat bs (wayAtV (S.map MsgV.d) root d p bs).1) := Option.some.inj hbr
              refine ⟨v, ?_, h2, Lib.hid (fun _ => ⟨atR_at _ hy h4, ?_, ?_⟩)⟩
              · unfold atP
                rw [ht]
                exact h1
              · unfold atP
                rw [← hv]
                rfl
              · unfold atP
                rw [← hv]
                rfl
        have hps : atP (S.map MsgV.d) root d p bs = piecesW (S.map MsgV.d) root.toNat bs (wayAtV (S.map MsgV.d) root d p bs).1 := rfl
        have hWn : ∀ {C : Nat}, codeOf (numberB f.kind) f (atP (S.map MsgV.d) root d p bs) = C → C ≠ 0 → ∀ W, SchemaAt W A n c S → BytesAt W B m k bs → Calls Tryz.prog 8 #[.slice A n c, .int .i64 root, .slice B m k, .int .i64 d, .string p] W fun e W' => ∃ A' c', e = .returned (.tuple #[.slice A' 0 c', .int .u8 (C : Int)]) ∧ WordsAt W' A' 0 c' [] ∧ Ext W W' := by
          intro C h h0 W a b
          have q := hW W a b
          rw [wordsAt_no h h0] at q
          refine q.mono ?_
          rintro e w' ⟨A', c', h1, h2⟩
          exact ⟨A', c', h1, h2.reads, h2.ext⟩
        have hXn : ∀ {C : Nat}, codeOf (textB f.kind) f (atP (S.map MsgV.d) root d p bs) = C → C ≠ 0 → ∀ W, SchemaAt W A n c S → BytesAt W B m k bs → Calls Tryz.prog 9 #[.slice A n c, .int .i64 root, .slice B m k, .int .i64 d, .string p] W fun e W' => e = .returned (.tuple #[.slice none 0 0, .int .u8 (C : Int)]) ∧ Ext W W' :=
          fun h h0 W a b => pTexts_no (root := root) (d := d) a b hm9 hp hK hf h h0
        have hvt : f.kind = 15 ∨ f.kind = 16 → (valueP (ofV (S.map MsgV.d) D') f (atP (S.map MsgV.d) root d p bs)).texts = (textsAt f (atP (S.map MsgV.d) root d p bs)).map textO := fun h => by
          unfold valueP
          simp only
          rw [if_neg (by rw [text_number h]; rcases h with h | h <;> simp [h])]
        have htl : (textsAt f (atP (S.map MsgV.d) root d p bs)).length ≤ 1000000000 := by
          unfold textsAt
          split
          · unfold atP
            omega
          · simp
        have hXy : codeOf (textB f.kind) f (atP (S.map MsgV.d) root d p bs) = 0 → ∀ W, SchemaAt W A n c S → BytesAt W B m k bs → Calls Tryz.prog 9 #[.slice A n c, .int .i64 root, .slice B m k, .int .i64 d, .string p] W fun e W' => ∃ l A' c', e = .returned (.tuple #[.slice A' (textsAt f (atP (S.map MsgV.d) root d p bs)).length c', .int .u8 0]) ∧ BRowsAt W' A' (textsAt f (atP (S.map MsgV.d) root d p bs)).length c' l ∧ bytesR l = textsAt f (atP (S.map MsgV.d) root d p bs) ∧ Ext W W' := by
          intro hT W a b
          refine (pTexts_ok (root := root) (d := d) a b hm9 hp hK hf hT).mono ?_
          rintro e w' ⟨l, A', n', c', h1, h2, h3, h4⟩
          have hl := h2.length
          have h5 := congrArg List.length h3
          unfold bytesR at h5
          rw [List.length_map, hl] at h5
          subst h5
          exact ⟨l, A', c', h1, h2, h3, h4⟩
        rcases ht : thereP f (atP (S.map MsgV.d) root d p bs) with _ | _
        · rw [ht] at hA
          rcases hn : numberB f.kind with _ | _
          · have hw2 := hWn (C := 2) (by rw [hn]; exact codeOf_kind _ _) (by simp)
            by_cases h15 : f.kind = 15
            · have hT : codeOf (textB f.kind) f (atP (S.map MsgV.d) root d p bs) = 11 := by rw [show textB f.kind = true by unfold textB; simp [h15]]; exact codeOf_no ht
              exact lists_no_15 (wn := 0) (tn := 0) (ts := []) alive22 hs hb hm hp5 hn h15 hw2 (hXn hT (by simp)) hR hO hL hA
            · by_cases h16 : f.kind = 16
              · have hT : codeOf (textB f.kind) f (atP (S.map MsgV.d) root d p bs) = 11 := by rw [show textB f.kind = true by unfold textB; simp [h16]]; exact codeOf_no ht
                exact lists_no_16 (wn := 0) (tn := 0) (ts := []) alive22 hs hb hm hp5 hn h16 hw2 (hXn hT (by simp)) hR hO hL hA
              · have hT : codeOf (textB f.kind) f (atP (S.map MsgV.d) root d p bs) = 2 := by rw [show textB f.kind = false by unfold textB; simp [h15, h16]]; exact codeOf_kind _ _
                exact lists_no_other (wn := 0) (tn := 0) (ts := []) alive22 hs hb hm hp5 hn h15 h16 hw2 (hXn hT (by simp)) hR hO hL hA
          · have hk := number_bd hn
            have hT : codeOf (textB f.kind) f (atP (S.map MsgV.d) root d p bs) = 2 := by rw [show textB f.kind = false by unfold textB; simp; omega]; exact codeOf_kind _ _
            exact lists_no_num (wn := 0) (tn := 0) (ts := []) alive22 hs hb hm hp5 hn (by omega) (by omega) (hWn (C := 11) (by rw [hn]; exact codeOf_no ht) (by simp)) (hXn hT (by simp)) hR hO hL hA
        · rw [ht] at hA
          rcases hn : numberB f.kind with _ | _
          · have hw2 := hWn (C := 2) (by rw [hn]; exact codeOf_kind _ _) (by simp)
            by_cases h15 : f.kind = 15
            · have hT : codeOf (textB f.kind) f (atP (S.map MsgV.d) root d p bs) = 0 := by rw [show textB f.kind = true by unfold textB; simp [h15]]; exact codeOf_yes ht
              exact lists_texts_15 (wn := 0) alive22 hs hb hm hp5 hn h15 (hvt (.inl h15)) rfl htl hw2 (hXy hT) hR hO hL hA
            · by_cases h16 : f.kind = 16
              · have hT : codeOf (textB f.kind) f (atP (S.map MsgV.d) root d p bs) = 0 := by rw [show textB f.kind = true by unfold textB; simp [h16]]; exact codeOf_yes ht
                exact lists_texts_16 (wn := 0) alive22 hs hb hm hp5 hn h16 (hvt (.inr h16)) rfl htl hw2 (hXy hT) hR hO hL hA
              · have hT : codeOf (textB f.kind) f (atP (S.map MsgV.d) root d p bs) = 2 := by rw [show textB f.kind = false by unfold textB; simp [h15, h16]]; exact codeOf_kind _ _
                exact lists_yes_other (wn := 0) (tn := 0) (ts := []) alive22 hs hb hm hp5 hn h15 h16 hw2 (hXn hT (by simp)) hR hO hL hA
          · have hk := number_bd hn
            have hT : codeOf (textB f.kind) f (atP (S.map MsgV.d) root d p bs) = 2 := by rw [show textB f.kind = false by unfold textB; simp; omega]; exact codeOf_kind _ _
            have hcw : (wordsV f.kind (loadP f (atP (S.map MsgV.d) root d p bs))).2 = 0 := words_code hf hn ht (hcode hn)
            have hwl := wordsV_length f.kind (loadP f (atP (S.map MsgV.d) root d p bs))
            refine lists_words (tn := 0) (ts := []) alive22 hs hb hm hp5 hn (by omega) (by omega) (ws := (wordsV f.kind (loadP f (atP (S.map MsgV.d) root d p bs))).1) ?_ (wn := (wordsV f.kind (loadP f (atP (S.map MsgV.d) root d p bs))).1.length) (by omega) (fun W a b => ?_) (hXn hT (by simp)) hR hO hL hA
            · unfold valueP
              simp only
              rw [if_pos hn]
            · have q := hW W a b
              rw [wordsAt_yes (by rw [hn]; exact codeOf_yes ht), hcw] at q
              refine q.mono ?_
              rintro e w' ⟨A', c', h1, h2⟩
              exact ⟨A', c', h1, h2.reads, h2.ext⟩
      · refine lists_bad (wl := (wayAtV (S.map MsgV.d) root d p bs).1.length) alive22 hs hb hm hp5 hK (at_le _ _ _ _ _) (fun W a b => pWords_bad (root := root) (d := d) a b hm9 hp rfl hK) (fun W a b => pTexts_bad (root := root) (d := d) a b hm9 hp rfl hK) (fun W a b => ?_)
        refine (rResolve21 (root := root) (d := d) a b hm9 hp9).mono ?_
        rintro e w' ⟨A', c', h1, h2⟩
        exact ⟨A', c', h1, h2.ext⟩
    · exact lists_long alive22 hs hb hm hp (by omega)
  · exact lists_great alive22 hs hb (by omega) hp

end Go.Proofs.YtpicpebolghcfaaGreatDoor
