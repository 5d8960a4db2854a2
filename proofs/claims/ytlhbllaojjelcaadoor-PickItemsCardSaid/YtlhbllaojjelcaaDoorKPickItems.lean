/- The walk of the law PickItems. -/
import Derived.Test.YtlhbllaojjelcaaDoorW82
import Derived.Test.YtlhbllaojjelcaaDoorW83
import Derived.Test.YtlhbllaojjelcaaDoorW11b
namespace Go.Proofs.YtlhbllaojjelcaaDoor
open Go.RowKit Go.Shelf
set_option linter.unusedVariables false

theorem wayAt_on {S : List MsgD} {root d : Int} {p : ByteArray} {bs : List UInt8} (h : (wayAtV S root d p bs).2 = 0) : ∃ f, OnWay S root.toNat (wayAtV S root d p bs).1 f := by
  unfold wayAtV at h ⊢
  by_cases h0 : argsV S root d ≠ 0
  · rw [if_pos h0] at h
    exact absurd h h0
  · rw [if_neg h0] at h ⊢
    by_cases h1 : (resolveV S root p).2 ≠ 0
    · rw [if_pos h1] at h
      exact absurd h h1
    · rw [if_neg h1]
      obtain ⟨_, _, _, f, hf, _⟩ := resolve_on (S := S) (root := root) (p := p) (by omega)
      exact ⟨f, hf⟩

theorem wayAt_le (S : List MsgD) (root d : Int) (p : ByteArray) (bs : List UInt8) : (wayAtV S root d p bs).2 < 256 := by
  unfold wayAtV
  split
  · unfold argsV
    repeat' split
    all_goals decide
  · split
    · show (resolveV S root p).2 < 256
      unfold resolveV argsM
      repeat' split
      all_goals first
        | decide
        | exact (by decide : (0 : Nat) < 256)
    · have := checkB_le S root bs d
      show (checkB S root bs d).2 < 256
      omega

theorem codeOf_le (q : Bool) (f : FieldD) (ps : List (List UInt8)) : codeOf q f ps < 256 := by
  unfold codeOf
  repeat' split
  all_goals decide

theorem wordsAt_le (f : FieldD) (ps : List (List UInt8)) : (wordsAt f ps).2 < 256 := by
  unfold wordsAt
  split
  · exact codeOf_le _ _ _
  · have := codeV_le' f.kind (loadP f ps)
    show codeV f.kind (loadP f ps) < 256
    omega

theorem things_few {f : FieldD} {ps : List (List UInt8)} {M : Nat} (h1 : ps.flatten.length ≤ M) (h2 : ps.length ≤ M) : thingsP f ps ≤ M + 1 := by
  unfold thingsP
  split
  · omega
  · split
    · rename_i hr
      have hl : loadP f ps = ps.flatten := by
        unfold loadP
        rw [if_pos (.inl hr)]
      rw [hl]
      unfold countV
      split
      · unfold valsV
        split
        · simp
        · have := valsF_len f.kind ps.flatten.length ps.flatten
          omega
      · omega
    · split <;> omega

theorem pickItems_walk {A B : Option Addr} {n c m k : Nat} {S : List MsgV} {root d : Int} {p : ByteArray} {bs : List UInt8} {w : World} (hs : SchemaAt w A n c S) (hroot : -9223372036854775808 ≤ root ∧ root < 9223372036854775808) (hb : BytesAt w B m k bs) (hd : -9223372036854775808 ≤ d ∧ d < 9223372036854775808) (hp : p.size ≤ maxLen) :
    Calls Tryd.prog 3 #[.slice A n c, .int .i64 root, .slice B m k, .int .i64 d, .string p] w fun e w' => e = .returned (.bool true) ∧ Ext w w' := by
  by_cases hm : m ≤ 1000
  · have hm9 : m ≤ 1000000000 := by omega
    by_cases hK : (wayAtV (S.map MsgV.d) root d p bs).2 = 0
    · obtain ⟨f, hf⟩ := wayAt_on hK
      have hpl := piecesW_le (S.map MsgV.d) (wayAtV (S.map MsgV.d) root d p bs).1 root.toNat bs
      have hbl := hb.length
      have hn : thingsP f (atP (S.map MsgV.d) root d p bs) ≤ 1000000000 := by
        have := things_few (f := f) (ps := atP (S.map MsgV.d) root d p bs) (M := 1000) (by unfold atP; omega) (by unfold atP; omega)
        omega
      have hC := fun W (a : SchemaAt W A n c S) (b : BytesAt W B m k bs) => pCount_ok (root := root) (d := d) a b hm9 hp hK hf
      have hI : ∀ W (i : Nat), i < thingsP f (atP (S.map MsgV.d) root d p bs) → SchemaAt W A n c S → BytesAt W B m k bs → Calls Tryd.prog 9 #[.slice A n c, .int .i64 root, .slice B m k, .int .i64 d, .string p, .int .i64 (i : Int)] W fun e W' => ∃ A' c', e = .returned (.tuple #[.slice A' (itemV f (atP (S.map MsgV.d) root d p bs) i).1.length c', .int .u8 0]) ∧ Own W W' 5 1 A' (itemV f (atP (S.map MsgV.d) root d p bs) i).1.length c' ((itemV f (atP (S.map MsgV.d) root d p bs) i).1.map bv) := by
        intro W i hi a b
        have h := pItem_ok (root := root) (d := d) (i := (i : Int)) a b hm9 hp hK hf
        rw [item_there hi] at h
        exact h
      have hE : ∀ W, SchemaAt W A n c S → BytesAt W B m k bs → Calls Tryd.prog 9 #[.slice A n c, .int .i64 root, .slice B m k, .int .i64 d, .string p, .int .i64 (thingsP f (atP (S.map MsgV.d) root d p bs) : Int)] W fun e W' => ∃ A' n' c', e = .returned (.tuple #[.slice A' n' c', .int .u8 11]) ∧ Ext W W' := by
        intro W a b
        have h := pItem_ok (root := root) (d := d) (i := (thingsP f (atP (S.map MsgV.d) root d p bs) : Int)) a b hm9 hp hK hf
        rw [item_end] at h
        refine h.mono ?_
        rintro e w' ⟨A', c', h1, h2⟩
        exact ⟨A', _, c', h1, h2.ext⟩
      have hWo := fun W (a : SchemaAt W A n c S) (b : BytesAt W B m k bs) => pWords_ok (root := root) (d := d) a b hm9 hp hK hf
      by_cases hT : codeOf (textB f.kind) f (atP (S.map MsgV.d) root d p bs) = 0
      · have hW : (wordsAt f (atP (S.map MsgV.d) root d p bs)).2 ≠ 0 := fun e => by
          have h1 := text_number (texts_kind hT).1
          rw [(wordsAt_num e).1] at h1
          cases h1
        refine items_texts (WC := (wordsAt f (atP (S.map MsgV.d) root d p bs)).2) (ts := textsAt f (atP (S.map MsgV.d) root d p bs)) (it := fun i => (itemV f (atP (S.map MsgV.d) root d p bs) i).1) alive22 hs hb hm hp hW (wordsAt_le _ _) hn (fun i hi => ?_) hC (fun W a b => (hWo W a b).mono ?_) (fun W a b => ?_) hI hE
        · obtain ⟨x, h1, h2⟩ := item_text hT hi
          rw [h2]
          exact h1
        · rintro e w' ⟨A', c', h1, h2⟩
          exact ⟨A', _, c', h1, h2.ext⟩
        · have ht := texts_things hT
          refine (pTexts_ok (root := root) (d := d) a b hm9 hp hK hf hT).mono ?_
          rintro e w' ⟨l, A', n', c', h1, h2, h3, h4⟩
          have hl := h2.length
          have h5 := congrArg List.length h3
          unfold bytesR at h5
          rw [List.length_map, hl, ht] at h5
          subst h5
          exact ⟨l, A', c', h1, h2, h3, h4⟩
      · have hX := fun W (a : SchemaAt W A n c S) (b : BytesAt W B m k bs) => pTexts_no (root := root) (d := d) a b hm9 hp hK hf rfl hT
        by_cases hW : (wordsAt f (atP (S.map MsgV.d) root d p bs)).2 = 0
        · have hl : (wordsAt f (atP (S.map MsgV.d) root d p bs)).1.length = thingsP f (atP (S.map MsgV.d) root d p bs) := words_things hf hW
          have hk := number_bd (wordsAt_num hW).1
          refine items_words (ws := (wordsAt f (atP (S.map MsgV.d) root d p bs)).1) (it := fun i => (itemV f (atP (S.map MsgV.d) root d p bs) i).1) (K := f.kind.toNat) alive22 hs hb hm hp hT (codeOf_le _ _ _) hn hl (by omega) (fun i hi => ?_) hC (fun W a b => ?_) hX hI hE
          · obtain ⟨x, h1, h2, h3⟩ := item_word hW (i := i) (by omega) hi
            refine ⟨x, h1, ?_⟩
            rw [h2, Int.toNat_of_nonneg (by omega)]
            exact h3
          · have h := hWo W a b
            rw [hW, hl] at h
            exact h
        · refine items_none (WC := (wordsAt f (atP (S.map MsgV.d) root d p bs)).2) (it := fun i => (itemV f (atP (S.map MsgV.d) root d p bs) i).1) alive22 hs hb hm hp hT (codeOf_le _ _ _) hW (wordsAt_le _ _) hn hC (fun W a b => (hWo W a b).mono ?_) hX hI hE
          rintro e w' ⟨A', c', h1, h2⟩
          exact ⟨A', _, c', h1, h2.ext⟩
    · exact items_bad alive22 hs hb hm hp hK (wayAt_le _ _ _ _ _) (fun W a b => pCount_bad (root := root) (d := d) a b hm9 hp rfl hK)
  · exact items_great alive22 hs hb (by omega) hp

end Go.Proofs.YtlhbllaojjelcaaDoor
