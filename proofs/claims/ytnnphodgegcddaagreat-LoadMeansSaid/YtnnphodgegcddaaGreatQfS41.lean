/- Plain words of layer 20: the records of a load, and what they mean. No program is named. -/
import Derived.Test.YtnnphodgegcddaaGreatQfS36
import Derived.Test.YtnnphodgegcddaaGreatQfS35
import Derived.Test.YtnnphodgegcddaaGreatQfW18

namespace Go.Proofs.YtnnphodgegcddaaGreat
open Go.RowKit
open Go.Lib (uvarint)
set_option linter.unusedVariables false

def chunksL (f : FieldD) (bs : List UInt8) : List (List UInt8) :=
 if runL f = true then (if bs = [] then [] else [putB f.number 2 bs]) else (itemsL f.rep bs).map fun x => putB f.number (wireI f.kind) x.1

def wordsL (f : FieldD) (bs : List UInt8) : List Nat :=
 if runL f = true then (wordsV f.kind bs).1 else if numberB f.kind = true then (itemsL f.rep bs).map fun x => (readS f.kind x.1).1 else []

def piecesL (f : FieldD) (bs : List UInt8) : List (List UInt8) := if numberB f.kind = true then [] else (itemsL f.rep bs).map fun x => x.1

theorem items_mem_le : ∀ (f : Nat) (bs : List UInt8), ∀ x ∈ itemsF f bs, x.1.length ≤ bs.length
 | 0, bs, x, h => by simp [itemsF] at h
 | f + 1, bs, x, h => by
   unfold itemsF at h
   split at h
   · cases h
   · split at h
     · rcases List.mem_cons.1 h with rfl | h
       · simp only [List.length_take, List.length_drop]
         omega
       · have := items_mem_le f _ x h
         rw [List.length_drop] at this
         omega
     · simp only [List.mem_singleton] at h
       subst h
       exact Nat.zero_le _

theorem itemsL_mem_le {rep : Bool} {bs : List UInt8} {x : List UInt8 × Nat} (h : x ∈ itemsL rep bs) : x.1.length ≤ bs.length := by
 unfold itemsL at h
 split at h
 · exact items_mem_le _ _ x h
 · simp only [List.mem_singleton] at h
   subst h
   exact Nat.le_refl _

section
variable {S : List MsgD} {m i : Nat} {M : MsgD} {f : FieldD}

theorem kind_wire2 (hkb : kindB f.kind = true) (hn : numberB f.kind = false) : wireI f.kind = 2 := by
 unfold kindB at hkb
 have hk' := of_decide_eq_true hkb
 unfold numberB at hn
 have hn' := of_decide_eq_false hn
 unfold wireI
 rw [if_neg (by omega), if_neg (by omega), if_neg (by omega)]

theorem record_run (hR : rightS S = true) (hM : S[m]? = some M) (hf : M.fields[i]? = some f) (hr : runL f = true) {val : List UInt8} (hc : codeV f.kind val = 0) (hl : val.length < 18446744073709551616) (d : Nat) :
  Chunk M.fields i f (putB f.number 2 val) (wordsV f.kind val).1 [] ∧ (firstV S d m (putB f.number 2 val)).2 = 0 := by
 obtain ⟨⟨T, hT⟩, n1, n2, _⟩ := right_number hR hM hf
 have hrr : f.rep = true ∧ numberB f.kind = true := by
  unfold runL at hr
  simpa using hr
 have hr2 : rightB (T : Int) ((2 : Nat) : Int) = true := rightB_of (by omega) (by omega) (by decide)
 have hs : ∀ r : Rec, r.n = T → r.w = 2 → seenV M.fields r = (⟨r, (i : Int), true⟩, 0) := fun r h1 h2 => by
  rw [seen_own hR hM hf (by rw [h1, hT]), hrr.1, hrr.2, h2]
  rfl
 have h := chunk_of (i := i) (f := f) (fs := M.fields) (T := T) (V := 2) (val := val) (run := true) hr2 (fits_2 _) hl hs
 rw [hT]
 refine ⟨h, putB_valid hM hr2 (fits_2 _) hl hs (fun c u h1 h2 h3 => ?_)⟩
 rw [(valueC_run (subC S d) none h1 hf h2).1]
 show codeV f.kind (valueO c u) = 0
 rw [h3]
 exact hc

theorem record_word (hR : rightS S = true) (hM : S[m]? = some M) (hf : M.fields[i]? = some f) (hn : numberB f.kind = true) (hr : f.rep = false) {val : List UInt8} (hc : (readS f.kind val).2 = 0) (hl : val.length < 18446744073709551616) (d : Nat) :
  Chunk M.fields i f (putB f.number (wireI f.kind) val) [(readS f.kind val).1] [] ∧ (firstV S d m (putB f.number (wireI f.kind) val)).2 = 0 := by
 obtain ⟨⟨T, hT⟩, n1, n2, hkb⟩ := right_number hR hM hf
 have hfit : fitsV (wireI f.kind) val = true := by
  rw [sRead_0 hn val] at hc
  by_cases h : fitsV (wireI f.kind) val = true
  · exact h
  · rw [if_neg h] at hc
    cases hc
 obtain ⟨V, hV, hV2, _⟩ := wire_fits hn (w := 0) (by decide)
 have hr2 : rightB (T : Int) (V : Int) = true := rightB_of (by omega) (by omega) hV2
 have hs : ∀ r : Rec, r.n = T → r.w = V → seenV M.fields r = (⟨r, (i : Int), false⟩, 0) := fun r h1 h2 => by
  rw [seen_own hR hM hf (by rw [h1, hT]), hr]
  simp [hkb, hV, h2]
 rw [hV] at hfit
 have h := chunk_of (i := i) (f := f) (fs := M.fields) (T := T) (V := V) (val := val) (run := false) hr2 hfit hl hs
 have e1 : wordsX f false val = [(readS f.kind val).1] := by
  unfold wordsX
  rw [hn]
  rfl
 have e2 : piecesX f false val = [] := by
  unfold piecesX
  rw [hn]
  rfl
 rw [e1, e2] at h
 rw [hT, hV]
 have h15 : ¬ f.kind = 15 := by
  intro q
  rw [q] at hn
  cases hn
 refine ⟨h, putB_valid hM hr2 hfit hl hs (fun c u h1 h2 h3 => ?_)⟩
 rw [(valueC_other (subC S d) none h1 hf h2 h15 (number_17 hn)).1]

theorem record_piece (hR : rightS S = true) (hM : S[m]? = some M) (hf : M.fields[i]? = some f) (hn : numberB f.kind = false) {val : List UInt8} {d : Nat} (h15 : f.kind = 15 → rightT val = true) (h17 : f.kind = 17 → (firstV S d f.of_.toNat val).2 = 0) (hl : val.length < 18446744073709551616) :
  Chunk M.fields i f (putB f.number (wireI f.kind) val) [] [val] ∧ (firstV S (d + 1) m (putB f.number (wireI f.kind) val)).2 = 0 := by
 obtain ⟨⟨T, hT⟩, n1, n2, hkb⟩ := right_number hR hM hf
 have hw2 := kind_wire2 hkb hn
 have hc := chunk_piece hR hM hf hn hl
 rw [hw2]
 have hr2 : rightB (T : Int) ((2 : Nat) : Int) = true := rightB_of (by omega) (by omega) (by decide)
 have hs : ∀ r : Rec, r.n = T → r.w = 2 → seenV M.fields r = (⟨r, (i : Int), false⟩, 0) := fun r h1 h2 => by
  rw [seen_own hR hM hf (by rw [h1, hT]), hn]
  simp [hkb, hw2, h2]
 refine ⟨hc, ?_⟩
 rw [hT]
 refine putB_valid hM hr2 (fits_2 _) hl hs (fun c u h1 h2 h3 => ?_)
 by_cases k15 : f.kind = 15
 · rw [(valueC_text (subC S (d + 1)) none h1 hf h2 k15).1]
   have := h15 k15
   rw [← h3] at this
   have this : rightT (spanB c u.r.a u.r.t) = true := this
   simp [this]
 · by_cases k17 : f.kind = 17
   · rw [((valueC_sub (S := S) (d := d + 1) (bs := c) h1 hf h2 k17).2 d rfl).1]
     show (firstV S d f.of_.toNat (valueO c u)).2 = 0
     rw [h3]
     exact h17 k17
   · rw [(valueC_other (subC S (d + 1)) none h1 hf h2 k15 k17).1]

theorem one_fine {d : Int} {b : List UInt8} (h : oneL S f d b = 0) : (numberB f.kind = true → (readS f.kind b).2 = 0) ∧ (f.kind = 15 → rightT b = true) ∧ (f.kind = 17 → (checkB S f.of_ b d).2 = 0) := by
 unfold oneL at h
 refine ⟨fun hn => ?_, fun h15 => ?_, fun h17 => ?_⟩
 · rw [if_pos hn] at h
   exact h
 · rw [if_neg (by rw [h15]; decide), if_pos h15] at h
   by_cases ht : rightT b = true
   · exact ht
   · rw [if_neg ht] at h
     cases h
 · rw [if_neg (by rw [h17]; decide), if_neg (by rw [h17]; decide), if_pos h17] at h
   exact h

theorem runL_rep (h : runL f = false) (hn : numberB f.kind = true) : f.rep = false := by
 unfold runL at h
 rw [hn, Bool.and_true] at h
 exact h

theorem load_chunks (hR : rightS S = true) (hM : S[m]? = some M) (hf : M.fields[i]? = some f) {d : Int} {bs : List UInt8} (hc : codeL S f bs d = 0) (hl : bs.length ≤ 100000) :
  (∀ c ∈ chunksL f bs, ∃ ws ps, Chunk M.fields i f c ws ps) ∧ ((chunksL f bs).flatMap fun c => (viewsO (viewsV M.fields c).1 i).flatMap (wordsO f c)) = wordsL f bs ∧
   ((chunksL f bs).flatMap fun c => (viewsO (viewsV M.fields c).1 i).flatMap (piecesO f c)) = piecesL f bs ∧ ∀ c ∈ chunksL f bs, (firstV S (d.toNat + 1) m c).2 = 0 := by
 have h0 : argsL S f d = 0 := by
  by_cases h0 : argsL S f d = 0
  · exact h0
  · rw [codeL_bad h0] at hc
    exact absurd hc h0
 rcases hr : runL f with _ | _
 · rw [codeL_items h0 hr] at hc
   have hfine := firstL_fine hc
   have key : ∀ x ∈ itemsL f.rep bs, Chunk M.fields i f (putB f.number (wireI f.kind) x.1) (if numberB f.kind = true then [(readS f.kind x.1).1] else []) (if numberB f.kind = true then [] else [x.1]) ∧ (firstV S (d.toNat + 1) m (putB f.number (wireI f.kind) x.1)).2 = 0 := fun x hx => by
    obtain ⟨_, h2⟩ := hfine x hx
    obtain ⟨o1, o2, o3⟩ := one_fine h2
    have hxl := itemsL_mem_le hx
    rcases hn : numberB f.kind with _ | _
    · exact record_piece hR hM hf hn o2 (fun h17 => by
       have := o3 h17
       exact (check_right this).2.2.2.2.2) (by omega)
    · exact record_word hR hM hf hn (runL_rep hr hn) (o1 hn) (by omega) _
   have hch : chunksL f bs = (itemsL f.rep bs).map fun x => putB f.number (wireI f.kind) x.1 := by
    unfold chunksL
    rw [if_neg (by rw [hr]; decide)]
   rw [hch]
   refine ⟨fun c hc => ?_, ?_, ?_, fun c hc => ?_⟩
   · obtain ⟨x, hx, rfl⟩ := List.mem_map.1 hc
     exact ⟨_, _, (key x hx).1⟩
   · rw [List.flatMap_map]
     have : wordsL f bs = (itemsL f.rep bs).flatMap fun x => if numberB f.kind = true then [(readS f.kind x.1).1] else [] := by
      unfold wordsL
      rw [if_neg (by rw [hr]; decide)]
      rcases numberB f.kind with _ | _
      · simp
      · simp [List.map_eq_flatMap]
     rw [this]
     exact flat_congr fun x hx => (key x hx).1.words
   · rw [List.flatMap_map]
     have : piecesL f bs = (itemsL f.rep bs).flatMap fun x => if numberB f.kind = true then [] else [x.1] := by
      unfold piecesL
      rcases numberB f.kind with _ | _
      · simp [List.map_eq_flatMap]
      · simp
     rw [this]
     exact flat_congr fun x hx => (key x hx).1.pieces
   · obtain ⟨x, hx, rfl⟩ := List.mem_map.1 hc
     exact (key x hx).2
 · rw [codeL_run h0 hr] at hc
   have hn : numberB f.kind = true := by
    unfold runL at hr
    rw [Bool.and_eq_true] at hr
    exact hr.2
   obtain ⟨k1, k2⟩ := record_run hR hM hf hr hc (by omega) (d.toNat + 1)
   have hw : wordsL f bs = (wordsV f.kind bs).1 := by
    unfold wordsL
    rw [if_pos hr]
   have hp : piecesL f bs = [] := by
    unfold piecesL
    rw [if_pos hn]
   rw [hw, hp]
   by_cases hb : bs = []
   · have hch : chunksL f bs = [] := by
      unfold chunksL
      rw [if_pos hr, if_pos hb]
     rw [hch]
     refine ⟨fun c hc => (by cases hc), ?_, rfl, fun c hc => (by cases hc)⟩
     have hv : valsV f.kind [] = [] := by
      unfold valsV
      rw [if_neg (by rw [hn]; decide)]
      rfl
     rw [hb]
     unfold wordsV
     rw [hv]
     simp
   · have hch : chunksL f bs = [putB f.number 2 bs] := by
      unfold chunksL
      rw [if_pos hr, if_neg hb]
     rw [hch]
     refine ⟨fun c hc => ?_, by simpa using k1.words, by simpa using k1.pieces, fun c hc => ?_⟩
     · simp only [List.mem_singleton] at hc
       subst hc
       exact ⟨_, _, k1⟩
     · simp only [List.mem_singleton] at hc
       subst hc
       exact k2

theorem filterMap_one {i : Nat} {v : Option ValT} : ∀ {F : List Nat}, F.Nodup → i ∈ F → ∀ {g : Nat → Option ValT}, (∀ k, k ∈ F → k ≠ i → g k = none) → g i = v → F.filterMap g = v.toList
 | [], _, h, _, _, _ => by cases h
 | k :: F, hn, h, g, h1, h2 => by
   rw [List.nodup_cons] at hn
   rcases List.mem_cons.1 h with rfl | h
   · have h3 : F.filterMap g = [] := by
      rw [List.filterMap_eq_nil_iff]
      intro a ha
      exact h1 a (List.mem_cons_of_mem _ ha) (fun e => hn.1 (e ▸ ha))
     rw [List.filterMap_cons, h2, h3]
     cases v <;> rfl
   · have hk : k ≠ i := fun e => hn.1 (e ▸ h)
     rw [List.filterMap_cons, h1 k List.mem_cons_self hk]
     exact filterMap_one hn.2 h (fun a ha => h1 a (List.mem_cons_of_mem _ ha)) h2

theorem ofM_chunks (hR : rightS S = true) (hM : S[m]? = some M) (hf : M.fields[i]? = some f) {cs : List (List UInt8)} {ws : List Nat} {ps : List (List UInt8)} (h : ∀ c ∈ cs, ∃ ws ps, Chunk M.fields i f c ws ps)
  (hw : (cs.flatMap fun c => (viewsO (viewsV M.fields c).1 i).flatMap (wordsO f c)) = ws) (hp : (cs.flatMap fun c => (viewsO (viewsV M.fields c).1 i).flatMap (piecesO f c)) = ps) (hne : cs = [] → manyU (valueU (fun _ _ => .mk () () [] []) f ws ps) = 0) (sub : Nat → List UInt8 → MsgT) :
  ofM sub S m cs.flatten = .mk () () (if manyU (valueU sub f ws ps) = 0 then [] else [valueU sub f ws ps]) [] := by
 have hok : ∀ c ∈ cs, (viewsV M.fields c).2.2 = 0 := fun c hc => by
  obtain ⟨_, _, k⟩ := h c hc
  exact k.ok
 unfold ofM
 rw [hM]
 simp only
 have hunk : (((viewsV M.fields cs.flatten).1.filter fun v => decide (v.field < 0)).map fun v => textO (spanB cs.flatten v.r.f v.r.t)) = [] := by
  rw [all_unk hok, List.flatMap_eq_nil_iff]
  intro c hc
  obtain ⟨_, _, k⟩ := h c hc
  rw [k.unk]
  rfl
 rw [hunk]
 have hi : i ∈ sortK (keyF M.fields) M.fields.length := sortK_mem.2 (List.getElem?_eq_some_iff.1 hf).1
 have hnd : (sortK (keyF M.fields) M.fields.length).Nodup := (right_sorted hR hM).imp (fun h e => by subst e; omega)
 have hv : (sortK (keyF M.fields) M.fields.length).filterMap (placeO sub M.fields cs.flatten (viewsV M.fields cs.flatten).1) = (if manyU (valueU sub f ws ps) = 0 then none else some (valueU sub f ws ps) : Option ValT).toList := by
  refine filterMap_one hnd hi (fun k _ hk => ?_) ?_
  · have hno : viewsO (viewsV M.fields cs.flatten).1 k = [] := (all_own k hok).2 (fun c hc => by
     obtain ⟨_, _, q⟩ := h c hc
     exact q.other k hk)
    unfold placeO
    rcases M.fields[k]? with _ | g
    · rfl
    · simp only
      rw [if_pos hno]
  · unfold placeO
    rw [hf]
    simp only
    rw [fieldO_eq, all_words f i hok, all_pieces f i hok, hw, hp]
    by_cases hcs : cs = []
    · rw [if_pos ((all_own i hok).2 (fun c hc => by rw [hcs] at hc; cases hc))]
      have := hne hcs
      have e : manyU (valueU sub f ws ps) = manyU (valueU (fun _ _ => .mk () () [] []) f ws ps) := by rw [manyU_value, manyU_value]
      rw [e, if_pos this]
    · rw [if_neg (fun q => by
       obtain ⟨c, hc⟩ := List.exists_mem_of_ne_nil cs hcs
       obtain ⟨_, _, k⟩ := h c hc
       exact k.own ((all_own i hok).1 q c hc))]
 rw [hv]
 split <;> rfl
end

end Go.Proofs.YtnnphodgegcddaaGreat

/- Plain words of layer 20: the records of a load mean the load's value; a value's load is read back. No program is named. -/

namespace Go.Proofs.YtnnphodgegcddaaGreat
open Go.RowKit
open Go.Lib (uvarint)
set_option linter.unusedVariables false

section
variable {S : List MsgD} {m i : Nat} {M : MsgD} {f : FieldD} {sub : Nat → List UInt8 → MsgT}

theorem valueL_other {bs : List UInt8} {d : Int} (hr : runL f = false) (hn : numberB f.kind = false) : valueL S f bs d = if f.kind = 17 then ⟨(), (), (), f.number, [], [], ((itemsL f.rep bs).map fun x => OfT S f.of_ x.1 d)⟩ else ⟨(), (), (), f.number, [], ((itemsL f.rep bs).map fun x => (⟨x.1.toArray⟩ : ByteArray)), []⟩ := by
 unfold valueL
 rw [if_neg (by rw [hr]; decide), if_neg (by rw [hn]; decide)]

theorem value_load {bs : List UInt8} {d : Int} (hc : codeL S f bs d = 0) (hsub : f.kind = 17 → ∀ x ∈ itemsL f.rep bs, sub f.of_.toNat x.1 = OfT S f.of_ x.1 d) : valueU sub f (wordsL f bs) (piecesL f bs) = valueL S f bs d := by
 have h0 : argsL S f d = 0 := by
  by_cases h0 : argsL S f d = 0
  · exact h0
  · rw [codeL_bad h0] at hc
    exact absurd hc h0
 unfold valueU
 rcases hr : runL f with _ | _
 · rcases hn : numberB f.kind with _ | _
   · have e1 : wordsL f bs = [] := by
      unfold wordsL
      rw [if_neg (by rw [hr]; decide), if_neg (by rw [hn]; decide)]
     have e2 : piecesL f bs = (itemsL f.rep bs).map fun x => x.1 := by
      unfold piecesL
      rw [if_neg (by rw [hn]; decide)]
     have e3 : pwordsO f [] = [] := by
      unfold pwordsO
      split <;> rfl
     have e4 : ppiecesO f ((itemsL f.rep bs).map fun x => x.1) = (itemsL f.rep bs).map fun x => x.1 := by
      unfold ppiecesO
      rcases hrep : f.rep with _ | _
      · unfold itemsL
        rw [if_neg (by decide)]
        simp [lastO]
      · rw [if_pos rfl]
     rw [e1, e2, e3, e4]
     rw [valueL_other hr hn]
     by_cases h17 : f.kind = 17
     · simp only [if_pos h17, List.map_map]
       congr 1
       exact List.map_congr_left fun x hx => hsub h17 x hx
     · simp only [if_neg h17, List.map_map]
       rfl
   · have hrep := runL_rep hr hn
     have h17 := number_17 hn
     have e1 : wordsL f bs = [(readS f.kind bs).1] := by
      unfold wordsL itemsL
      rw [if_neg (by rw [hr]; decide), if_pos hn, if_neg (by rw [hrep]; decide)]
      rfl
     have e2 : piecesL f bs = [] := by
      unfold piecesL
      rw [if_pos hn]
     rw [e1, e2]
     unfold valueL pwordsO ppiecesO itemsL
     simp [hr, hn, hrep, h17, lastO]
 · have hrr : f.rep = true ∧ numberB f.kind = true := by
    unfold runL at hr
    simpa using hr
   have h17 := number_17 hrr.2
   rw [codeL_run h0 hr] at hc
   have e1 : wordsL f bs = (valsV f.kind bs).map fun u => (readS f.kind u.1).1 := by
    unfold wordsL wordsV
    rw [if_pos hr, if_pos hc]
   have e2 : piecesL f bs = [] := by
    unfold piecesL
    rw [if_pos hrr.2]
   rw [e1, e2]
   unfold valueL pwordsO ppiecesO
   simp [hr, hrr.1, h17]

theorem items_many {bs : List UInt8} {d : Int} (hc : codeL S f bs d = 0) (h : chunksL f bs = []) : manyU (valueU (fun _ _ => .mk () () [] []) f (wordsL f bs) (piecesL f bs)) = 0 := by
 have h0 : argsL S f d = 0 := by
  by_cases h0 : argsL S f d = 0
  · exact h0
  · rw [codeL_bad h0] at hc
    exact absurd hc h0
 rw [manyU_value]
 unfold chunksL at h
 rcases hr : runL f with _ | _
 · rw [if_neg (by rw [hr]; decide), List.map_eq_nil_iff] at h
   have hrep : f.rep = true := by
    rcases hrep : f.rep with _ | _
    · rw [hrep] at h
      cases h
    · rfl
   have e1 : wordsL f bs = [] := by
    unfold wordsL
    rw [if_neg (by rw [hr]; decide), h]
    split <;> rfl
   have e2 : piecesL f bs = [] := by
    unfold piecesL
    rw [h]
    split <;> rfl
   rw [e1, e2]
   unfold pwordsO ppiecesO
   simp [hrep]
 · have hrr : f.rep = true ∧ numberB f.kind = true := by
    unfold runL at hr
    simpa using hr
   rw [if_pos hr] at h
   have hb : bs = [] := by
    by_cases hb : bs = []
    · exact hb
    · rw [if_neg hb] at h
      cases h
   have hv : valsV f.kind bs = [] := by
    rw [hb]
    unfold valsV
    rw [if_neg (by rw [hrr.2]; decide)]
    rfl
   have e1 : wordsL f bs = [] := by
    unfold wordsL wordsV
    rw [if_pos hr, hv]
    simp
   have e2 : piecesL f bs = [] := by
    unfold piecesL
    rw [if_pos hrr.2]
   rw [e1, e2]
   unfold pwordsO ppiecesO
   simp [hrr.1]

def recordsL (f : FieldD) (bs : List UInt8) : List UInt8 := (chunksL f bs).flatten

theorem records_mean (hR : rightS S = true) (hM : S[m]? = some M) (hf : M.fields[i]? = some f) {bs : List UInt8} {d : Int} (hc : codeL S f bs d = 0) (hl : bs.length ≤ 100000) :
  (firstV S (d.toNat + 1) m (recordsL f bs)).2 = 0 ∧ ∀ D, (recordsL f bs).length ≤ D → ofV S D m (recordsL f bs) = .mk () () (if manyU (valueL S f bs d) = 0 then [] else [valueL S f bs d]) [] := by
 obtain ⟨c1, c2, c3, c4⟩ := load_chunks hR hM hf hc hl
 refine ⟨flat_valid c4, fun D hD => ?_⟩
 have key : ∀ sub : Nat → List UInt8 → MsgT, (f.kind = 17 → ∀ x ∈ itemsL f.rep bs, sub f.of_.toNat x.1 = OfT S f.of_ x.1 d) → ofM sub S m (recordsL f bs) = .mk () () (if manyU (valueL S f bs d) = 0 then [] else [valueL S f bs d]) [] := fun sub hsub => by
  have h := ofM_chunks hR hM hf c1 c2 c3 (items_many hc) sub
  rw [value_load hc hsub] at h
  exact h
 have h0 : argsL S f d = 0 := by
  by_cases h0 : argsL S f d = 0
  · exact h0
  · rw [codeL_bad h0] at hc
    exact absurd hc h0
 have small : f.kind = 17 → ∀ x ∈ itemsL f.rep bs, x.1.length + 1 ≤ D ∧ (checkB S f.of_ x.1 d).2 = 0 := fun h17 x hx => by
  have hn : numberB f.kind = false := by rw [h17]; decide
  have hr : runL f = false := by
   unfold runL
   rw [hn, Bool.and_false]
  rw [codeL_items h0 hr] at hc
  have hch : chunksL f bs = (itemsL f.rep bs).map fun x => putB f.number (wireI f.kind) x.1 := by
   unfold chunksL
   rw [if_neg (by rw [hr]; decide)]
  have hw2 : wireI f.kind = 2 := by rw [h17]; decide
  have hm : putB f.number 2 x.1 ∈ chunksL f bs := by
   rw [hch, ← hw2]
   exact List.mem_map.2 ⟨x, hx, rfl⟩
  have h1 := mem_flatten_le hm
  have h2 := putB_len f.number x.1
  have h3 := Go.Lib.uvarint_pos x.1.length
  have h4 : (recordsL f bs).length = (chunksL f bs).flatten.length := rfl
  exact ⟨by omega, (one_fine (firstL_fine hc x hx).2).2.2 h17⟩
 cases D with
 | zero =>
   refine key _ (fun h17 x hx => ?_)
   have := (small h17 x hx).1
   omega
 | succ D =>
   refine key _ (fun h17 x hx => ?_)
   obtain ⟨s1, s2⟩ := small h17 x hx
   unfold OfT
   rw [if_pos s2]
   exact ofV_fuel S _ _ _ _ (by omega) (Nat.le_refl _)

theorem load_fits (hR : rightS S = true) (hM : S[m]? = some M) (hf : M.fields[i]? = some f) {bs : List UInt8} {d : Int} (hc : codeL S f bs d = 0) (hl : bs.length ≤ 100000) (hm : manyU (valueL S f bs d) ≠ 0) : RightF (RightV S d.toNat) f (valueL S f bs d) := by
 obtain ⟨h1, h2⟩ := records_mean hR hM hf hc hl
 have h3 := h2 (recordsL f bs).length (Nat.le_refl _)
 rw [if_neg hm] at h3
 have hml : m < S.length := (List.getElem?_eq_some_iff.1 hM).1
 have h4 := of_right hR (d.toNat + 1) (recordsL f bs).length m (recordsL f bs) hml h1 (Nat.le_refl _)
 rw [h3] at h4
 obtain ⟨M', hM', _, hv, _⟩ := h4
 rw [hM] at hM'
 cases hM'
 obtain ⟨j, g, hg, hr⟩ := hv (valueL S f bs d) (List.mem_singleton.2 rfl)
 have hnum : (valueL S f bs d).number = f.number := by
  unfold valueL
  split
  · rfl
  · split
    · rfl
    · split <;> rfl
 have hgf : g = f := by
  have e1 := (right_field hR hM hg).2
  have e2 := (right_field hR hM hf).2
  have : g.number = f.number := by rw [← hr.1, hnum]
  rw [this, e2] at e1
  have hij : i = j := by omega
  subst hij
  rw [hf] at hg
  cases hg
  rfl
 rw [hgf] at hr
 exact hr

theorem items_parts : ∀ (ps : List (List UInt8)), (∀ p ∈ ps, p.length < 18446744073709551616) → ∀ k, ((ps.map (partL true)).flatten).length ≤ k → itemsF k ((ps.map (partL true)).flatten) = ps.map fun p => (p, 0)
 | [], _, k, _ => by cases k <;> rfl
 | p :: ps, h, 0, hk => by
   have := Go.Lib.uvarint_pos p.length
   rw [List.map_cons, List.flatten_cons, partL_yes] at hk
   simp only [List.length_append] at hk
   omega
 | p :: ps, h, k + 1, hk => by
   have hp := h p List.mem_cons_self
   have hu := Go.Lib.uvarint_pos p.length
   rw [List.map_cons, List.flatten_cons, partL_yes, List.append_assoc] at hk ⊢
   have hr := readV_uvarint p.length (p ++ ((ps.map (partL true)).flatten)) hp
   have hit : itemN (uvarint p.length ++ (p ++ ((ps.map (partL true)).flatten))) = ((uvarint p.length).length, p.length, 0) := by
    unfold itemN
    rw [hr]
    simp only
    rw [if_neg (by simp), if_neg (by simp only [List.length_append]; omega)]
   have hne : uvarint p.length ++ (p ++ ((ps.map (partL true)).flatten)) ≠ [] := by
    intro e
    have := congrArg List.length e
    simp only [List.length_append, List.length_nil] at this
    omega
   rw [itemsF_ok hne (by rw [hit]), hit]
   simp only
   have e1 : (uvarint p.length ++ (p ++ ((ps.map (partL true)).flatten))).drop ((uvarint p.length).length + p.length) = ((ps.map (partL true)).flatten) := by
    rw [← List.append_assoc, List.drop_left' (by simp)]
   have e2 : ((uvarint p.length ++ (p ++ ((ps.map (partL true)).flatten))).drop (uvarint p.length).length).take p.length = p := by
    rw [List.drop_left' rfl, List.take_left' rfl]
   rw [e1, e2, items_parts ps (fun q hq => h q (List.mem_cons_of_mem _ hq)) k (by simp only [List.length_append] at hk; omega)]
   rfl

theorem items_back {rep : Bool} {ps : List (List UInt8)} (h : ∀ p ∈ ps, p.length < 18446744073709551616) (h1 : rep = false → ps.length = 1) : itemsL rep ((ps.map (partL rep)).flatten) = ps.map fun p => (p, 0) := by
 unfold itemsL
 rcases rep with _ | _
 · obtain ⟨p, hp⟩ := List.length_eq_one_iff.1 (h1 rfl)
   rw [hp]
   simp [partL_no]
 · rw [if_pos rfl]
   exact items_parts ps h _ (Nat.le_refl _)

theorem from_back (hR : rightS S = true) {x : ValT} {d : Int} (h0 : argsL S f d = 0) (hx : RightF (RightV S d.toNat) f x) (hb : ∀ p ∈ partsL S d.toNat f x, p.length ≤ 100000) : codeL S f (fromL S d.toNat f x) d = 0 ∧ valueL S f (fromL S d.toNat f x) d = x := by
 obtain ⟨hnum, hmany, hone, hk⟩ := hx
 obtain ⟨xa, xb, xc, xn, xw, xt, xs⟩ := x
 simp only at hnum
 subst hnum
 rcases hk with ⟨hn, ht, hs, hw⟩ | ⟨hn, hkb, h17, hw, hs, h15⟩ | ⟨h17, hw, ht, hs⟩
 · simp only at ht hs hw
   subst ht hs
   have e : fromL S d.toNat f ⟨xa, xb, xc, f.number, xw, [], []⟩ = packW f.kind xw := by
    unfold fromL
    rw [if_pos hn]
   rw [e]
   rcases hr : f.rep with _ | _
   · have hrun : runL f = false := by
      unfold runL
      rw [hr]
      rfl
     have hl : xw.length = 1 := by
      have := hone hr
      unfold manyU at this
      simpa using this
     obtain ⟨w, rfl, hp⟩ := packW_one (k := f.kind) hl
     have hrd := readS_put hn (hw w List.mem_cons_self).1
     rw [hp]
     have hit : itemsL f.rep (putS f.kind w) = [(putS f.kind w, 0)] := by
      unfold itemsL
      rw [if_neg (by rw [hr]; decide)]
     refine ⟨?_, ?_⟩
     · rw [codeL_items h0 hrun, hit]
       refine firstL_all fun y hy => ?_
       rw [List.mem_singleton] at hy
       subst hy
       refine ⟨rfl, ?_⟩
       unfold oneL
       rw [if_pos hn, hrd]
     · unfold valueL
       rw [if_neg (by rw [hrun]; decide), if_pos hn, hit]
       simp [hrd, (hw w List.mem_cons_self).2]
   · have hrun : runL f = true := by
      unfold runL
      rw [hr, hn]
      rfl
     have hc := code_pack hn hw
     refine ⟨by rw [codeL_run h0 hrun, hc], ?_⟩
     have hwp := words_pack hn hw
     unfold wordsV at hwp
     rw [if_pos hc] at hwp
     unfold valueL
     rw [if_pos hrun]
     simp only at hwp
     rw [hwp]
 · simp only at hw hs h15
   subst hw hs
   have hrun : runL f = false := by
    unfold runL
    rw [hn, Bool.and_false]
   have e : fromL S d.toNat f ⟨xa, xb, xc, f.number, [], xt, []⟩ = ((xt.map fun t => t.data.toList).map (partL f.rep)).flatten := by
    unfold fromL partsL
    rw [if_neg (by rw [hn]; decide)]
    simp
   have hb' : ∀ p ∈ xt.map (fun t => t.data.toList), p.length < 18446744073709551616 := fun p hp => by
    have := hb p (by unfold partsL; exact List.mem_append_left _ hp)
    omega
   have hl : f.rep = false → (xt.map fun t => t.data.toList).length = 1 := fun hr => by
    have := hone hr
    unfold manyU at this
    rw [List.length_map]
    simpa using this
   have hit := items_back (rep := f.rep) hb' hl
   rw [e]
   refine ⟨?_, ?_⟩
   · rw [codeL_items h0 hrun, hit]
     refine firstL_all fun y hy => ?_
     obtain ⟨p, hp, rfl⟩ := List.mem_map.1 hy
     obtain ⟨t, ht, rfl⟩ := List.mem_map.1 hp
     refine ⟨rfl, ?_⟩
     unfold oneL
     rw [if_neg (by rw [hn]; decide)]
     by_cases k15 : f.kind = 15
     · rw [if_pos k15, if_pos (h15 k15 t ht)]
     · rw [if_neg k15, if_neg h17]
   · rw [valueL_other hrun hn, if_neg h17, hit, List.map_map, List.map_map]
     congr 1
     exact List.map_id'' (fun t => rfl) _
 · simp only at hw ht hs
   subst hw ht
   have hn : numberB f.kind = false := by rw [h17]; decide
   have hrun : runL f = false := by
    unfold runL
    rw [hn, Bool.and_false]
   have e : fromL S d.toNat f ⟨xa, xb, xc, f.number, [], [], xs⟩ = ((xs.map fun y => encV S d.toNat f.of_.toNat y).map (partL f.rep)).flatten := by
    unfold fromL partsL
    rw [if_neg (by rw [hn]; decide)]
    simp
   have hb1 : ∀ y ∈ xs, (encV S d.toNat f.of_.toNat y).length ≤ 100000 := fun y hy => hb _ (by unfold partsL; exact List.mem_append_right _ (List.mem_map.2 ⟨y, hy, rfl⟩))
   have hb' : ∀ p ∈ xs.map (fun y => encV S d.toNat f.of_.toNat y), p.length < 18446744073709551616 := fun p hp => by
    obtain ⟨y, hy, rfl⟩ := List.mem_map.1 hp
    have := hb1 y hy
    omega
   have hl : f.rep = false → (xs.map fun y => encV S d.toNat f.of_.toNat y).length = 1 := fun hr => by
    have := hone hr
    unfold manyU at this
    rw [List.length_map]
    simpa using this
   have hit := items_back (rep := f.rep) hb' hl
   have hargs : 0 ≤ f.of_ ∧ f.of_ < S.length ∧ 0 ≤ d ∧ d ≤ 64 := by
    unfold argsL at h0
    rw [if_neg (by rw [hR]; decide)] at h0
    split at h0
    · cases h0
    · rename_i hbad
      unfold badL at hbad
      omega
   have hchk : ∀ y ∈ xs, (checkB S f.of_ (encV S d.toNat f.of_.toNat y) d).2 = 0 := fun y hy => by
    unfold checkB
    have ha : argsV S f.of_ d = 0 := by
     unfold argsV
     rw [if_neg (by rw [hR]; decide), if_neg (by omega)]
    rw [if_pos ha]
    exact enc_valid hR _ _ y (hs y hy) (by have := hb1 y hy; omega)
   rw [e]
   refine ⟨?_, ?_⟩
   · rw [codeL_items h0 hrun, hit]
     refine firstL_all fun z hz => ?_
     obtain ⟨p, hp, rfl⟩ := List.mem_map.1 hz
     obtain ⟨y, hy, rfl⟩ := List.mem_map.1 hp
     refine ⟨rfl, ?_⟩
     unfold oneL
     rw [if_neg (by rw [hn]; decide), if_neg (by rw [h17]; decide), if_pos h17]
     exact hchk y hy
   · rw [valueL_other hrun hn, if_pos h17, hit, List.map_map, List.map_map]
     congr 1
     refine Eq.trans (List.map_congr_left (g := id) fun y hy => ?_) (List.map_id _)
     show OfT S f.of_ (encV S d.toNat f.of_.toNat y) d = y
     unfold OfT
     rw [if_pos (hchk y hy)]
     exact of_enc hR _ _ _ y (hs y hy) (Nat.le_refl _) (by have := hb1 y hy; omega)
end

end Go.Proofs.YtnnphodgegcddaaGreat

/- Plain words of layer 20: how long the records of a load are, and that they can be put. No program is named. -/

namespace Go.Proofs.YtnnphodgegcddaaGreat
open Go.RowKit
open Go.Lib (uvarint)
set_option linter.unusedVariables false

theorem items_sum : ∀ (f : Nat) (bs : List UInt8), ((itemsF f bs).map fun x => 1 + x.1.length).sum ≤ bs.length
 | 0, bs => by simp [itemsF]
 | f + 1, bs => by
   unfold itemsF
   by_cases hb : bs = []
   · rw [if_pos hb]
     simp
   · rw [if_neg hb]
     have hpos : 0 < bs.length := by
      cases bs with
      | nil => exact absurd rfl hb
      | cons a l => simp
     by_cases hc : (itemN bs).2.2 = 0
     · rw [if_pos hc]
       rcases itemN_bd bs with ⟨_, h1, h2, _⟩ | ⟨h, _⟩
       · have ih := items_sum f (bs.drop ((itemN bs).1 + (itemN bs).2.1))
         rw [List.length_drop] at ih
         rw [List.map_cons, List.sum_cons]
         simp only [List.length_take, List.length_drop]
         omega
       · exact absurd hc h
     · rw [if_neg hc]
       simp
       omega

theorem itemsL_sum (rep : Bool) (bs : List UInt8) : ((itemsL rep bs).map fun x => 1 + x.1.length).sum ≤ bs.length + 1 := by
 unfold itemsL
 split
 · have := items_sum bs.length bs
   omega
 · simp
   omega

section
variable {S : List MsgD} {m i : Nat} {M : MsgD} {f : FieldD}

theorem item_puts (hR : rightS S = true) (hM : S[m]? = some M) (hf : M.fields[i]? = some f) {bs : List UInt8} {d : Int} (hc : codeL S f bs d = 0) (hr : runL f = false) : ∀ x ∈ itemsL f.rep bs, (rightB f.number (wireI f.kind) && fitsV (wireI f.kind) x.1) = true := by
 have h0 : argsL S f d = 0 := by
  by_cases h0 : argsL S f d = 0
  · exact h0
  · rw [codeL_bad h0] at hc
    exact absurd hc h0
 rw [codeL_items h0 hr] at hc
 obtain ⟨⟨T, hT⟩, n1, n2, hkb⟩ := right_number hR hM hf
 intro x hx
 rw [Bool.and_eq_true]
 rcases hn : numberB f.kind with _ | _
 · rw [kind_wire2 hkb hn, hT]
   exact ⟨rightB_of (by omega) (by omega) (by decide), fits_2 _⟩
 · obtain ⟨V, hV, hV2, _⟩ := wire_fits hn (w := 0) (by decide)
   have h1 := (one_fine (firstL_fine hc x hx).2).1 hn
   rw [sRead_0 hn x.1] at h1
   have hfit : fitsV (wireI f.kind) x.1 = true := by
    by_cases h : fitsV (wireI f.kind) x.1 = true
    · exact h
    · rw [if_neg h] at h1
      cases h1
   rw [hV] at hfit ⊢
   rw [hT]
   exact ⟨rightB_of (by omega) (by omega) hV2, hfit⟩

theorem right_two (hR : rightS S = true) (hM : S[m]? = some M) (hf : M.fields[i]? = some f) : rightB f.number 2 = true := by
 obtain ⟨⟨T, hT⟩, n1, n2, hkb⟩ := right_number hR hM hf
 rw [hT]
 exact rightB_of (by omega) (by omega) (by decide)

theorem puts_length {w : Int} (hw : rightB f.number w = true) {l : List (List UInt8 × Nat)} (h : ∀ x ∈ l, x.1.length ≤ 100000) : ((l.map fun x => putB f.number w x.1).flatten).length ≤ 30 * (l.map fun x => 1 + x.1.length).sum :=
 flat_most (g := fun x : List UInt8 × Nat => putB f.number w x.1) (c := fun x => 1 + x.1.length) (fun x hx => by
  have h1 := h x hx
  have := putB_length hw (v := x.1) (by omega)
  omega)

theorem records_length (hR : rightS S = true) (hM : S[m]? = some M) (hf : M.fields[i]? = some f) {bs : List UInt8} {d : Int} (hc : codeL S f bs d = 0) (hl : bs.length ≤ 1000) : (recordsL f bs).length ≤ 30030 := by
 unfold recordsL chunksL
 rcases hr : runL f with _ | _
 · rw [if_neg (by decide)]
   have hs := itemsL_sum f.rep bs
   rcases hi : itemsL f.rep bs with _ | ⟨x, l⟩
   · simp
   · have hx : x ∈ itemsL f.rep bs := by rw [hi]; exact List.mem_cons_self
     have hp := item_puts hR hM hf hc hr x hx
     rw [Bool.and_eq_true] at hp
     have := puts_length hp.1 (l := itemsL f.rep bs) (fun y hy => by have := itemsL_mem_le hy; omega)
     rw [hi] at this hs
     omega
 · rw [if_pos rfl]
   by_cases hb : bs = []
   · rw [if_pos hb]
     simp
   · rw [if_neg hb]
     have := putB_length (right_two hR hM hf) (v := bs) (by omega)
     simp
     omega
end

end Go.Proofs.YtnnphodgegcddaaGreat
