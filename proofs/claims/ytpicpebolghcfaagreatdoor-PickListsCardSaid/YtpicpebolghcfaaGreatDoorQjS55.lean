/- Plain laws of layer 22: the value of a meaning at a way, out of the pieces at that way. -/
import Derived.Test.YtpicpebolghcfaaGreatDoorQjWSortS
import Derived.Test.YtpicpebolghcfaaGreatDoorQjS18b

namespace Go.Proofs.YtpicpebolghcfaaGreatDoor
open Go.RowKit Go.Shelf
set_option linter.unusedVariables false
set_option linter.unusedSimpArgs false

def getM (x : MsgT) (n : Int) : Option ValT := x.vals.find? fun v => v.number == n

def atM : List Int → MsgT → Option ValT
  | [], _ => none
  | n :: l, x => match getM x n with
    | none => none
    | some v => if l = [] then some v else match v.subs with
      | [] => none
      | y :: _ => atM l y

def solidM : List Int → MsgT → Prop
  | [], _ => True
  | n :: l, x => l ≠ [] → ∀ v, getM x n = some v → ∃ y ys, v.subs = y :: ys ∧ solidM l y

def valueP (sub : Nat → List UInt8 → MsgT) (f : FieldD) (ps : List (List UInt8)) : ValT :=
  ⟨(), (), (), f.number, if numberB f.kind = true then (wordsV f.kind (loadP f ps)).1 else [], if numberB f.kind = true ∨ f.kind = 17 then [] else (textsAt f ps).map textO,
    if f.kind = 17 then (textsAt f ps).map (sub f.of_.toNat) else []⟩

section
variable {S : List MsgD} {m : Nat} {M : MsgD} {x : Int} {f : FieldD} {i : Nat} {bs : List UInt8}

theorem views_num (hf : M.fields[i]? = some f) (hx : idxB (numP x) M.fields = (i : Nat)) : (viewsV M.fields bs).1.filter (ofP x) = viewsO (viewsV M.fields bs).1 i := by
  unfold viewsO
  refine List.filter_congr fun v hv => ?_
  obtain ⟨h1, h2⟩ := viewsV_each M.fields bs v hv
  have hof : ofP x v = decide ((v.r.n : Int) = x) := by unfold ofP; simp [Bool.beq_eq_decide_eq]
  rw [hof]
  rw [Bool.eq_iff_iff, decide_eq_true_iff, beq_iff_eq]
  rcases seenV_find M.fields v.r with ⟨hno, hs⟩ | ⟨k, g, hg, hk, hp, hi, hs⟩
  · rw [hs] at h2
    have e := congrArg (fun x : ViewD × Nat => x.1.field) h2
    simp only at e
    constructor
    · intro h
      rw [h] at hno
      rcases idxB_cases (numP x) M.fields with ⟨hI, _⟩ | ⟨j, g, hI, hg, _⟩
      · rw [hI] at hx
        omega
      · rw [find_of_idx.2 j g hI hg] at hno
        cases hno
    · intro h
      omega
  · have e : v.field = (k : Int) := by
      rw [hs] at h2
      split at h2
      · have := congrArg (fun x : ViewD × Nat => x.1.field) h2
        simp only at this
        omega
      · split at h2
        · have := congrArg (fun x : ViewD × Nat => x.1.field) h2
          simp only at this
          omega
        · have := congrArg Prod.snd h2
          simp at this
    rw [e]
    constructor
    · intro h
      rw [h, hx] at hi
      omega
    · intro h
      obtain rfl : k = i := by omega
      rw [hf] at hk
      cases hk
      have h1 : f.number = (v.r.n : Int) := by unfold numP at hp; simpa using hp
      rcases idxB_cases (numP x) M.fields with ⟨hI, _⟩ | ⟨j, g, hI, hg2, hq, _⟩
      · rw [hI] at hx
        omega
      · rw [hI] at hx
        obtain rfl : j = k := by omega
        rw [hf] at hg2
        cases hg2
        unfold numP at hq
        have : f.number = x := by simpa using hq
        omega

theorem pieces_num (hM : S[m]? = some M) (hf : M.fields[i]? = some f) (hx : idxB (numP x) M.fields = (i : Nat)) : piecesN (fieldsOf S m) bs x = (viewsO (viewsV M.fields bs).1 i).map (valueO bs) := by
  unfold piecesN fieldsOf
  rw [hM]
  simp only
  rw [views_num hf hx]

theorem pieces_other (hf : M.fields[i]? = some f) (hn : numberB f.kind = false) : (viewsO (viewsV M.fields bs).1 i).flatMap (piecesO f bs) = (viewsO (viewsV M.fields bs).1 i).map (valueO bs) := by
  have : ∀ L : List ViewD, (∀ v ∈ L, v.run = false) → L.flatMap (piecesO f bs) = L.map (valueO bs) := by
    intro L
    induction L with
    | nil => intro _; rfl
    | cons v L ih =>
      intro h
      rw [List.flatMap_cons, List.map_cons, ih (fun u hu => h u (List.mem_cons_of_mem _ hu))]
      unfold piecesO
      rw [h v List.mem_cons_self, hn]
      rfl
  refine this _ fun v hv => ?_
  rcases own_view (own_bd hv).1 (own_bd hv).2.1 hf with ⟨_, _, q⟩ | ⟨q, _⟩
  · rw [hn] at q
    cases q
  · exact q

theorem view_words {S : List MsgD} {d : Nat} (hf : M.fields[i]? = some f) (hn : numberB f.kind = true) (hc : ∀ v ∈ (viewsV M.fields bs).1, (valueC (subC S d) M.fields bs v).2 = 0) {v : ViewD} (hv : v ∈ viewsO (viewsV M.fields bs).1 i) :
    wordsV f.kind (valueO bs v) = (wordsO f bs v, 0) ∧ codeV f.kind (valueO bs v) = 0 := by
  have hb := own_bd hv
  rcases hr : v.run with _ | _
  · obtain ⟨s1, s2⟩ := view_scalar hb.1 hb.2.1 hf hr hn
    have hw := words_one hn s1 s2
    have ho : wordsO f bs v = [(readS f.kind (valueO bs v)).1] := by
      unfold wordsO
      rw [if_neg (by rw [hr]; simp), if_pos hn]
    refine ⟨by rw [hw, ho], ?_⟩
    unfold codeV
    rw [vals_one hn s1 s2]
    rfl
  · have h1 := (valueC_run (bs := bs) (subC S d) none hb.2.1 hf hr).1
    have h2 := hc v hb.1
    rw [h1] at h2
    have h3 : codeV f.kind (valueO bs v) = 0 := h2
    have ho : wordsO f bs v = (wordsV f.kind (valueO bs v)).1 := by
      unfold wordsO
      rw [if_pos hr]
    refine ⟨?_, h3⟩
    rw [ho]
    have : (wordsV f.kind (valueO bs v)).2 = 0 := h3
    rw [← this]

theorem words_more {k : Int} {a b : List UInt8} (ha : codeV k a = 0) (hb : codeV k b = 0) : (wordsV k (a ++ b)).1 = (wordsV k a).1 ++ (wordsV k b).1 := by
  unfold wordsV
  rw [codeV_append ha, if_pos ha, if_pos hb, if_pos hb, valsV_append ha, List.map_append]

theorem words_flat {k : Int} (hk : numberB k = true) : ∀ (l : List (List UInt8)), (∀ b ∈ l, codeV k b = 0) → (wordsV k l.flatten).1 = l.flatMap (fun b => (wordsV k b).1) ∧ codeV k l.flatten = 0
  | [], _ => by
    have hv : valsV k [] = [] := by
      unfold valsV
      rw [if_neg (by rw [hk]; simp)]
      rfl
    have hc : codeV k [] = 0 := by unfold codeV; rw [hv]; rfl
    refine ⟨?_, hc⟩
    show (wordsV k []).1 = []
    unfold wordsV
    rw [if_pos hc, hv]
    rfl
  | b :: l, h => by
    obtain ⟨h1, h2⟩ := words_flat hk l (fun x hx => h x (List.mem_cons_of_mem _ hx))
    have hb := h b List.mem_cons_self
    rw [List.flatten_cons, List.flatMap_cons, words_more hb h2, h1, codeV_append hb]
    exact ⟨rfl, h2⟩

theorem words_none {k : Int} {b : List UInt8} (hk : numberB k = true) (hc : codeV k b = 0) : (wordsV k b).1.length = 0 ↔ b.length = 0 := by
  rw [words_count]
  unfold countV
  rw [if_pos hc]
  unfold valsV
  rw [if_neg (by rw [hk]; simp)]
  rcases b with _ | ⟨c, l⟩
  · simp [valsF]
  · simp only [List.length_cons]
    unfold valsF
    rw [if_neg (by simp)]
    split <;> simp

theorem last_lastO {α : Type} {l : List α} {x : α} (h : l.getLast? = some x) : lastO l = [x] := by
  rcases List.eq_nil_or_concat l with rfl | ⟨a, y, rfl⟩
  · simp at h
  · rw [List.concat_eq_append] at h ⊢
    rw [lastO_snoc]
    simp at h
    rw [h]

theorem flatMap_same {α β : Type} {l : List α} {g h : α → List β} (e : ∀ x ∈ l, g x = h x) : l.flatMap g = l.flatMap h := by
  induction l with
  | nil => rfl
  | cons a l ih => rw [List.flatMap_cons, List.flatMap_cons, e a List.mem_cons_self, ih (fun x hx => e x (List.mem_cons_of_mem _ hx))]

theorem there_rest {f : FieldD} {ps : List (List UInt8)} (h : runP f = false) : thereP f ps = decide (0 < ps.length) := by
  unfold thereP
  rw [if_neg (by rw [h]; simp)]

theorem value_at {sub : Nat → List UInt8 → MsgT} {d : Nat} (hf : M.fields[i]? = some f) (hc : ∀ v ∈ (viewsV M.fields bs).1, (valueC (subC S d) M.fields bs v).2 = 0) {ps : List (List UInt8)} (hps : ps = (viewsO (viewsV M.fields bs).1 i).map (valueO bs)) :
    placeO sub M.fields bs (viewsV M.fields bs).1 i = if thereP f ps = true then some (valueP sub f ps) else none := by
  unfold placeO
  rw [hf]
  simp only
  by_cases hV : viewsO (viewsV M.fields bs).1 i = []
  · rw [if_pos hV]
    rw [hV] at hps
    have : ps = [] := by simpa using hps
    rw [this]
    have : thereP f [] = false := by
      unfold thereP
      split <;> simp
    rw [if_neg (by rw [this]; simp)]
  · rw [if_neg hV, fieldO_eq]
    have hpn : ps ≠ [] := by rw [hps]; simpa using hV
    have hpl : 0 < ps.length := List.length_pos_iff.2 hpn
    rcases hn : numberB f.kind with _ | _
    · have hrun : runP f = false := by unfold runP; rw [hn]; simp
      have hw : (viewsO (viewsV M.fields bs).1 i).flatMap (wordsO f bs) = [] := by
        rcases own_things hf hV with ⟨q, _⟩ | ⟨_, q, _⟩
        · rw [hn] at q
          cases q
        · exact q
      rw [pieces_other hf hn, ← hps, hw]
      have ht : thereP f ps = true := by rw [there_rest hrun]; simpa using hpl
      have hpp : ppiecesO f ps = textsAt f ps := by
        unfold ppiecesO textsAt
        by_cases hr : f.rep = true
        · rw [if_pos hr, if_pos hr]
        · rw [if_neg hr, if_neg hr]
          have hr2 : f.rep = false := by simpa using hr
          by_cases h17 : f.kind = 17
          · rw [if_pos h17, load_sub h17 hr2]
          · rw [if_neg h17, load_last h17 hr2]
            rcases hl : ps.getLast? with _ | y
            · rw [List.getLast?_eq_none_iff] at hl
              exact absurd hl hpn
            · rw [last_lastO hl]
              unfold lastP
              rw [hl]
              rfl
      have hpw : pwordsO f [] = [] := by
        unfold pwordsO lastO
        split <;> simp
      have htl : 0 < (textsAt f ps).length := by
        unfold textsAt
        split
        · exact hpl
        · simp
      have hv : valueU sub f [] ps = valueP sub f ps := by
        unfold valueU valueP
        rw [hpw, hpp]
        by_cases h17 : f.kind = 17
        · rw [h17] at hn
          simp [hn, h17]
        · simp [hn, h17]
      have hm : manyU (valueP sub f ps) ≠ 0 := by
        unfold manyU valueP
        by_cases h17 : f.kind = 17
        · simp only [hn, h17, if_true, or_true, List.length_map]
          omega
        · simp only [hn, h17, if_false, or_false, List.length_map, Bool.false_eq_true]
          omega
      rw [hv, if_neg hm, ht, if_pos rfl]
    · have h17 := number_17 hn
      have hvw := fun v hv => view_words (S := S) (d := d) (bs := bs) hf hn hc (v := v) hv
      have hws : (viewsO (viewsV M.fields bs).1 i).flatMap (wordsO f bs) = ps.flatMap (fun b => (wordsV f.kind b).1) := by
        rw [hps, List.flatMap_map]
        refine flatMap_same fun v hv => ?_
        rw [(hvw v hv).1]
      have hcode : ∀ b ∈ ps, codeV f.kind b = 0 := fun b hb => by
        rw [hps] at hb
        obtain ⟨v, hv, rfl⟩ := List.mem_map.1 hb
        exact (hvw v hv).2
      rw [pieces_number hn, hws]
      have hpp : ppiecesO f [] = [] := by
        unfold ppiecesO lastO
        rw [if_neg h17]
        split <;> simp
      obtain ⟨w1, w2⟩ := words_flat hn ps hcode
      by_cases hr : f.rep = true
      · have hrun : runP f = true := by unfold runP; rw [hr, hn]; rfl
        have hv : valueU sub f (ps.flatMap fun b => (wordsV f.kind b).1) [] = valueP sub f ps := by
          unfold valueU valueP pwordsO
          rw [hpp, load_run hrun, w1]
          simp [hn, h17, hr]
        have hm : manyU (valueP sub f ps) = (wordsV f.kind ps.flatten).1.length := by
          unfold manyU valueP
          simp [hn, h17, load_run hrun]
        have hwn := words_none hn w2
        have ht : thereP f ps = decide (0 < ps.flatten.length) := by unfold thereP; rw [if_pos hrun]
        rw [hv, hm, ht]
        by_cases h0 : ps.flatten.length = 0
        · rw [if_pos (hwn.2 h0), if_neg (by rw [h0]; simp)]
        · rw [if_neg (fun h => h0 (hwn.1 h)), if_pos (by rw [decide_eq_true_iff]; omega)]
      · have hr2 : f.rep = false := by simpa using hr
        have hrun : runP f = false := by unfold runP; rw [hr2]; rfl
        have ht : thereP f ps = true := by rw [there_rest hrun]; simpa using hpl
        obtain ⟨a, y, hay⟩ : ∃ a y, ps = a ++ [y] := by
          rcases List.eq_nil_or_concat ps with h | ⟨a, y, h⟩
          · exact absurd h hpn
          · exact ⟨a, y, by rw [h, List.concat_eq_append]⟩
        have hy : y ∈ ps := by rw [hay]; simp
        obtain ⟨v, hv, hvy⟩ := List.mem_map.1 (by rw [hps] at hy; exact hy)
        have hone : ∃ w, (wordsV f.kind y).1 = [w] := by
          have hb := own_bd hv
          rcases hrn : v.run with _ | _
          · obtain ⟨s1, s2⟩ := view_scalar hb.1 hb.2.1 hf hrn hn
            rw [← hvy, words_one hn s1 s2]
            exact ⟨_, rfl⟩
          · rcases own_view hb.1 hb.2.1 hf with ⟨_, q, _⟩ | ⟨q, _⟩
            · exact absurd q hr
            · rw [hrn] at q
              cases q
        obtain ⟨w, hw⟩ := hone
        have hlast : lastP ps = y := by unfold lastP; rw [hay]; simp
        have hv : valueU sub f (ps.flatMap fun b => (wordsV f.kind b).1) [] = valueP sub f ps := by
          unfold valueU valueP pwordsO
          rw [hpp, load_last h17 hr2, hlast, hw, if_neg hr, hay, List.flatMap_append, List.flatMap_cons, List.flatMap_nil, List.append_nil, hw, lastO_snoc]
          simp [hn, h17]
        have hm : manyU (valueP sub f ps) ≠ 0 := by
          unfold manyU valueP
          rw [load_last h17 hr2, hlast, hw]
          simp [hn]
        rw [hv, if_neg hm, ht, if_pos rfl]

theorem get_of (hR : rightS S = true) (hM : S[m]? = some M) {sub : Nat → List UInt8 → MsgT} {d : Nat} (hx : fieldAt S m x = some f) (hc : ∀ v ∈ (viewsV M.fields bs).1, (valueC (subC S d) M.fields bs v).2 = 0) :
    getM (ofM sub S m bs) x = if thereP f (piecesN (fieldsOf S m) bs x) = true then some (valueP sub f (piecesN (fieldsOf S m) bs x)) else none := by
  obtain ⟨i, hf, hi⟩ := find_idx hM hx
  have hfx : f.number = x := by
    unfold fieldAt at hx
    rw [hM] at hx
    have := List.find?_some hx
    unfold numP at this
    simpa using this
  have hl : i < M.fields.length := by
    rcases Nat.lt_or_ge i M.fields.length with h | h
    · exact h
    · rw [List.getElem?_eq_none h] at hf
      cases hf
  have hk : keyF M.fields i = x := by rw [keyF_at hf, hfx]
  have hfp := find_place (g := placeO sub M.fields bs (viewsV M.fields bs).1) (right_sorted hR hM) (fun i u h => (place_number h).1) (j := i) (sortK_mem.2 hl)
  rw [hk] at hfp
  unfold getM ofM
  rw [hM]
  show List.find? _ ((sortK (keyF M.fields) M.fields.length).filterMap (placeO sub M.fields bs (viewsV M.fields bs).1)) = _
  rw [hfp]
  exact value_at hf hc (pieces_num hM hf hi)

theorem code_flat {S : List MsgD} {d : Nat} (hf : M.fields[i]? = some f) (hn : numberB f.kind = true) (hc : ∀ v ∈ (viewsV M.fields bs).1, (valueC (subC S d) M.fields bs v).2 = 0) {ps : List (List UInt8)} (hps : ps = (viewsO (viewsV M.fields bs).1 i).map (valueO bs)) : codeV f.kind ps.flatten = 0 := by
  refine (words_flat hn ps (fun b hb => ?_)).2
  rw [hps] at hb
  obtain ⟨v, hv, rfl⟩ := List.mem_map.1 hb
  exact (view_words (S := S) (d := d) (bs := bs) hf hn hc hv).2

theorem there_nil (f : FieldD) : thereP f [] = false := by
  unfold thereP
  split <;> simp

theorem at_of (hR : rightS S = true) {way : List Int} {m : Nat} {f : FieldD} (h : OnWay S m way f) : ∀ (bs : List UInt8) (D d : Nat), m < S.length → bs.length ≤ D → (firstV S d m bs).2 = 0 →
    ∃ D', (∀ b ∈ textsAt f (piecesW S m bs way), thereP f (piecesW S m bs way) = true → f.kind = 17 → b.length ≤ D') ∧ (atM way (ofV S D m bs) = if thereP f (piecesW S m bs way) = true then some (valueP (ofV S D') f (piecesW S m bs way)) else none) ∧ solidM way (ofV S D m bs) ∧ (numberB f.kind = true → codeV f.kind (piecesW S m bs way).flatten = 0) := by
  induction h with
  | @last m n f h =>
    intro bs D d hm hl hv
    obtain ⟨M, hM⟩ : ∃ M, S[m]? = some M := ⟨_, List.getElem?_eq_getElem hm⟩
    rw [firstV_eq, checkM_valid hM] at hv
    have hw : piecesW S m bs [n] = piecesN (fieldsOf S m) bs n := by
      unfold piecesW
      rw [if_pos rfl]
    rw [hw, ofV_fuel S D (bs.length + 1) m bs hl (by omega)]
    refine ⟨bs.length, fun b hb ht h17 => ?_, ?_, fun h => absurd rfl h, fun hn => ?_⟩
    · have hle := pieces_le_len (fieldsOf S m) bs n
      unfold textsAt at hb
      by_cases hr : f.rep = true
      · rw [if_pos hr] at hb
        have := piece_le hb
        omega
      · rw [if_neg hr, List.mem_singleton, load_sub h17 (by simpa using hr)] at hb
        rw [hb]
        exact hle
    · unfold atM
      have hg := get_of (bs := bs) (x := n) hR hM (sub := ofV S bs.length) h hv.2
      show (match getM (ofM (ofV S bs.length) S m bs) n with
        | none => none
        | some v => if ([] : List Int) = [] then some v else match v.subs with
          | [] => none
          | y :: _ => atM [] y) = _
      rw [hg]
      by_cases ht : thereP f (piecesN (fieldsOf S m) bs n) = true
      · rw [if_pos ht]
        simp
      · rw [if_neg ht]
    · obtain ⟨i, hf, hi⟩ := find_idx hM h
      exact code_flat hf hn hv.2 (pieces_num hM hf hi)
  | @step m n f g l h hk hr t ih =>
    intro bs D d hm hl hv
    obtain ⟨M, hM⟩ : ∃ M, S[m]? = some M := ⟨_, List.getElem?_eq_getElem hm⟩
    rw [firstV_eq, checkM_valid hM] at hv
    have hw : piecesW S m bs (n :: l) = piecesW S f.of_.toNat (piecesN (fieldsOf S m) bs n).flatten l := by
      conv => lhs; unfold piecesW
      rw [if_neg t.ne, h]
    rw [hw, ofV_fuel S D (bs.length + 1) m bs hl (by omega)]
    have hg := get_of (bs := bs) (x := n) hR hM (sub := ofV S bs.length) h hv.2
    have hat : atM (n :: l) (ofV S (bs.length + 1) m bs) = (match getM (ofM (ofV S bs.length) S m bs) n with
        | none => none
        | some v => if l = [] then some v else match v.subs with
          | [] => none
          | y :: _ => atM l y) := by
      conv => lhs; unfold atM
      rfl
    have hsol : solidM (n :: l) (ofV S (bs.length + 1) m bs) = (l ≠ [] → ∀ v, getM (ofM (ofV S bs.length) S m bs) n = some v → ∃ y ys, v.subs = y :: ys ∧ solidM l y) := by
      conv => lhs; unfold solidM
      rfl
    rw [hat, hsol, hg]
    have hle := pieces_le_len (fieldsOf S m) bs n
    obtain ⟨i, hf, hi⟩ := find_idx hM h
    have hpn := pieces_num (bs := bs) hM hf hi
    generalize piecesN (fieldsOf S m) bs n = ps at *
    have hrun : runP f = false := by unfold runP; rw [hr]; rfl
    by_cases hps : ps = []
    · subst hps
      rw [there_nil, if_neg (by simp)]
      have hz : piecesW S f.of_.toNat ([] : List (List UInt8)).flatten l = [] := by
        have := (piecesW_le S l f.of_.toNat ([] : List (List UInt8)).flatten).2
        exact List.eq_nil_of_length_eq_zero (by simpa using this)
      rw [hz, there_nil]
      refine ⟨0, ?_, rfl, ?_, fun hn => (words_flat hn [] (fun b hb => by cases hb)).2⟩
      · intro b _ q
        cases q
      · intro _ v q
        cases q
    · have hpl : 0 < ps.length := List.length_pos_iff.2 hps
      rw [there_rest hrun, if_pos (by simpa using hpl)]
      have hsub : (valueP (ofV S bs.length) f ps).subs = [ofV S bs.length f.of_.toNat ps.flatten] := by
        unfold valueP textsAt
        rw [load_sub hk hr]
        simp [hk, hr]
      obtain ⟨o, ho1, ho2⟩ := right_of hR hM hf hk
      have hno : f.of_.toNat = o := by rw [ho1]; rfl
      have hnum : numberB f.kind = false := by rw [hk]; rfl
      have hVne : viewsO (viewsV M.fields bs).1 i ≠ [] := fun e => by rw [e] at hpn; exact hps (by simpa using hpn)
      have hvr : ∀ v ∈ viewsO (viewsV M.fields bs).1 i, v.run = false := fun v hv => by
        rcases own_view (own_bd hv).1 (own_bd hv).2.1 hf with ⟨_, _, q⟩ | ⟨q, _⟩
        · exact absurd hk (number_17 q)
        · exact q
      obtain ⟨e, hde⟩ : ∃ e, d = e + 1 := by
        obtain ⟨v, L, hvl⟩ := List.exists_cons_of_ne_nil hVne
        have hv1 : v ∈ viewsO (viewsV M.fields bs).1 i := by rw [hvl]; exact List.mem_cons_self
        rcases d with _ | e
        · have h1 := (valueC_sub (S := S) (d := 0) (bs := bs) (own_bd hv1).2.1 hf (hvr v hv1) hk).1 rfl
          have h2 := hv.2 v (own_bd hv1).1
          rw [h1] at h2
          cases h2
        · exact ⟨e, rfl⟩
      subst hde
      have hval : (firstV S e o ps.flatten).2 = 0 := by
        have := pieces_valid (S := S) (bs := bs) (f := f) (e := e) (o := o) (L := viewsO (viewsV M.fields bs).1 i) (fun v hv1 => ⟨hvr v hv1, by
          have h1 := (valueC_sub (S := S) (d := e + 1) (bs := bs) (own_bd hv1).2.1 hf (hvr v hv1) hk).2 e rfl
          have h2 := hv.2 v (own_bd hv1).1
          rw [h1.1, hno] at h2
          exact h2⟩) hnum
        rw [pieces_other hf hnum, ← hpn] at this
        exact this
      rw [hno] at ih ⊢
      obtain ⟨D', q1, q2, q3, q4⟩ := ih ps.flatten bs.length e ho2 hle hval
      refine ⟨D', q1, ?_, ?_, q4⟩
      · simp only [if_neg t.ne, hsub, hno]
        exact q2
      · intro _ v hv
        injection hv with hv
        subst hv
        exact ⟨_, [], hsub, by rw [hno]; exact q3⟩

end

end Go.Proofs.YtpicpebolghcfaaGreatDoor
