/- Plain words of layer 18: the normal form, field by field, is the meaning's bytes; and how long it is at most. -/
import Derived.Test.YtcbpbpeogfbpiaaGreatQS16

/- Plain words of layer 18: the normal form, field by field. -/
namespace Go.Proofs.YtcbpbpeogfbpiaaGreat
open Go.RowKit
set_option linter.unusedVariables false

/-- The unknown records, whole. -/
def unkW (bs : List UInt8) (L : List ViewD) : List ByteArray := (L.filter fun v => decide (v.field < 0)).map fun v => textO (spanB bs v.r.f v.r.t)

/-- A field's records: of its words and pieces. -/
def fieldE (se : Nat → MsgT → List UInt8) (sub : Nat → List UInt8 → MsgT) (f : FieldD) (ws : List Nat) (ps : List (List UInt8)) : List UInt8 :=
  if manyU (valueU sub f ws ps) = 0 then [] else (valueE se f (valueU sub f ws ps)).flatten

/-- .. of a place's views. -/
def placeE (se : Nat → MsgT → List UInt8) (sub : Nat → List UInt8 → MsgT) (fs : List FieldD) (bs : List UInt8) (L : List ViewD) (i : Nat) : List UInt8 := match fs[i]? with
  | none => []
  | some f => if viewsO L i = [] then [] else fieldE se sub f ((viewsO L i).flatMap (wordsO f bs)) ((viewsO L i).flatMap (piecesO f bs))

section
variable {se : Nat → MsgT → List UInt8} {sub : Nat → List UInt8 → MsgT} {f : FieldD} {bs : List UInt8} {fs : List FieldD} {L : List ViewD} {S : List MsgD} {m : Nat} {M : MsgD}

theorem placeE_at {i : Nat} (hf : fs[i]? = some f) (hne : viewsO L i ≠ []) : placeE se sub fs bs L i = fieldE se sub f ((viewsO L i).flatMap (wordsO f bs)) ((viewsO L i).flatMap (piecesO f bs)) := by
  unfold placeE
  rw [hf]
  simp only
  rw [if_neg hne]

theorem placeE_none {i : Nat} (hne : viewsO L i = []) : placeE se sub fs bs L i = [] := by
  unfold placeE
  rcases fs[i]? with _ | f
  · rfl
  · simp only
    rw [if_pos hne]

/-- A run: of all words. -/
theorem fieldE_run (hn : numberB f.kind = true) (hr : f.rep = true) {ws : List Nat} : fieldE se sub f ws [] = if ws = [] then [] else putB f.number 2 (packW f.kind ws) := by
  have h17 := number_17 hn
  have hu : valueU sub f ws [] = ⟨(), (), (), f.number, ws, [], []⟩ := by
    unfold valueU pwordsO ppiecesO
    simp [hr, h17]
  unfold fieldE
  rw [hu]
  unfold valueE manyU
  rw [if_pos hn, if_pos hr]
  rcases ws with _ | ⟨x, ws⟩
  · rfl
  · simp

/-- A number: the last word. -/
theorem fieldE_word (hn : numberB f.kind = true) (hr : f.rep = false) {ws : List Nat} {x : Nat} : fieldE se sub f (ws ++ [x]) [] = putB f.number (wireI f.kind) (putS f.kind x) := by
  have h17 := number_17 hn
  have hu : valueU sub f (ws ++ [x]) [] = ⟨(), (), (), f.number, [x], [], []⟩ := by
    unfold valueU pwordsO ppiecesO
    simp [hr, h17, lastO_snoc, lastO_nil]
  unfold fieldE
  rw [hu]
  unfold valueE manyU
  simp [hn, hr]

/-- A single message: all its pieces, joined. -/
theorem fieldE_join (hk : f.kind = 17) (hr : f.rep = false) {ps : List (List UInt8)} : fieldE se sub f [] ps = putB f.number 2 (se f.of_.toNat (sub f.of_.toNat ps.flatten)) := by
  have hn : ¬ numberB f.kind = true := by rw [hk]; decide
  have hu : valueU sub f [] ps = ⟨(), (), (), f.number, [], [], [sub f.of_.toNat ps.flatten]⟩ := by
    unfold valueU pwordsO ppiecesO
    simp [hr, hk, lastO_nil]
  unfold fieldE
  rw [hu]
  unfold valueE manyU
  rw [if_neg hn]
  simp

/-- Many messages: each of its own. -/
theorem fieldE_subs (hk : f.kind = 17) (hr : f.rep = true) {ps : List (List UInt8)} : fieldE se sub f [] ps = (ps.map fun x => putB f.number 2 (se f.of_.toNat (sub f.of_.toNat x))).flatten := by
  have hn : ¬ numberB f.kind = true := by rw [hk]; decide
  have hu : valueU sub f [] ps = ⟨(), (), (), f.number, [], [], ps.map (sub f.of_.toNat)⟩ := by
    unfold valueU pwordsO ppiecesO
    simp [hr, hk]
  unfold fieldE
  rw [hu]
  unfold valueE manyU
  rw [if_neg hn]
  rcases ps with _ | ⟨x, ps⟩
  · rfl
  · simp [Function.comp_def]

/-- Many texts. -/
theorem fieldE_texts (hn : numberB f.kind = false) (hk : f.kind ≠ 17) (hr : f.rep = true) {ps : List (List UInt8)} : fieldE se sub f [] ps = (ps.map fun x => putB f.number 2 x).flatten := by
  have hn : ¬ numberB f.kind = true := by rw [hn]; decide
  have hu : valueU sub f [] ps = ⟨(), (), (), f.number, [], ps.map textO, []⟩ := by
    unfold valueU pwordsO ppiecesO
    simp [hr, hk]
  unfold fieldE
  rw [hu]
  unfold valueE manyU
  rw [if_neg hn]
  rcases ps with _ | ⟨x, ps⟩
  · rfl
  · simp [Function.comp_def, textO]

/-- One text: the last. -/
theorem fieldE_text (hn : numberB f.kind = false) (hk : f.kind ≠ 17) (hr : f.rep = false) {ps : List (List UInt8)} {x : List UInt8} : fieldE se sub f [] (ps ++ [x]) = putB f.number 2 x := by
  have hn : ¬ numberB f.kind = true := by rw [hn]; decide
  have hu : valueU sub f [] (ps ++ [x]) = ⟨(), (), (), f.number, [], [textO x], []⟩ := by
    unfold valueU pwordsO ppiecesO
    simp [hr, hk, lastO_snoc, lastO_nil]
  unfold fieldE
  rw [hu]
  unfold valueE manyU
  rw [if_neg hn]
  simp [textO]

theorem flat_filterMap {α β : Type} {g : α → Option β} {h : β → List (List UInt8)} {k : α → List UInt8} : ∀ {l : List α}, (∀ i ∈ l, k i = match g i with | none => [] | some v => (h v).flatten) → ((l.filterMap g).flatMap h).flatten = l.flatMap k
  | [], _ => rfl
  | i :: l, e => by
    have ih := flat_filterMap (g := g) (h := h) (k := k) (l := l) (fun j hj => e j (List.mem_cons_of_mem _ hj))
    have e1 := e i List.mem_cons_self
    rw [List.filterMap_cons, List.flatMap_cons, e1, ← ih]
    rcases g i with _ | v
    · rfl
    · simp

/-- A meaning's bytes, place by place. -/
theorem enc_of (hR : rightS S = true) (hM : S[m]? = some M) : (encC se S m (ofM sub S m bs)).flatten =
    (sortK (keyF M.fields) M.fields.length).flatMap (placeE se sub M.fields bs (viewsV M.fields bs).1) ++ (unkW bs (viewsV M.fields bs).1).flatMap fun t => t.data.toList := by
  unfold encC ofM
  rw [hM]
  simp only
  rw [List.flatten_append]
  congr 1
  · refine flat_filterMap fun i hi => ?_
    rcases hp : placeO sub M.fields bs (viewsV M.fields bs).1 i with _ | u
    · unfold placeE
      unfold placeO at hp
      rcases hf : M.fields[i]? with _ | f
      · rfl
      · rw [hf] at hp
        simp only at hp ⊢
        split
        · rfl
        · rename_i hne
          rw [if_neg hne, fieldO_eq] at hp
          unfold fieldE
          split at hp
          · rename_i h0
            rw [if_pos h0]
          · cases hp
    · obtain ⟨f, hf, hne, hu, hm⟩ := place_some hp
      have hun : u.number = f.number := by rw [hu]; rfl
      have hfind : M.fields.find? (fun g : FieldD => g.number == u.number) = some f := by
        rw [hun]
        exact (find_of_idx (p := fun g : FieldD => decide (g.number = f.number)) (l := M.fields)).2 i f (right_field hR hM hf).2 hf
      simp only [hfind]
      rw [placeE_at hf hne]
      unfold fieldE
      rw [← hu, if_neg hm]
end

end Go.Proofs.YtcbpbpeogfbpiaaGreat

/- Plain words of layer 18: how long a normal form is at most. -/
namespace Go.Proofs.YtcbpbpeogfbpiaaGreat
open Go.RowKit
set_option linter.unusedVariables false

theorem words_64 (f : FieldD) (bs : List UInt8) (L : List ViewD) : ∀ x ∈ L.flatMap (wordsO f bs), x < 18446744073709551616 := by
  intro x hx
  obtain ⟨v, _, hv⟩ := List.mem_flatMap.1 hx
  unfold wordsO at hv
  split at hv
  · unfold wordsV at hv
    split at hv
    · obtain ⟨u, _, rfl⟩ := List.mem_map.1 hv
      exact (readS_bd f.kind u.1).1
    · cases hv
  · split at hv
    · rw [List.mem_singleton] at hv
      subst hv
      exact (readS_bd f.kind _).1
    · cases hv

theorem weigh_span (bs : List UInt8) : ∀ L : List ViewD, (∀ v ∈ L, v.r.f < v.r.a ∧ v.r.a ≤ v.r.t ∧ v.r.t ≤ bs.length) → weighL L ≤ (L.flatMap fun v => spanB bs v.r.f v.r.t).length
  | [], _ => Nat.zero_le _
  | v :: L, h => by
    have ih := weigh_span bs L (fun u hu => h u (List.mem_cons_of_mem _ hu))
    have h1 := h v List.mem_cons_self
    rw [weighL_cons, List.flatMap_cons, List.length_append]
    have : (spanB bs v.r.f v.r.t).length = v.r.t - v.r.f := by
      unfold spanB
      rw [List.length_drop, List.length_take]
      omega
    unfold weighV
    omega

theorem sum_once {g : Nat → Nat} {c : Nat} {k : Int} : ∀ {F : List Nat}, F.Nodup → (F.map fun i : Nat => if k == (i : Int) then c + g i else g i).sum ≤ c + (F.map g).sum
  | [], _ => Nat.zero_le _
  | j :: F, h => by
    rw [List.nodup_cons] at h
    rw [List.map_cons, List.map_cons, List.sum_cons, List.sum_cons]
    by_cases hj : k = (j : Int)
    · have e : (F.map fun i : Nat => if k == (i : Int) then c + g i else g i) = F.map g := List.map_congr_left fun i hi => by
        rw [if_neg]
        simp only [beq_iff_eq]
        intro q
        have : i = j := by omega
        subst this
        exact h.1 hi
      rw [e, if_pos (by simp [hj])]
      omega
    · have ih := sum_once (g := g) (c := c) (k := k) h.2
      rw [if_neg (by simp [hj])]
      omega

theorem weigh_places {F : List Nat} (hF : F.Nodup) : ∀ L : List ViewD, (F.map fun i => weighL (viewsO L i)).sum ≤ weighL (L.filter fun v => !decide (v.field < 0))
  | [] => by
    have : (F.map fun i => weighL (viewsO [] i)) = F.map fun _ => 0 := rfl
    rw [this]
    have : ∀ l : List Nat, (l.map fun _ => 0).sum = 0 := fun l => by induction l with
      | nil => rfl
      | cons x l ih => rw [List.map_cons, List.sum_cons, ih]
    rw [this]
    exact Nat.zero_le _
  | v :: L => by
    have ih := weigh_places hF L
    have e : (fun i : Nat => weighL (viewsO (v :: L) i)) = fun i : Nat => if v.field == (i : Int) then weighV v + weighL (viewsO L i) else weighL (viewsO L i) := by
      funext i
      unfold viewsO
      rw [List.filter_cons]
      split
      · rw [weighL_cons]
      · rfl
    rw [e, List.filter_cons]
    by_cases hv : v.field < 0
    · have e2 : (F.map fun i : Nat => if v.field == (i : Int) then weighV v + weighL (viewsO L i) else weighL (viewsO L i)) = F.map fun i => weighL (viewsO L i) := List.map_congr_left fun i hi => by
        rw [if_neg]
        simp only [beq_iff_eq]
        omega
      rw [e2, if_neg (by simp [hv])]
      exact ih
    · have h2 := sum_once (g := fun i => weighL (viewsO L i)) (c := weighV v) (k := v.field) hF
      rw [if_pos (by simpa using hv), weighL_cons]
      omega

section
variable {se : Nat → MsgT → List UInt8} {sub : Nat → List UInt8 → MsgT} {f : FieldD} {bs : List UInt8} {fs : List FieldD} {S : List MsgD} {m : Nat} {M : MsgD}

theorem flat_put {n w : Int} (h : rightB n w = true) {c : Nat} {g : List UInt8 → List UInt8} : ∀ {ps : List (List UInt8)}, (∀ x ∈ ps, (g x).length ≤ c * x.length ∧ (g x).length ≤ 100000000000) → 1 ≤ c → (ps.map fun x => putB n w (g x)).flatten.length ≤ 15 * ps.length + c * ps.flatten.length
  | [], _, _ => Nat.zero_le _
  | x :: ps, hp, hc => by
    have ih := flat_put h (ps := ps) (fun y hy => hp y (List.mem_cons_of_mem _ hy)) hc
    have h1 := hp x List.mem_cons_self
    have h2 := putB_length h (v := g x) h1.2
    rw [List.map_cons, List.flatten_cons, List.flatten_cons, List.length_append, List.length_append, List.length_cons, Nat.mul_add, Nat.mul_add]
    omega

/-- A field's records are not long. -/
theorem fieldE_le (hR : rightS S = true) (hM : S[m]? = some M) {i : Nat} (hf : M.fields[i]? = some f) (hne : viewsO (viewsV M.fields bs).1 i ≠ []) (hb : bs.length ≤ 100000)
    (hsub : ∀ x : List UInt8, x.length + 1 ≤ bs.length → (se f.of_.toNat (sub f.of_.toNat x)).length ≤ 32 * x.length) :
    (placeE se sub M.fields bs (viewsV M.fields bs).1 i).length ≤ 32 * weighL (viewsO (viewsV M.fields bs).1 i) := by
  rw [placeE_at hf hne]
  obtain ⟨⟨T, hT⟩, n1, n2, hkb⟩ := right_number hR hM hf
  have hbd : ∀ v ∈ viewsO (viewsV M.fields bs).1 i, v.r.t ≤ bs.length := fun v hv => (own_bd hv).2.2.2
  have hW := own_weigh (fs := M.fields) (bs := bs) (i := i)
  have hw1 := words_le f bs _ hbd
  have hp1 := (pieces_le f bs _ hbd).1
  have h64 := words_64 f bs (viewsO (viewsV M.fields bs).1 i)
  have hpos : 1 ≤ weighL (viewsO (viewsV M.fields bs).1 i) := by
    rcases hv : viewsO (viewsV M.fields bs).1 i with _ | ⟨v, l⟩
    · exact absurd hv hne
    · rw [weighL_cons]
      unfold weighV
      omega
  have hth := own_things hf hne
  have hpl : ∀ x ∈ (viewsO (viewsV M.fields bs).1 i).flatMap (piecesO f bs), x.length ≤ ((viewsO (viewsV M.fields bs).1 i).flatMap (piecesO f bs)).flatten.length := fun x hx => mem_flatten_le hx
  generalize hws : (viewsO (viewsV M.fields bs).1 i).flatMap (wordsO f bs) = ws at *
  generalize hps : (viewsO (viewsV M.fields bs).1 i).flatMap (piecesO f bs) = ps at *
  generalize weighL (viewsO (viewsV M.fields bs).1 i) = W at *
  have r2 : rightB f.number 2 = true := by rw [hT]; exact rightB_of (by omega) (by omega) (by decide)
  rcases hth with ⟨hn, rfl, hw0⟩ | ⟨hn, rfl, hp0⟩
  · rcases hr : f.rep with _ | _
    · have hw0 := hw0 hr
      obtain ⟨l, x, rfl⟩ : ∃ l x, ws = l ++ [x] := ⟨_, _, (List.dropLast_concat_getLast hw0).symm⟩
      rw [fieldE_word hn hr]
      have hx := h64 x (by simp)
      obtain ⟨V, hV, hV2, _⟩ := wire_fits hn hx
      have h1 := (putS_length (k := f.kind) hx).2
      have h2 := putB_length (number := f.number) (wire := wireI f.kind) (by rw [hT, hV]; exact rightB_of (by omega) (by omega) hV2) (v := putS f.kind x) (by omega)
      omega
    · rw [fieldE_run hn hr]
      split
      · exact Nat.zero_le _
      · have h1 := packW_le f.kind ws h64
        have h2 := putB_length r2 (v := packW f.kind ws) (by omega)
        omega
  · have hnl : 1 ≤ ps.length := by
      rcases ps with _ | ⟨x, l⟩
      · exact absurd rfl hp0
      · simp
    by_cases hk : f.kind = 17
    · rcases hr : f.rep with _ | _
      · rw [fieldE_join hk hr]
        have h1 := hsub ps.flatten (by omega)
        have h2 := putB_length r2 (v := se f.of_.toNat (sub f.of_.toNat ps.flatten)) (by omega)
        omega
      · rw [fieldE_subs hk hr]
        have h1 := flat_put r2 (c := 32) (g := fun x => se f.of_.toNat (sub f.of_.toNat x)) (ps := ps) (fun x hx => by
          have := hpl x hx
          have := hsub x (by omega)
          exact ⟨this, by omega⟩) (by omega)
        omega
    · rcases hr : f.rep with _ | _
      · obtain ⟨l, x, rfl⟩ : ∃ l x, ps = l ++ [x] := ⟨_, _, (List.dropLast_concat_getLast hp0).symm⟩
        rw [fieldE_text hn hk hr]
        have := hpl x (by simp)
        have h2 := putB_length r2 (v := x) (by omega)
        omega
      · rw [fieldE_texts hn hk hr]
        have h1 := flat_put r2 (c := 1) (g := fun x => x) (ps := ps) (fun x hx => by
          have := hpl x hx
          exact ⟨by omega, by omega⟩) (by omega)
        omega

theorem flat_sum {α : Type} {g : α → List UInt8} {c : α → Nat} : ∀ {l : List α}, (∀ x ∈ l, (g x).length ≤ 32 * c x) → (l.flatMap g).length ≤ 32 * (l.map c).sum
  | [], _ => Nat.zero_le _
  | x :: l, h => by
    have ih := flat_sum (g := g) (c := c) (l := l) (fun y hy => h y (List.mem_cons_of_mem _ hy))
    have h1 := h x List.mem_cons_self
    rw [List.flatMap_cons, List.length_append, List.map_cons, List.sum_cons, Nat.mul_add]
    omega

theorem unk_flat (bs : List UInt8) (L : List ViewD) : ((unkW bs L).flatMap fun t => t.data.toList) = (L.filter fun v => decide (v.field < 0)).flatMap fun v => spanB bs v.r.f v.r.t := by
  unfold unkW
  rw [List.flatMap_map]
  rfl

theorem part_sum (bs : List UInt8) (q : ViewD → Bool) : ∀ L : List ViewD, ((L.filter fun v => !q v).flatMap fun v => spanB bs v.r.f v.r.t).length + ((L.filter q).flatMap fun v => spanB bs v.r.f v.r.t).length = (L.flatMap fun v => spanB bs v.r.f v.r.t).length
  | [] => rfl
  | v :: L => by
    have ih := part_sum bs q L
    rw [List.filter_cons, List.filter_cons, List.flatMap_cons, List.length_append]
    rcases hq : q v with _ | _
    · rw [if_pos (by simp), if_neg (by simp), List.flatMap_cons, List.length_append]
      omega
    · rw [if_neg (by simp), if_pos (by simp), List.flatMap_cons, List.length_append]
      omega

/-- All records of valid bytes are these bytes. -/
theorem span_sum {l : List FieldD} {bs : List UInt8} (h : (viewsV l bs).2.2 = 0) : ((viewsV l bs).1.flatMap fun v => spanB bs v.r.f v.r.t).length = bs.length := by
  rcases hv : viewsV l bs with ⟨L, P, C⟩
  rw [hv] at h
  have hC : C = 0 := h
  subst hC
  have h1 := viewsV_sum hv
  have h2 := part_sum bs unkP L
  unfold keptB lens unkB at h1
  have h3 : (fun v : ViewD => !unkP v) = knownP := by
    funext v
    unfold unkP knownP
    rfl
  rw [h3] at h2
  have h4 : ∀ K : List ViewD, ((K.map fun v => spanB bs v.r.f v.r.t).map List.length).sum = (K.flatMap fun v => spanB bs v.r.f v.r.t).length := fun K => by
    rw [List.length_flatMap, List.map_map]
    rfl
  rw [h4] at h1
  show (L.flatMap _).length = _
  omega

theorem span_le (l : List FieldD) (bs : List UInt8) : ((viewsV l bs).1.flatMap fun v => spanB bs v.r.f v.r.t).length ≤ bs.length := by
  by_cases h : (viewsV l bs).2.2 = 0
  · rw [span_sum h]
    exact Nat.le_refl _
  · have := (scan_code (lookV_onward l bs) bs.length 0 (by omega)).1 h
    have e : (viewsV l bs).1 = [] := this
    rw [e]
    exact Nat.zero_le _

theorem enc_smallJ (hR : rightS S = true) (hM : S[m]? = some M) (hb : bs.length ≤ 100000)
    (hsub : ∀ (o : Nat) (x : List UInt8), x.length + 1 ≤ bs.length → (se o (sub o x)).length ≤ 32 * x.length) : (encC se S m (ofM sub S m bs)).flatten.length ≤ 32 * bs.length := by
  rw [enc_of hR hM, unk_flat, List.length_append]
  have hn : (sortK (keyF M.fields) M.fields.length).Nodup := (sortK_perm (keyF M.fields) M.fields.length).nodup_iff.2 List.nodup_range
  have h1 := flat_sum (g := placeE se sub M.fields bs (viewsV M.fields bs).1) (c := fun i => weighL (viewsO (viewsV M.fields bs).1 i)) (l := sortK (keyF M.fields) M.fields.length) (fun i hi => by
    by_cases hne : viewsO (viewsV M.fields bs).1 i = []
    · rw [placeE_none hne]
      exact Nat.zero_le _
    · have hil := sortK_mem.1 hi
      exact fieldE_le hR hM (List.getElem?_eq_getElem hil) hne hb (fun x hx => hsub _ x hx))
  have h2 := weigh_places hn (viewsV M.fields bs).1
  have h3 := part_sum bs (fun v => decide (v.field < 0)) (viewsV M.fields bs).1
  have h4 := span_le M.fields bs
  have h5 := weigh_span bs ((viewsV M.fields bs).1.filter fun v => !decide (v.field < 0)) (fun v hv => view_bd (List.mem_filter.1 hv).1)
  omega

/-- A normal form is not long. -/
theorem enc_small {S : List MsgD} (hR : rightS S = true) : ∀ (D m : Nat) (bs : List UInt8), bs.length ≤ 100000 → (encV S D m (ofV S D m bs)).length ≤ 32 * bs.length
  | 0, m, bs, hb => by
    rcases hM : S[m]? with _ | M
    · rw [encV]
      unfold encC
      rw [hM]
      exact Nat.zero_le _
    · rw [encV, ofV]
      exact enc_smallJ hR hM hb (fun o x _ => Nat.zero_le _)
  | D + 1, m, bs, hb => by
    rcases hM : S[m]? with _ | M
    · rw [encV]
      unfold encC
      rw [hM]
      exact Nat.zero_le _
    · rw [encV, ofV]
      exact enc_smallJ hR hM hb (fun o x hx => enc_small hR D o x (by omega))
end

end Go.Proofs.YtcbpbpeogfbpiaaGreat

/- Plain words of layer 18: the normal form of two messages, one behind the other; how long it is; and what it means. -/


/- Plain words of layer 18: the normal form of two messages is no longer than theirs together. -/
namespace Go.Proofs.YtcbpbpeogfbpiaaGreat
open Go.RowKit
open Go.Lib (uvarint uvarint_small uvarint_big uvarint_pos)
set_option linter.unusedVariables false

theorem uvarint_mono : ∀ (y x : Nat), x ≤ y → (uvarint x).length ≤ (uvarint y).length := by
  intro y
  induction y using Nat.strongRecOn with
  | ind y ih =>
    intro x h
    by_cases hx : x < 128
    · rw [uvarint_small hx]
      exact uvarint_pos y
    · rw [uvarint_big (by omega), uvarint_big (x := y) (by omega), List.length_cons, List.length_cons]
      have := ih (y / 128) (by omega) (x / 128) (by omega)
      omega

theorem uvarint_both (x y : Nat) : (uvarint (x + y)).length ≤ (uvarint x).length + (uvarint y).length := by
  by_cases h : x + y < 128
  · rw [uvarint_small h]
    have := uvarint_pos x
    have := uvarint_pos y
    simp
    omega
  · rw [uvarint_big (by omega), List.length_cons]
    by_cases hxy : x ≤ y
    · have := uvarint_mono y ((x + y) / 128) (by omega)
      have := uvarint_pos x
      omega
    · have := uvarint_mono x ((x + y) / 128) (by omega)
      have := uvarint_pos y
      omega

theorem putB_len (n : Int) (v : List UInt8) : (putB n 2 v).length = (tagB n 2).length + (uvarint v.length).length + v.length := by
  unfold putB
  rw [if_pos rfl, List.length_append, List.length_append]
  omega

theorem putB_both {n : Int} {x y z : List UInt8} (h : z.length ≤ x.length + y.length) : (putB n 2 z).length ≤ (putB n 2 x).length + (putB n 2 y).length := by
  rw [putB_len, putB_len, putB_len]
  have h1 := uvarint_mono _ _ h
  have h2 := uvarint_both x.length y.length
  omega

theorem packW_both (k : Int) (b : List Nat) : ∀ a : List Nat, packW k (a ++ b) = packW k a ++ packW k b
  | [] => rfl
  | x :: l => by
    rw [List.cons_append, packW, packW, packW_both k b l, List.append_assoc]

section
variable {se : Nat → MsgT → List UInt8} {sub : Nat → List UInt8 → MsgT} {f : FieldD} {a b : List UInt8} {fs : List FieldD} {S : List MsgD} {m : Nat} {M : MsgD}

theorem wire_other {k : Int} (h : kindB k = true) (hn : numberB k = false) : wireI k = 2 := by
  unfold kindB at h
  have h := of_decide_eq_true h
  unfold numberB at hn
  have hn := of_decide_eq_false hn
  unfold wireI
  rw [if_neg (by omega), if_neg (by omega), if_neg (by omega)]

theorem last_of {α : Type} {l : List α} (h : l ≠ []) : ∃ k x, l = k ++ [x] := ⟨_, _, (List.dropLast_concat_getLast h).symm⟩

/-- A field's records, of two messages'. -/
theorem fieldE_both {wa wb : List Nat} {pa pb : List (List UInt8)}
    (ha : (numberB f.kind = true ∧ pa = [] ∧ (f.rep = false → wa ≠ [])) ∨ (numberB f.kind = false ∧ wa = [] ∧ pa ≠ []))
    (hb : (numberB f.kind = true ∧ pb = [] ∧ (f.rep = false → wb ≠ [])) ∨ (numberB f.kind = false ∧ wb = [] ∧ pb ≠ []))
    (hsub : f.kind = 17 → f.rep = false → (se f.of_.toNat (sub f.of_.toNat (pa.flatten ++ pb.flatten))).length ≤ (se f.of_.toNat (sub f.of_.toNat pa.flatten)).length + (se f.of_.toNat (sub f.of_.toNat pb.flatten)).length) :
    (fieldE se sub f (wa ++ wb) (pa ++ pb)).length ≤ (fieldE se sub f wa pa).length + (fieldE se sub f wb pb).length := by
  rcases ha with ⟨hn, rfl, hwa⟩ | ⟨hn, rfl, hpa⟩
  · rcases hb with ⟨_, rfl, hwb⟩ | ⟨q, _⟩
    · rcases hr : f.rep with _ | _
      · obtain ⟨k, x, rfl⟩ := last_of (hwb hr)
        rw [List.append_nil, ← List.append_assoc, fieldE_word hn hr, fieldE_word hn hr]
        omega
      · rw [List.append_nil, fieldE_run hn hr, fieldE_run hn hr, fieldE_run hn hr]
        by_cases h1 : wa = []
        · subst h1
          rw [List.nil_append, if_pos rfl]
          omega
        · by_cases h2 : wb = []
          · subst h2
            rw [List.append_nil, if_neg h1]
            omega
          · rw [if_neg (by simp [h1]), if_neg h1, if_neg h2]
            exact putB_both (by rw [packW_both, List.length_append]; exact Nat.le_refl _)
    · rw [hn] at q
      cases q
  · rcases hb with ⟨q, _⟩ | ⟨_, rfl, hpb⟩
    · rw [hn] at q
      cases q
    · rw [List.append_nil]
      by_cases hk : f.kind = 17
      · rcases hr : f.rep with _ | _
        · rw [fieldE_join hk hr, fieldE_join hk hr, fieldE_join hk hr, List.flatten_append]
          exact putB_both (hsub hk hr)
        · rw [fieldE_subs hk hr, fieldE_subs hk hr, fieldE_subs hk hr, List.map_append, List.flatten_append, List.length_append]
          exact Nat.le_refl _
      · rcases hr : f.rep with _ | _
        · obtain ⟨k, x, rfl⟩ := last_of hpb
          rw [← List.append_assoc, fieldE_text hn hk hr, fieldE_text hn hk hr]
          omega
        · rw [fieldE_texts hn hk hr, fieldE_texts hn hk hr, fieldE_texts hn hk hr, List.map_append, List.flatten_append, List.length_append]
          exact Nat.le_refl _

theorem placeE_both {i : Nat} (ha : (viewsV fs a).2.2 = 0) (hb : (viewsV fs b).2.2 = 0) (hf : fs[i]? = some f)
    (hsub : f.kind = 17 → f.rep = false → viewsO (viewsV fs a).1 i ≠ [] → viewsO (viewsV fs b).1 i ≠ [] →
      (se f.of_.toNat (sub f.of_.toNat (((viewsO (viewsV fs a).1 i).flatMap (piecesO f a)).flatten ++ ((viewsO (viewsV fs b).1 i).flatMap (piecesO f b)).flatten))).length ≤
        (se f.of_.toNat (sub f.of_.toNat ((viewsO (viewsV fs a).1 i).flatMap (piecesO f a)).flatten)).length + (se f.of_.toNat (sub f.of_.toNat ((viewsO (viewsV fs b).1 i).flatMap (piecesO f b)).flatten)).length) :
    (placeE se sub fs (a ++ b) (viewsV fs (a ++ b)).1 i).length ≤ (placeE se sub fs a (viewsV fs a).1 i).length + (placeE se sub fs b (viewsV fs b).1 i).length := by
  have hw := both_words ha hb f i
  have hp := both_pieces ha hb f i
  have hv := both_own ha hb i
  by_cases h1 : viewsO (viewsV fs a).1 i = []
  · by_cases h2 : viewsO (viewsV fs b).1 i = []
    · rw [placeE_none (by rw [hv, h1, h2]; rfl)]
      exact Nat.zero_le _
    · rw [placeE_at hf (by rw [hv, h1]; simpa using h2), placeE_none h1, placeE_at hf h2, hw, hp, h1, List.flatMap_nil, List.flatMap_nil, List.nil_append, List.nil_append]
      omega
  · by_cases h2 : viewsO (viewsV fs b).1 i = []
    · rw [placeE_at hf (by rw [hv, h2]; simpa using h1), placeE_none h2, placeE_at hf h1, hw, hp, h2, List.flatMap_nil, List.flatMap_nil, List.append_nil, List.append_nil]
      omega
    · rw [placeE_at hf (by rw [hv]; simp [h1]), placeE_at hf h1, placeE_at hf h2, hw, hp]
      exact fieldE_both (own_things hf h1) (own_things hf h2) (fun hk hr => hsub hk hr h1 h2)

theorem flat_both {α : Type} {g h k : α → List UInt8} : ∀ {l : List α}, (∀ x ∈ l, (g x).length ≤ (h x).length + (k x).length) → (l.flatMap g).length ≤ (l.flatMap h).length + (l.flatMap k).length
  | [], _ => Nat.zero_le _
  | x :: l, e => by
    have ih := flat_both (g := g) (h := h) (k := k) (l := l) (fun y hy => e y (List.mem_cons_of_mem _ hy))
    have h1 := e x List.mem_cons_self
    simp only [List.flatMap_cons, List.length_append]
    omega

/-- The values of a single message's records are valid one level less deep. -/
theorem sub_valid {d i : Nat} {c : List UInt8} (hR : rightS S = true) (hM : S[m]? = some M) (hf : M.fields[i]? = some f) (h17 : f.kind = 17) (hc : (firstV S d m c).2 = 0) (hne : viewsO (viewsV M.fields c).1 i ≠ []) :
    ∃ e, d = e + 1 ∧ ∀ v ∈ viewsO (viewsV M.fields c).1 i, v.run = false ∧ (firstV S e f.of_.toNat (valueO c v)).2 = 0 := by
  rw [firstV_eq, checkM_valid hM] at hc
  have hrun : ∀ v ∈ viewsO (viewsV M.fields c).1 i, v.run = false := fun v hv => by
    rcases own_view (own_bd hv).1 (own_bd hv).2.1 hf with ⟨_, _, q⟩ | ⟨q, _⟩
    · exact absurd h17 (number_17 q)
    · exact q
  obtain ⟨v, l, hvl⟩ := List.exists_cons_of_ne_nil hne
  have hv : v ∈ viewsO (viewsV M.fields c).1 i := by rw [hvl]; exact List.mem_cons_self
  rcases d with _ | e
  · have h1 := (valueC_sub (S := S) (d := 0) (bs := c) (own_bd hv).2.1 hf (hrun v hv) h17).1 rfl
    have h2 := hc.2 v (own_bd hv).1
    rw [h1] at h2
    cases h2
  · refine ⟨e, rfl, fun u hu => ⟨hrun u hu, ?_⟩⟩
    have h1 := (valueC_sub (S := S) (d := e + 1) (bs := c) (own_bd hu).2.1 hf (hrun u hu) h17).2 e rfl
    have h2 := hc.2 u (own_bd hu).1
    rw [h1.1] at h2
    exact h2

theorem enc_bothJ (hR : rightS S = true) (hM : S[m]? = some M) {d : Nat} (ha : (firstV S d m a).2 = 0) (hb : (firstV S d m b).2 = 0)
    (hsub : ∀ (e o : Nat) (x y : List UInt8), d = e + 1 → o < S.length → (firstV S e o x).2 = 0 → (firstV S e o y).2 = 0 → (se o (sub o (x ++ y))).length ≤ (se o (sub o x)).length + (se o (sub o y)).length) :
    (encC se S m (ofM sub S m (a ++ b))).flatten.length ≤ (encC se S m (ofM sub S m a)).flatten.length + (encC se S m (ofM sub S m b)).flatten.length := by
  have hva : (viewsV M.fields a).2.2 = 0 := by rw [firstV_eq, checkM_valid hM] at ha; exact ha.1
  have hvb : (viewsV M.fields b).2.2 = 0 := by rw [firstV_eq, checkM_valid hM] at hb; exact hb.1
  rw [enc_of hR hM, enc_of hR hM, enc_of hR hM]
  have hu : unkW (a ++ b) (viewsV M.fields (a ++ b)).1 = unkW a (viewsV M.fields a).1 ++ unkW b (viewsV M.fields b).1 := both_unk hva hvb
  rw [hu, List.flatMap_append]
  simp only [List.length_append]
  have h1 := flat_both (g := placeE se sub M.fields (a ++ b) (viewsV M.fields (a ++ b)).1) (h := placeE se sub M.fields a (viewsV M.fields a).1) (k := placeE se sub M.fields b (viewsV M.fields b).1) (l := sortK (keyF M.fields) M.fields.length) (fun i hi => by
    have hil := sortK_mem.1 hi
    have hf := List.getElem?_eq_getElem hil
    refine placeE_both hva hvb hf (fun h17 hr h1 h2 => ?_)
    obtain ⟨o, ho1, ho2⟩ := right_of hR hM hf h17
    have hnum : numberB (M.fields[i]).kind = false := by rw [h17]; rfl
    obtain ⟨e, rfl, ea⟩ := sub_valid hR hM hf h17 ha h1
    obtain ⟨e', he', eb⟩ := sub_valid hR hM hf h17 hb h2
    obtain rfl : e' = e := by omega
    exact hsub e' _ _ _ rfl (by rw [ho1]; exact ho2) (pieces_valid ea hnum) (pieces_valid eb hnum))
  omega

/-- The normal form of two messages is no longer than theirs together. -/
theorem enc_both {S : List MsgD} (hR : rightS S = true) : ∀ (D d m : Nat) (a b : List UInt8), m < S.length → (firstV S d m a).2 = 0 → (firstV S d m b).2 = 0 →
    (encV S D m (ofV S D m (a ++ b))).length ≤ (encV S D m (ofV S D m a)).length + (encV S D m (ofV S D m b)).length
  | 0, d, m, a, b, hm, ha, hb => by
    rw [encV, encV, encV, ofV]
    exact enc_bothJ hR (List.getElem?_eq_getElem hm) ha hb (fun _ _ _ _ _ _ _ _ => Nat.zero_le _)
  | D + 1, d, m, a, b, hm, ha, hb => by
    rw [encV, encV, encV, ofV]
    exact enc_bothJ hR (List.getElem?_eq_getElem hm) ha hb (fun e o x y _ ho hx hy => enc_both hR D e o x y ho hx hy)
end

end Go.Proofs.YtcbpbpeogfbpiaaGreat

/- Plain words of layer 18: right meanings within more depth; the normal form. -/
namespace Go.Proofs.YtcbpbpeogfbpiaaGreat
open Go.RowKit
set_option linter.unusedVariables false

section
variable {S : List MsgD}

theorem RightJ.mono {rs rs' : Nat → MsgT → Prop} (h : ∀ m x, rs m x → rs' m x) {m : Nat} {x : MsgT} (hx : RightJ rs S m x) : RightJ rs' S m x := by
  obtain ⟨M, hM, hp, hv, hu⟩ := hx
  refine ⟨M, hM, hp, fun v hvm => ?_, hu⟩
  obtain ⟨i, f, hf, h1, h2, h3, h4⟩ := hv v hvm
  refine ⟨i, f, hf, h1, h2, h3, ?_⟩
  rcases h4 with h4 | h4 | ⟨h4, h5, h6, h7⟩
  · exact .inl h4
  · exact .inr (.inl h4)
  · exact .inr (.inr ⟨h4, h5, h6, fun y hy => h _ _ (h7 y hy)⟩)

theorem RightV.succ : ∀ {d m : Nat} {x : MsgT}, RightV S d m x → RightV S (d + 1) m x
  | 0, m, x, h => by
    have h' : RightJ (fun _ _ => False) S m x := h
    exact h'.mono (fun _ _ q => q.elim)
  | d + 1, m, x, h => by
    have h' : RightJ (RightV S d) S m x := h
    exact h'.mono (fun _ _ q => RightV.succ q)

theorem RightV.more {d m : Nat} {x : MsgT} (h : RightV S d m x) : ∀ {D : Nat}, d ≤ D → RightV S D m x := by
  intro D hD
  induction D with
  | zero => obtain rfl : d = 0 := by omega
            exact h
  | succ D ih =>
    by_cases e : d = D + 1
    · subst e
      exact h
    · exact RightV.succ (ih (by omega))

theorem encC_congr (hR : rightS S = true) {m : Nat} {x : MsgT} {rs : Nat → MsgT → Prop} (hx : RightJ rs S m x) {se se' : Nat → MsgT → List UInt8} (h : ∀ o y, rs o y → se o y = se' o y) : encC se S m x = encC se' S m x := by
  obtain ⟨M, hM, _, hv, _⟩ := hx
  unfold encC
  rw [hM]
  simp only
  congr 1
  refine flat_congr fun v hvm => ?_
  obtain ⟨i, f, hf, h1, _, _, h4⟩ := hv v hvm
  have hfind : M.fields.find? (fun g => g.number == v.number) = some f := by
    rw [h1]
    exact (find_of_idx (p := fun g : FieldD => decide (g.number = f.number)) (l := M.fields)).2 i f (right_field hR hM hf).2 hf
  rw [hfind]
  simp only
  unfold valueE
  split
  · rfl
  · congr 1
    refine List.map_congr_left fun y hy => ?_
    rcases h4 with ⟨_, _, q, _⟩ | ⟨_, _, _, _, q, _⟩ | ⟨_, _, _, q⟩
    · rw [q] at hy
      cases hy
    · rw [q] at hy
      cases hy
    · rw [h _ _ (q y hy)]

/-- The depth plays no part in a right meaning's bytes. -/
theorem encV_fuel (hR : rightS S = true) : ∀ {d D m : Nat} {x : MsgT}, RightV S d m x → d ≤ D → encV S D m x = encV S d m x
  | 0, 0, m, x, h, _ => rfl
  | 0, D + 1, m, x, h, _ => by
    have h' : RightJ (fun _ _ => False) S m x := h
    rw [encV, encV, encC_congr hR h' (se' := fun _ _ => []) (fun _ _ q => q.elim)]
  | d + 1, 0, m, x, h, hD => absurd hD (by omega)
  | d + 1, D + 1, m, x, h, hD => by
    have h' : RightJ (RightV S d) S m x := h
    rw [encV, encV, encC_congr hR h' (se' := encV S d) (fun o y q => encV_fuel hR q (by omega))]

/-- The meaning, and the normal form, of valid bytes. -/
def meanB (S : List MsgD) (m : Nat) (bs : List UInt8) : MsgT := ofV S 100000 m bs

def normB (S : List MsgD) (m : Nat) (bs : List UInt8) : List UInt8 := encV S 100000 m (meanB S m bs)

theorem normB_small (hR : rightS S = true) {m : Nat} {bs : List UInt8} (hb : bs.length ≤ 100000) : (normB S m bs).length ≤ 32 * bs.length := enc_small hR 100000 m bs hb

theorem mean_right (hR : rightS S = true) {d m : Nat} {bs : List UInt8} (hm : m < S.length) (h : (firstV S d m bs).2 = 0) (hb : bs.length ≤ 100000) : RightV S d m (meanB S m bs) := of_right hR d 100000 m bs hm h hb

theorem norm_means (hR : rightS S = true) {d m : Nat} {bs : List UInt8} (hm : m < S.length) (h : (firstV S d m bs).2 = 0) (hd : d ≤ 100000) (hb : bs.length ≤ 3125) : meanB S m (normB S m bs) = meanB S m bs := by
  have h1 := (mean_right hR hm h (by omega)).more hd
  have h2 := normB_small hR (m := m) (bs := bs) (by omega)
  exact of_enc hR 100000 100000 m (meanB S m bs) h1 (by unfold normB at h2; omega) (by unfold normB at h2; omega)

theorem norm_valid (hR : rightS S = true) {d m : Nat} {bs : List UInt8} (hm : m < S.length) (h : (firstV S d m bs).2 = 0) (hd : d ≤ 100000) (hb : bs.length ≤ 100000) : (firstV S d m (normB S m bs)).2 = 0 := by
  have h1 := mean_right hR hm h hb
  have h2 := normB_small hR (m := m) (bs := bs) hb
  unfold normB at h2 ⊢
  rw [encV_fuel hR h1 hd] at h2 ⊢
  exact enc_valid hR d m _ h1 (by omega)

theorem norm_same (hR : rightS S = true) {d d' m : Nat} {a b : List UInt8} (hm : m < S.length) (ha : (firstV S d m a).2 = 0) (hd : d ≤ 100000) (hb : (firstV S d' m b).2 = 0) (hd' : d' ≤ 100000) (hla : a.length ≤ 3125) (hlb : b.length ≤ 3125) : normB S m a = normB S m b ↔ meanB S m a = meanB S m b := by
  constructor
  · intro h
    rw [← norm_means hR hm ha hd hla, ← norm_means hR hm hb hd' hlb, h]
  · intro h
    unfold normB
    rw [h]

end

end Go.Proofs.YtcbpbpeogfbpiaaGreat

/- Plain words of layer 18: a normal form is at most twice as long as the bytes. -/


/- Plain words of layer 18: a normal form is at most twice as long. -/
namespace Go.Proofs.YtcbpbpeogfbpiaaGreat
open Go.RowKit
open Go.Lib (uvarint uvarint_small uvarint_big uvarint_pos)
set_option linter.unusedVariables false

theorem readI_len : ∀ (bs : List UInt8) (i x l : Nat), readI i bs = (x, l, 0) → (uvarint x).length ≤ l
  | [], i, x, l, h => by
    rw [readI] at h
    cases h
  | b :: r, i, x, l, h => by
    rw [readI] at h
    split at h
    · cases h
    · split at h
      · rename_i hb
        simp only [Prod.mk.injEq] at h
        obtain ⟨rfl, rfl, _⟩ := h
        rw [uvarint_small hb]
        simp
      · split at h
        · rename_i hc
          simp only [Prod.mk.injEq] at h
          obtain ⟨rfl, rfl, _⟩ := h
          rcases hr : readI (i + 1) r with ⟨y, k, C⟩
          rw [hr] at hc
          simp only at hc
          subst hc
          have ih := readI_len r (i + 1) y k hr
          simp only
          by_cases hx : b.toNat % 128 + 128 * y < 128
          · rw [uvarint_small hx]
            simp
          · rw [uvarint_big (by omega), List.length_cons]
            have : (b.toNat % 128 + 128 * y) / 128 = y := by omega
            rw [this]
            omega
        · rename_i hc
          simp only [Prod.mk.injEq] at h
          exact absurd h.2.2 hc

theorem readV_len {bs : List UInt8} {x l : Nat} (h : readV bs = (x, l, 0)) : (uvarint x).length ≤ l := readI_len bs 0 x l h

theorem uvarint_ge : ∀ (k x : Nat), 128 ^ k ≤ x → k + 1 ≤ (uvarint x).length
  | 0, x, _ => uvarint_pos x
  | k + 1, x, h => by
    have h1 : 1 ≤ 128 ^ k := Nat.pos_of_ne_zero (by simp)
    rw [Nat.pow_succ] at h
    rw [uvarint_big (by omega), List.length_cons]
    have := uvarint_ge k (x / 128) (by omega)
    omega

theorem uvarint_eight {x y : Nat} (h : x / 8 = y / 8) : (uvarint x).length = (uvarint y).length := by
  by_cases hx : x < 128
  · rw [uvarint_small hx, uvarint_small (by omega)]
    simp
  · rw [uvarint_big (by omega), uvarint_big (x := y) (by omega), List.length_cons, List.length_cons]
    have : x / 128 = y / 128 := by omega
    rw [this]

/-- A canonical word is at most twice as long as the word. -/
theorem canon_len (k : Int) {x : Nat} (hx : x < 18446744073709551616) : (uvarint (canonN k x)).length ≤ 2 * (uvarint x).length := by
  have hp := uvarint_pos x
  have h10 := Lib.uvarint_length64 (canonN_lt k hx)
  by_cases hle : canonN k x ≤ x
  · have := uvarint_mono _ _ hle
    omega
  · have hb : 268435456 ≤ x := by
      unfold canonN at hle
      split at hle
      · unfold wideI sign32I at hle
        by_cases h5 : (2147483648 : Int) ≤ (x : Int) % 4294967296
        · omega
        · rw [if_neg h5, if_pos (by omega)] at hle
          omega
      · split at hle
        · split at hle <;> omega
        · split at hle <;> omega
    have := uvarint_ge 4 x (by simpa using hb)
    omega

/-- A word that is read, put again, is at most twice as long as its bytes. -/
theorem word_twice {k : Int} {bs : List UInt8} (h : k < 9 ∧ 1 ≤ bs.length ∨ 9 ≤ k ∧ k < 12 ∧ bs.length = 4 ∨ 12 ≤ k ∧ bs.length = 8) : (putS k (readS k bs).1).length ≤ 2 * bs.length := by
  rcases h with ⟨h1, h2⟩ | ⟨h1, h2, h3⟩ | ⟨h1, h2⟩
  · unfold putS
    rw [if_neg (by omega), if_neg (by omega), readS_canon]
    unfold readS
    have h0 : (uvarint 0).length = 1 := by rw [uvarint_small (by omega)]; simp
    split
    · show (uvarint 0).length ≤ _
      omega
    · rw [if_neg (by omega), if_neg (by omega)]
      split
      · rename_i hc
        have hv := readV_len (bs := bs) (x := (readV bs).1) (l := (readV bs).2.1) (by rw [← hc.1])
        have := canon_len k (readV_bd bs).1
        show (uvarint (canonN k (readV bs).1)).length ≤ _
        omega
      · show (uvarint 0).length ≤ _
        omega
  · unfold putS
    rw [if_neg (by omega), if_pos (by omega), littleB_length]
    omega
  · unfold putS
    rw [if_pos (by omega), littleB_length]
    omega

theorem vals_twice {k : Int} : ∀ (f : Nat) (bs : List UInt8), bs.length ≤ f → (packW k ((valsF k f bs).map fun u => (readS k u.1).1)).length ≤ 2 * bs.length + (if ∃ u ∈ valsF k f bs, u.2 ≠ 0 then 10 else 0)
  | 0, bs, h => by
    rw [valsF]
    exact Nat.zero_le _
  | f + 1, bs, h => by
    rw [valsF]
    split
    · exact Nat.zero_le _
    · split
      · rename_i hne hc
        rcases stepN_bd k bs with ⟨_, s1, s2⟩ | ⟨q, _⟩
        · have ih := vals_twice (k := k) f (bs.drop (stepN k bs).1) (by rw [List.length_drop]; omega)
          rw [List.length_drop] at ih
          have htl : (bs.take (stepN k bs).1).length = (stepN k bs).1 := by rw [List.length_take]; omega
          have h1 := word_twice (k := k) (bs := bs.take (stepN k bs).1) (by
            rw [htl]
            unfold stepN at hc s1 ⊢
            by_cases h9 : k < 9
            · rw [if_pos h9] at s1 ⊢
              exact .inl ⟨h9, s1⟩
            · rw [if_neg h9] at hc ⊢
              by_cases h12 : k < 12
              · rw [if_pos h12] at hc ⊢
                split at hc
                · cases hc
                · rw [if_neg ‹_›]
                  exact .inr (.inl ⟨by omega, h12, rfl⟩)
              · rw [if_neg h12] at hc ⊢
                split at hc
                · cases hc
                · rw [if_neg ‹_›]
                  exact .inr (.inr ⟨by omega, rfl⟩))
          rw [htl] at h1
          simp only [List.map_cons, packW, List.length_append]
          by_cases he : ∃ u ∈ valsF k f (bs.drop (stepN k bs).1), u.2 ≠ 0
          · rw [if_pos he] at ih
            obtain ⟨u, hu, hu2⟩ := he
            rw [if_pos ⟨u, List.mem_cons_of_mem _ hu, hu2⟩]
            omega
          · rw [if_neg he] at ih
            omega
        · exact absurd hc q
      · rename_i hne hc
        rw [if_pos ⟨_, List.mem_singleton.2 rfl, hc⟩]
        have := (putS_length (k := k) (readS_bd k ([] : List UInt8)).1).2
        simp only [List.map_cons, List.map_nil, packW, List.append_nil]
        omega

/-- A run of words, packed again, is at most twice as long. -/
theorem run_twice (k : Int) (bs : List UInt8) : (packW k (wordsV k bs).1).length ≤ 2 * bs.length := by
  unfold wordsV
  split
  · rename_i hc
    unfold valsV
    split
    · rename_i hk
      have : codeV k bs = 2 := by
        unfold codeV valsV
        rw [if_pos hk]
        rfl
      rw [hc] at this
      cases this
    · rename_i hk
      have h1 := vals_twice (k := k) bs.length bs (Nat.le_refl _)
      rw [if_neg] at h1
      · exact h1
      · rintro ⟨u, hu, h2⟩
        obtain ⟨j, hj⟩ := List.getElem?_of_mem hu
        have := codeV_bad (k := k) (bs := bs) (j := j) (x := u) (by unfold valsV; rw [if_neg hk]; exact hj) h2
        rw [hc] at this
        exact h2 this.symm
  · exact Nat.zero_le _

/-- What a record's head takes at least. -/
theorem head_len {bs : List UInt8} {T V a t : Nat} (h : headV bs = (T, V, a, t, 0)) :
    (∀ w : Nat, w < 8 → (tagB (T : Int) (w : Int)).length ≤ a) ∧ (V = 2 → ∀ w : Nat, w < 8 → (tagB (T : Int) (w : Int)).length + (uvarint (t - a)).length ≤ a) ∧ (V = 0 → 1 ≤ t - a) ∧ (V = 1 → t - a = 8) ∧ (V = 5 → t - a = 4) := by
  rcases headV_cases bs with ⟨C, h1, h2, _⟩ | ⟨T', V', N, a', g, ht, hs, h3, h4, h5⟩
  · rw [h] at h1
    simp only [Prod.mk.injEq] at h1
    exact absurd h1.2.2.2.2.symm h2
  · rw [h] at h5
    simp only [Prod.mk.injEq] at h5
    obtain ⟨rfl, rfl, rfl, rfl, _⟩ := h5
    have htag : ∀ w : Nat, w < 8 → (tagB (T : Int) (w : Int)).length ≤ N := by
      intro w hw
      unfold tagV at ht
      split at ht
      · rename_i hc
        simp only [Prod.mk.injEq] at ht
        exact absurd ht.2.2.2 hc
      · rename_i hc
        have hc : (readV bs).2.2 = 0 := by simpa using hc
        split at ht
        · simp only [Prod.mk.injEq] at ht
          obtain ⟨e1, e2, e3, _⟩ := ht
          have hv := readV_len (bs := bs) (x := (readV bs).1) (l := (readV bs).2.1) (by rw [← hc])
          rw [e3] at hv
          unfold tagB
          rw [uvarint_eight (y := (readV bs).1) (by omega)]
          exact hv
        · simp only [Prod.mk.injEq] at ht
          exact absurd ht.2.2.2 (by decide)
    have hsz : ∀ x l c, readV (bs.drop N) = (x, l, c) → c = 0 → 1 ≤ l ∧ (uvarint x).length ≤ l := fun x l c e hc => by
      subst hc
      have h1 := (readV_bd (bs.drop N)).2.2.2.2.1
      rw [e] at h1
      exact ⟨h1 rfl, readV_len e⟩
    rcases hr : readV (bs.drop N) with ⟨x, l, c⟩
    have hz := hsz x l c hr
    unfold sizeV at hs
    rw [hr] at hs
    have e1 : N + a' + g - (N + a') = g := by omega
    rw [e1]
    refine ⟨fun w hw => by have := htag w hw; omega, fun hV w hw => ?_, fun hV => ?_, fun hV => ?_, fun hV => ?_⟩
    · subst hV
      rw [if_neg (by omega), if_neg (by omega), if_neg (by omega)] at hs
      simp only [Prod.mk.injEq] at hs
      obtain ⟨rfl, rfl, rfl⟩ := hs
      have := htag w hw
      have := hz rfl
      omega
    · subst hV
      rw [if_pos rfl] at hs
      simp only [Prod.mk.injEq] at hs
      obtain ⟨rfl, rfl, rfl⟩ := hs
      exact (hz rfl).1
    · subst hV
      rw [if_neg (by omega), if_pos rfl] at hs
      simp only [Prod.mk.injEq] at hs
      omega
    · subst hV
      rw [if_neg (by omega), if_neg (by omega), if_pos rfl] at hs
      simp only [Prod.mk.injEq] at hs
      omega

theorem seen_is {l : List FieldD} {v : ViewD} (h : seenV l v.r = (v, 0)) {i : Nat} {f : FieldD} (hi : v.field = (i : Int)) (hf : l[i]? = some f) :
    f.number = (v.r.n : Int) ∧ ((v.run = true ∧ f.rep = true ∧ numberB f.kind = true ∧ v.r.w = 2) ∨ (v.run = false ∧ kindB f.kind = true ∧ wireI f.kind = (v.r.w : Int))) := by
  rcases idxB_cases (numP (v.r.n : Int)) l with ⟨h1, _⟩ | ⟨k, g, h1, h2, h3, _⟩
  · rw [seenV_none h1] at h
    simp only [Prod.mk.injEq, and_true] at h
    rw [← h] at hi
    simp only at hi
    omega
  · have hnum : g.number = (v.r.n : Int) := by
      unfold numP at h3
      simpa using h3
    have hk : ∀ {b : Bool}, (⟨v.r, (k : Int), b⟩ : ViewD) = v → k = i ∧ b = v.run := fun {b} e => by
      constructor
      · rw [← e] at hi
        simp only at hi
        omega
      · rw [← e]
    rw [seenV_some h1 h2] at h
    split at h
    · rename_i hc
      simp only [Prod.mk.injEq, and_true] at h
      obtain ⟨rfl, hb⟩ := hk h
      rw [h2] at hf
      cases hf
      simp only [Bool.and_eq_true, beq_iff_eq] at hc
      exact ⟨hnum, .inl ⟨hb.symm, hc.1.1, hc.1.2, hc.2⟩⟩
    · split at h
      · rename_i hc
        simp only [Prod.mk.injEq, and_true] at h
        obtain ⟨rfl, hb⟩ := hk h
        rw [h2] at hf
        cases hf
        exact ⟨hnum, .inr ⟨hb.symm, hc.1, hc.2⟩⟩
      · simp only [Prod.mk.injEq] at h
        exact absurd h.2 (by decide)

theorem flat_one {α : Type} {g : α → List UInt8} {c : Nat} {j : α} (hc : (g j).length ≤ c) : ∀ {l : List α}, l.Nodup → (∀ x ∈ l, x ≠ j → g x = []) → (l.flatMap g).length ≤ c
  | [], _, _ => Nat.zero_le _
  | x :: l, hn, h => by
    rw [List.nodup_cons] at hn
    rw [List.flatMap_cons, List.length_append]
    by_cases e : x = j
    · subst e
      have : l.flatMap g = [] := by
        rw [List.flatMap_eq_nil_iff]
        intro y hy
        exact h y (List.mem_cons_of_mem _ hy) (fun e => hn.1 (by rw [← e]; exact hy))
      rw [this]
      simpa using hc
    · rw [h x List.mem_cons_self e]
      have := flat_one hc hn.2 (fun y hy => h y (List.mem_cons_of_mem _ hy))
      simpa using this

theorem wire_cases {k : Int} (h : kindB k = true) : (k < 9 ∧ wireI k = 0) ∨ (9 ≤ k ∧ k < 12 ∧ wireI k = 5) ∨ (12 ≤ k ∧ k < 15 ∧ wireI k = 1) ∨ (15 ≤ k ∧ wireI k = 2) := by
  unfold kindB at h
  have h := of_decide_eq_true h
  unfold wireI
  by_cases h8 : k ≤ 8
  · rw [if_pos h8]
    exact .inl ⟨by omega, rfl⟩
  · rw [if_neg h8]
    by_cases h11 : k ≤ 11
    · rw [if_pos h11]
      exact .inr (.inl ⟨by omega, by omega, rfl⟩)
    · rw [if_neg h11]
      by_cases h14 : k ≤ 14
      · rw [if_pos h14]
        exact .inr (.inr (.inl ⟨by omega, by omega, rfl⟩))
      · rw [if_neg h14]
        exact .inr (.inr (.inr ⟨by omega, rfl⟩))

section
variable {se : Nat → MsgT → List UInt8} {sub : Nat → List UInt8 → MsgT} {f : FieldD} {bs : List UInt8} {fs : List FieldD} {S : List MsgD} {m : Nat} {M : MsgD}

theorem putB_short {n w : Int} {v : List UInt8} (hw : w ≠ 2) : (putB n w v).length = (tagB n w).length + v.length := by
  unfold putB
  rw [if_neg hw, List.length_append, List.length_append]
  simp

/-- One record's normal form is at most twice as long. -/
theorem one_twice (hR : rightS S = true) (hM : S[m]? = some M) {v : ViewD} (hv : (viewsV M.fields bs).1 = [v]) (hl : lookV M.fields bs 0 = (v, 0)) (ht : v.r.t = bs.length) {d : Nat} (hb : (firstV S d m bs).2 = 0)
    (hsub : ∀ (e o : Nat) (x : List UInt8), d = e + 1 → o < S.length → (firstV S e o x).2 = 0 → x.length + 1 ≤ bs.length → (se o (sub o x)).length ≤ 2 * x.length) :
    (encC se S m (ofM sub S m bs)).flatten.length ≤ 2 * bs.length := by
  obtain ⟨g1, g2, g3, g4, g5, g6⟩ := look_first hl
  have hseen := (lookV_of hl).2
  rw [enc_of hR hM, unk_flat, List.length_append]
  have hn : (sortK (keyF M.fields) M.fields.length).Nodup := (sortK_perm (keyF M.fields) M.fields.length).nodup_iff.2 List.nodup_range
  have hvl : (valueO bs v).length = v.r.t - v.r.a := by
    unfold valueO
    exact spanB_length bs (by omega)
  by_cases hneg : v.field < 0
  · have hz : (sortK (keyF M.fields) M.fields.length).flatMap (placeE se sub M.fields bs (viewsV M.fields bs).1) = [] := by
      rw [List.flatMap_eq_nil_iff]
      intro i _
      refine placeE_none ?_
      rw [hv]
      unfold viewsO
      rw [List.filter_cons, if_neg (by simp only [beq_iff_eq]; omega)]
      rfl
    rw [hz, hv, List.filter_cons, if_pos (by simpa using hneg)]
    simp only [List.filter_nil, List.flatMap_cons, List.flatMap_nil, List.append_nil, List.length_nil]
    rw [spanB_length bs (by omega)]
    omega
  · obtain ⟨i, hi⟩ := Int.eq_ofNat_of_zero_le (show 0 ≤ v.field by omega)
    have hu : ((viewsV M.fields bs).1.filter fun v => decide (v.field < 0)) = [] := by
      rw [hv, List.filter_cons, if_neg (by simpa using hneg)]
      rfl
    rw [hu]
    have hV : viewsO (viewsV M.fields bs).1 i = [v] := by
      rw [hv]
      unfold viewsO
      rw [List.filter_cons, if_pos (by simp [hi])]
      rfl
    have hmem : v ∈ (viewsV M.fields bs).1 := by rw [hv]; exact List.mem_singleton.2 rfl
    obtain ⟨f, hf⟩ : ∃ f, M.fields[i]? = some f := by
      rcases view_is hmem with q | ⟨k, f, e1, e2, _⟩
      · omega
      · obtain rfl : k = i := by omega
        exact ⟨f, e2⟩
    have hone : (placeE se sub M.fields bs (viewsV M.fields bs).1 i).length ≤ 2 * bs.length := by
      rw [placeE_at hf (by rw [hV]; simp), hV]
      simp only [List.flatMap_cons, List.flatMap_nil, List.append_nil]
      obtain ⟨q1, q2⟩ := seen_is hseen hi hf
      obtain ⟨s1, s2, s3, s4, s5⟩ := head_len g1
      rw [← q1] at s1 s2
      rcases q2 with ⟨r1, r2, r3, r4⟩ | ⟨r1, r2, r3⟩
      · have hw : wordsO f bs v = (wordsV f.kind (valueO bs v)).1 := by
          unfold wordsO
          rw [if_pos r1]
        have hp : piecesO f bs v = [] := by
          unfold piecesO
          rw [if_pos r1]
        rw [hp, fieldE_run r3 r2]
        split
        · exact Nat.zero_le _
        · have h1 := run_twice f.kind (valueO bs v)
          rw [← hw, hvl] at h1
          have h2 := s2 r4 2 (by omega)
          have h3 := uvarint_mono _ _ h1
          have h4 := uvarint_both (v.r.t - v.r.a) (v.r.t - v.r.a)
          rw [← Nat.two_mul] at h4
          rw [putB_len]
          have h5 : ((2 : Nat) : Int) = 2 := rfl
          rw [h5] at h2
          omega
      · rcases hnb : numberB f.kind with _ | _
        · have hw : wordsO f bs v = [] := by
            unfold wordsO
            rw [r1, hnb]
            rfl
          have hp : piecesO f bs v = [valueO bs v] := by
            unfold piecesO
            rw [r1, hnb]
            rfl
          have hV2 : v.r.w = 2 := by
            have := wire_other r2 hnb
            omega
          have h2 := s2 hV2 2 (by omega)
          have h5 : ((2 : Nat) : Int) = 2 := rfl
          rw [h5] at h2
          rw [hw, hp]
          by_cases h17 : f.kind = 17
          · obtain ⟨o, ho1, ho2⟩ := right_of hR hM hf h17
            obtain ⟨e, hde, ev⟩ := sub_valid hR hM hf h17 hb (by rw [hV]; simp)
            have h1 := hsub e f.of_.toNat (valueO bs v) hde (by rw [ho1]; exact ho2) (ev v (by rw [hV]; exact List.mem_singleton.2 rfl)).2 (by omega)
            rw [hvl] at h1
            have h3 := uvarint_mono _ _ h1
            have h4 := uvarint_both (v.r.t - v.r.a) (v.r.t - v.r.a)
            rw [← Nat.two_mul] at h4
            rcases hr : f.rep with _ | _
            · rw [fieldE_join h17 hr]
              simp only [List.flatten_cons, List.flatten_nil, List.append_nil]
              rw [putB_len]
              omega
            · rw [fieldE_subs h17 hr]
              simp only [List.map_cons, List.map_nil, List.flatten_cons, List.flatten_nil, List.append_nil]
              rw [putB_len]
              omega
          · rcases hr : f.rep with _ | _
            · have := fieldE_text (se := se) (sub := sub) hnb h17 hr (ps := []) (x := valueO bs v)
              rw [List.nil_append] at this
              rw [this, putB_len, hvl]
              omega
            · rw [fieldE_texts hnb h17 hr]
              simp only [List.map_cons, List.map_nil, List.flatten_cons, List.flatten_nil, List.append_nil]
              rw [putB_len, hvl]
              omega
        · have hw : wordsO f bs v = [(readS f.kind (valueO bs v)).1] := by
            unfold wordsO
            rw [r1, hnb]
            rfl
          have hp : piecesO f bs v = [] := by
            unfold piecesO
            rw [r1, hnb]
            rfl
          have h1 := word_twice (k := f.kind) (bs := valueO bs v) (by
            rw [hvl]
            unfold numberB at hnb
            have hnb := of_decide_eq_true hnb
            rcases wire_cases r2 with ⟨c1, c2⟩ | ⟨c1, c2, c3⟩ | ⟨c1, c2, c3⟩ | ⟨c1, _⟩
            · exact .inl ⟨c1, s3 (by omega)⟩
            · exact .inr (.inl ⟨c1, c2, s5 (by omega)⟩)
            · exact .inr (.inr ⟨c1, s4 (by omega)⟩)
            · omega)
          rw [hvl] at h1
          rw [hw, hp]
          have hx := (readS_bd f.kind (valueO bs v)).1
          have h10 := putS_length (k := f.kind) hx
          rcases hr : f.rep with _ | _
          · have := fieldE_word (se := se) (sub := sub) hnb hr (ws := []) (x := (readS f.kind (valueO bs v)).1)
            rw [List.nil_append] at this
            rw [this, r3]
            have hw8 : v.r.w < 8 := by
              rcases wire_cases r2 with ⟨c1, c2⟩ | ⟨c1, c2, c3⟩ | ⟨c1, c2, c3⟩ | ⟨c1, _⟩ <;> omega
            have hw2 : (v.r.w : Int) ≠ 2 := by
              unfold numberB at hnb
              have hnb := of_decide_eq_true hnb
              rcases wire_cases r2 with ⟨c1, c2⟩ | ⟨c1, c2, c3⟩ | ⟨c1, c2, c3⟩ | ⟨c1, _⟩ <;> omega
            have h2 := s1 v.r.w hw8
            rw [putB_short hw2]
            omega
          · rw [fieldE_run hnb hr, if_neg (by simp)]
            have h2 := s1 2 (by omega)
            have h5 : ((2 : Nat) : Int) = 2 := rfl
            rw [h5] at h2
            rw [putB_len]
            simp only [packW, List.append_nil]
            rw [uvarint_small (x := (putS f.kind (readS f.kind (valueO bs v)).1).length) (by omega)]
            simp only [List.length_cons, List.length_nil]
            omega
    have h1 := flat_one hone hn (fun x _ hx => placeE_none (se := se) (sub := sub) (fs := M.fields) (bs := bs) (by
      rw [hv]
      unfold viewsO
      rw [List.filter_cons, if_neg (by simp only [beq_iff_eq]; omega)]
      rfl))
    simpa using h1

/-- A normal form is at most twice as long. -/
theorem enc_twice {S : List MsgD} (hR : rightS S = true) : ∀ (n D d m : Nat) (bs : List UInt8), bs.length ≤ n → m < S.length → (firstV S d m bs).2 = 0 → bs.length ≤ 100000 → (encV S D m (ofV S D m bs)).length ≤ 2 * bs.length
  | 0, D, d, m, bs, hn, hm, hb, hl => by
    have := enc_small hR D m bs hl
    omega
  | n + 1, D, d, m, bs, hn, hm, hb, hl => by
    by_cases hne : bs = []
    · have := enc_small hR D m bs hl
      rw [hne] at this ⊢
      simpa using this
    · obtain ⟨M, hM⟩ : ∃ M, S[m]? = some M := ⟨_, List.getElem?_eq_getElem hm⟩
      obtain ⟨v, h1, h2, h3, h4, h5, _, h7⟩ := valid_head hM hb hne
      by_cases ht : v.r.t = bs.length
      · have hd0 : bs.drop v.r.t = [] := List.drop_of_length_le (by omega)
        rw [hd0, viewsV_nil] at h7
        have hv : (viewsV M.fields bs).1 = [v] := h7
        rcases D with _ | D
        · rw [encV, ofV]
          exact one_twice hR hM hv h1 ht hb (fun _ _ _ _ _ _ _ => Nat.zero_le _)
        · rw [encV, ofV]
          exact one_twice hR hM hv h1 ht hb (fun e o x _ ho hx hxl => enc_twice hR n D e o x (by omega) ho hx (by omega))
      · have hbs : bs.take v.r.t ++ bs.drop v.r.t = bs := List.take_append_drop _ _
        have hb1 := enc_both hR D d m _ _ hm h4 h5
        rw [hbs] at hb1
        have htl : (bs.take v.r.t).length = v.r.t := by rw [List.length_take]; omega
        have hdl : (bs.drop v.r.t).length = bs.length - v.r.t := List.length_drop
        have i1 := enc_twice hR n D d m (bs.take v.r.t) (by omega) hm h4 (by omega)
        have i2 := enc_twice hR n D d m (bs.drop v.r.t) (by omega) hm h5 (by omega)
        omega

theorem norm_twice {S : List MsgD} (hR : rightS S = true) {d m : Nat} {bs : List UInt8} (hm : m < S.length) (h : (firstV S d m bs).2 = 0) (hb : bs.length ≤ 100000) : (normB S m bs).length ≤ 2 * bs.length := enc_twice hR bs.length 100000 d m bs (Nat.le_refl _) hm h hb
end

end Go.Proofs.YtcbpbpeogfbpiaaGreat

/- Plain words of layer 14: right meanings, however deep. No program is named. -/

namespace Go.Proofs.YtcbpbpeogfbpiaaGreat
open Go.RowKit
set_option linter.unusedVariables false

section
variable {S : List MsgD}

/-- A right meaning of a message. -/
def RR (S : List MsgD) (m : Nat) (x : MsgT) : Prop := ∃ d, RightV S d m x

/-- .. of any number's message. -/
def RI (S : List MsgD) (root : Int) (x : MsgT) : Prop := 0 ≤ root ∧ RR S root.toNat x

theorem RightF.mono {rs rs' : Nat → MsgT → Prop} {f : FieldD} {v : ValT} (hv : RightF rs f v) (h : ∀ y ∈ v.subs, rs f.of_.toNat y → rs' f.of_.toNat y) : RightF rs' f v := by
  obtain ⟨h1, h2, h3, h4⟩ := hv
  refine ⟨h1, h2, h3, ?_⟩
  rcases h4 with h4 | h4 | ⟨h4, h5, h6, h7⟩
  · exact .inl h4
  · exact .inr (.inl h4)
  · exact .inr (.inr ⟨h4, h5, h6, fun y hy => h y hy (h7 y hy)⟩)

theorem RightV.mono {d D m : Nat} {x : MsgT} (h : RightV S d m x) (hD : d ≤ D) : RightV S D m x := h.more hD

theorem rr_all {m : Nat} : ∀ {l : List MsgT}, (∀ y ∈ l, RR S m y) → ∃ d, ∀ y ∈ l, RightV S d m y
  | [], _ => ⟨0, fun y hy => by cases hy⟩
  | y :: l, h => by
    obtain ⟨d, hd⟩ := rr_all (l := l) (fun z hz => h z (List.mem_cons_of_mem _ hz))
    obtain ⟨e, he⟩ := h y List.mem_cons_self
    refine ⟨max d e, fun z hz => ?_⟩
    rcases List.mem_cons.1 hz with rfl | hz
    · exact he.more (by omega)
    · exact (hd z hz).more (by omega)

theorem rr_vals {M : MsgD} : ∀ {l : List ValT}, (∀ v ∈ l, ∃ (i : Nat) (f : FieldD), M.fields[i]? = some f ∧ RightF (RR S) f v) → ∃ d, ∀ v ∈ l, ∃ (i : Nat) (f : FieldD), M.fields[i]? = some f ∧ RightF (RightV S d) f v
  | [], _ => ⟨0, fun y hy => by cases hy⟩
  | v :: l, h => by
    obtain ⟨d, hd⟩ := rr_vals (l := l) (fun z hz => h z (List.mem_cons_of_mem _ hz))
    obtain ⟨i, f, hf, hv⟩ := h v List.mem_cons_self
    have hv' := hv
    obtain ⟨_, _, _, h4⟩ := hv'
    obtain ⟨e, he⟩ : ∃ e, RightF (RightV S e) f v := by
      rcases h4 with h4 | h4 | ⟨h4, h5, h6, h7⟩
      · exact ⟨0, hv.mono fun y hy _ => by rw [h4.2.2.1] at hy; cases hy⟩
      · exact ⟨0, hv.mono fun y hy _ => by rw [h4.2.2.2.2.1] at hy; cases hy⟩
      · obtain ⟨e, he⟩ := rr_all h7
        exact ⟨e, hv.mono fun y hy _ => he y hy⟩
    refine ⟨max d e, fun z hz => ?_⟩
    rcases List.mem_cons.1 hz with rfl | hz
    · exact ⟨i, f, hf, he.mono fun y hy q => q.more (by omega)⟩
    · obtain ⟨j, g, hg, hz'⟩ := hd z hz
      exact ⟨j, g, hg, hz'.mono fun y hy q => q.more (by omega)⟩

theorem rr_iff {m : Nat} {x : MsgT} : RR S m x ↔ RightJ (RR S) S m x := by
  constructor
  · rintro ⟨d, h⟩
    rcases d with _ | d
    · have h' : RightJ (fun _ _ => False) S m x := h
      exact h'.mono (fun _ _ q => q.elim)
    · have h' : RightJ (RightV S d) S m x := h
      exact h'.mono (fun _ _ q => ⟨d, q⟩)
  · rintro ⟨M, hM, hp, hv, hu⟩
    obtain ⟨d, hd⟩ := rr_vals hv
    exact ⟨d + 1, M, hM, hp, hd, hu⟩

/-- Does a value fit a field? -/
def FitP (S : List MsgD) (f : FieldD) (v : ValT) : Prop :=
  manyU v ≠ 0 ∧ (f.rep = false → manyU v = 1) ∧
    ((numberB f.kind = true ∧ v.texts = [] ∧ v.subs = [] ∧ ∀ w ∈ v.words, canonN f.kind w = w) ∨
      (numberB f.kind = false ∧ kindB f.kind = true ∧ f.kind ≠ 17 ∧ v.words = [] ∧ v.subs = [] ∧ (f.kind = 15 → ∀ t ∈ v.texts, rightT t.data.toList = true)) ∨
      (f.kind = 17 ∧ v.words = [] ∧ v.texts = [] ∧ ∀ y ∈ v.subs, RI S f.of_ y))

/-- An unknown record of a message. -/
def StrangeP (fs : List FieldD) (t : ByteArray) : Prop := ∃ T V a, headV t.data.toList = (T, V, a, t.data.toList.length, 0) ∧ fs.find? (fun f => f.number == (T : Int)) = none

theorem fit_iff {f : FieldD} {v : ValT} (hn : v.number = f.number) (h0 : f.kind = 17 → 0 ≤ f.of_) (h64 : ∀ w ∈ v.words, w < 18446744073709551616) : RightF (RR S) f v ↔ FitP S f v := by
  unfold RightF FitP
  constructor
  · rintro ⟨_, h2, h3, h4⟩
    refine ⟨h2, h3, ?_⟩
    rcases h4 with ⟨a, b, c, d⟩ | h4 | ⟨h4, h5, h6, h7⟩
    · exact .inl ⟨a, b, c, fun w hw => (d w hw).2⟩
    · exact .inr (.inl h4)
    · exact .inr (.inr ⟨h4, h5, h6, fun y hy => ⟨h0 h4, h7 y hy⟩⟩)
  · rintro ⟨h2, h3, h4⟩
    refine ⟨hn, h2, h3, ?_⟩
    rcases h4 with ⟨a, b, c, d⟩ | h4 | ⟨h4, h5, h6, h7⟩
    · exact .inl ⟨a, b, c, fun w hw => ⟨h64 w hw, d w hw⟩⟩
    · exact .inr (.inl h4)
    · exact .inr (.inr ⟨h4, h5, h6, fun y hy => (h7 y hy).2⟩)

/-- The values, one by one, by rising numbers. -/
def valsP (ok : ValT → Prop) : Int → List ValT → Prop
  | _, [] => True
  | last, v :: l => last < v.number ∧ ok v ∧ valsP ok v.number l

theorem valsP_iff {ok : ValT → Prop} : ∀ {last : Int} {l : List ValT}, valsP ok last l ↔ (∀ v ∈ l, last < v.number) ∧ l.Pairwise (fun u v => u.number < v.number) ∧ ∀ v ∈ l, ok v
  | last, [] => by simp [valsP]
  | last, v :: l => by
    unfold valsP
    rw [valsP_iff (last := v.number) (l := l)]
    simp only [List.mem_cons, List.pairwise_cons, forall_eq_or_imp]
    constructor
    · rintro ⟨h1, h2, h3, h4, h5⟩
      exact ⟨⟨h1, fun u hu => by have := h3 u hu; omega⟩, ⟨h3, h4⟩, h2, h5⟩
    · rintro ⟨⟨h1, _⟩, ⟨h3, h4⟩, h2, h5⟩
      exact ⟨h1, h2, h3, h4, h5⟩

/-- A value of a message. -/
def OkP (S : List MsgD) (M : MsgD) (v : ValT) : Prop := ∃ f, M.fields.find? (fun g => g.number == v.number) = some f ∧ FitP S f v

theorem ri_iff (hR : rightS S = true) {m : Nat} {M : MsgD} (hM : S[m]? = some M) {x : MsgT} (h64 : ∀ v ∈ x.vals, ∀ w ∈ v.words, w < 18446744073709551616) :
    RI S (m : Int) x ↔ valsP (OkP S M) 0 x.vals ∧ ∀ t ∈ x.unk, StrangeP M.fields t := by
  unfold RI
  rw [Int.toNat_natCast, rr_iff, valsP_iff]
  have hfld : ∀ (i : Nat) (f : FieldD), M.fields[i]? = some f → 1 ≤ f.number ∧ (f.kind = 17 → 0 ≤ f.of_) := fun i f hf => by
    refine ⟨(usableB_pos (faultV_inv ((right_msg hR hM).2.2.2 i f hf)).2.2.1).1, fun h17 => ?_⟩
    obtain ⟨o, ho, _⟩ := right_of hR hM hf h17
    omega
  constructor
  · rintro ⟨_, M', hM', hp, hv, hu⟩
    rw [hM] at hM'
    cases hM'
    refine ⟨⟨fun v hvm => ?_, hp, fun v hvm => ?_⟩, hu⟩
    · obtain ⟨i, f, hf, h1, _⟩ := hv v hvm
      have := (hfld i f hf).1
      omega
    · obtain ⟨i, f, hf, hF⟩ := hv v hvm
      refine ⟨f, ?_, (fit_iff hF.1 (hfld i f hf).2 (h64 v hvm)).1 hF⟩
      rw [hF.1]
      exact (find_of_idx (p := fun g : FieldD => decide (g.number = f.number)) (l := M.fields)).2 i f (right_field hR hM hf).2 hf
  · rintro ⟨⟨_, hp, hv⟩, hu⟩
    refine ⟨by omega, M, hM, hp, fun v hvm => ?_, hu⟩
    obtain ⟨f, hf, hF⟩ := hv v hvm
    have hn : f.number = v.number := by simpa using List.find?_some hf
    obtain ⟨i, hi⟩ := List.getElem?_of_mem (List.mem_of_find?_eq_some hf)
    exact ⟨i, f, hi, (fit_iff hn.symm (hfld i f hi).2 (h64 v hvm)).2 hF⟩
end

end Go.Proofs.YtcbpbpeogfbpiaaGreat
