/- Plain words of layer 18: the normal form, field by field, is the meaning's bytes; and how long it is at most. -/
import Derived.Test.YtnnphodgegcddaaGreatQfS15

/- Plain words of layer 18: the normal form, field by field. -/
namespace Go.Proofs.YtnnphodgegcddaaGreat
open Go.RowKit
set_option linter.unusedVariables false

def unkW (bs : List UInt8) (L : List ViewD) : List ByteArray := (L.filter fun v => decide (v.field < 0)).map fun v => textO (spanB bs v.r.f v.r.t)

def fieldE (se : Nat → MsgT → List UInt8) (sub : Nat → List UInt8 → MsgT) (f : FieldD) (ws : List Nat) (ps : List (List UInt8)) : List UInt8 :=
 if manyU (valueU sub f ws ps) = 0 then [] else (valueE se f (valueU sub f ws ps)).flatten

def placeE (se : Nat → MsgT → List UInt8) (sub : Nat → List UInt8 → MsgT) (fs : List FieldD) (bs : List UInt8) (L : List ViewD) (i : Nat) : List UInt8 := match fs[i]? with
 | none => []
 | some f => if viewsO L i = [] then [] else fieldE se sub f ((viewsO L i).flatMap (wordsO f bs)) ((viewsO L i).flatMap (piecesO f bs))

section
variable {se : Nat → MsgT → List UInt8} {sub : Nat → List UInt8 → MsgT} {f : FieldD} {bs : List UInt8} {fs : List FieldD} {L : List ViewD} {S : List MsgD} {m : Nat} {M : MsgD}

theorem placeE_at {i : Nat} (hf : fs[i]? = some f) (hne : viewsO L i ≠ []) : placeE se sub fs bs L i = fieldE se sub f ((viewsO L i).flatMap (wordsO f bs)) ((viewsO L i).flatMap (piecesO f bs)) := by
 unfold placeE
 rw [hf]
 simp only
 rw [if_neg hne]

theorem placeE_none {i : Nat} (hne : viewsO L i = []) : placeE se sub fs bs L i = [] := by
 unfold placeE
 rcases fs[i]? with _ | f
 · rfl
 · simp only
   rw [if_pos hne]

theorem fieldE_run (hn : numberB f.kind = true) (hr : f.rep = true) {ws : List Nat} : fieldE se sub f ws [] = if ws = [] then [] else putB f.number 2 (packW f.kind ws) := by
 have h17 := number_17 hn
 have hu : valueU sub f ws [] = ⟨(), (), (), f.number, ws, [], []⟩ := by
  unfold valueU pwordsO ppiecesO
  simp [hr, h17]
 unfold fieldE
 rw [hu]
 unfold valueE manyU
 rw [if_pos hn, if_pos hr]
 rcases ws with _ | ⟨x, ws⟩
 · rfl
 · simp

theorem fieldE_word (hn : numberB f.kind = true) (hr : f.rep = false) {ws : List Nat} {x : Nat} : fieldE se sub f (ws ++ [x]) [] = putB f.number (wireI f.kind) (putS f.kind x) := by
 have h17 := number_17 hn
 have hu : valueU sub f (ws ++ [x]) [] = ⟨(), (), (), f.number, [x], [], []⟩ := by
  unfold valueU pwordsO ppiecesO
  simp [hr, h17, lastO_snoc, lastO_nil]
 unfold fieldE
 rw [hu]
 unfold valueE manyU
 simp [hn, hr]

theorem fieldE_join (hk : f.kind = 17) (hr : f.rep = false) {ps : List (List UInt8)} : fieldE se sub f [] ps = putB f.number 2 (se f.of_.toNat (sub f.of_.toNat ps.flatten)) := by
 have hn : ¬ numberB f.kind = true := by rw [hk]; decide
 have hu : valueU sub f [] ps = ⟨(), (), (), f.number, [], [], [sub f.of_.toNat ps.flatten]⟩ := by
  unfold valueU pwordsO ppiecesO
  simp [hr, hk, lastO_nil]
 unfold fieldE
 rw [hu]
 unfold valueE manyU
 rw [if_neg hn]
 simp

theorem fieldE_subs (hk : f.kind = 17) (hr : f.rep = true) {ps : List (List UInt8)} : fieldE se sub f [] ps = (ps.map fun x => putB f.number 2 (se f.of_.toNat (sub f.of_.toNat x))).flatten := by
 have hn : ¬ numberB f.kind = true := by rw [hk]; decide
 have hu : valueU sub f [] ps = ⟨(), (), (), f.number, [], [], ps.map (sub f.of_.toNat)⟩ := by
  unfold valueU pwordsO ppiecesO
  simp [hr, hk]
 unfold fieldE
 rw [hu]
 unfold valueE manyU
 rw [if_neg hn]
 rcases ps with _ | ⟨x, ps⟩
 · rfl
 · simp [Function.comp_def]

theorem fieldE_texts (hn : numberB f.kind = false) (hk : f.kind ≠ 17) (hr : f.rep = true) {ps : List (List UInt8)} : fieldE se sub f [] ps = (ps.map fun x => putB f.number 2 x).flatten := by
 have hn : ¬ numberB f.kind = true := by rw [hn]; decide
 have hu : valueU sub f [] ps = ⟨(), (), (), f.number, [], ps.map textO, []⟩ := by
  unfold valueU pwordsO ppiecesO
  simp [hr, hk]
 unfold fieldE
 rw [hu]
 unfold valueE manyU
 rw [if_neg hn]
 rcases ps with _ | ⟨x, ps⟩
 · rfl
 · simp [Function.comp_def, textO]

theorem fieldE_text (hn : numberB f.kind = false) (hk : f.kind ≠ 17) (hr : f.rep = false) {ps : List (List UInt8)} {x : List UInt8} : fieldE se sub f [] (ps ++ [x]) = putB f.number 2 x := by
 have hn : ¬ numberB f.kind = true := by rw [hn]; decide
 have hu : valueU sub f [] (ps ++ [x]) = ⟨(), (), (), f.number, [], [textO x], []⟩ := by
  unfold valueU pwordsO ppiecesO
  simp [hr, hk, lastO_snoc, lastO_nil]
 unfold fieldE
 rw [hu]
 unfold valueE manyU
 rw [if_neg hn]
 simp [textO]

theorem flat_filterMap {α β : Type} {g : α → Option β} {h : β → List (List UInt8)} {k : α → List UInt8} : ∀ {l : List α}, (∀ i ∈ l, k i = match g i with | none => [] | some v => (h v).flatten) → ((l.filterMap g).flatMap h).flatten = l.flatMap k
 | [], _ => rfl
 | i :: l, e => by
   have ih := flat_filterMap (g := g) (h := h) (k := k) (l := l) (fun j hj => e j (List.mem_cons_of_mem _ hj))
   have e1 := e i List.mem_cons_self
   rw [List.filterMap_cons, List.flatMap_cons, e1, ← ih]
   rcases g i with _ | v
   · rfl
   · simp

theorem enc_of (hR : rightS S = true) (hM : S[m]? = some M) : (encC se S m (ofM sub S m bs)).flatten =
  (sortK (keyF M.fields) M.fields.length).flatMap (placeE se sub M.fields bs (viewsV M.fields bs).1) ++ (unkW bs (viewsV M.fields bs).1).flatMap fun t => t.data.toList := by
 unfold encC ofM
 rw [hM]
 simp only
 rw [List.flatten_append]
 congr 1
 · refine flat_filterMap fun i hi => ?_
   rcases hp : placeO sub M.fields bs (viewsV M.fields bs).1 i with _ | u
   · unfold placeE
     unfold placeO at hp
     rcases hf : M.fields[i]? with _ | f
     · rfl
     · rw [hf] at hp
       simp only at hp ⊢
       split
       · rfl
       · rename_i hne
         rw [if_neg hne, fieldO_eq] at hp
         unfold fieldE
         split at hp
         · rename_i h0
           rw [if_pos h0]
         · cases hp
   · obtain ⟨f, hf, hne, hu, hm⟩ := place_some hp
     have hun : u.number = f.number := by rw [hu]; rfl
     have hfind : M.fields.find? (fun g : FieldD => g.number == u.number) = some f := by
      rw [hun]
      exact (find_of_idx (p := fun g : FieldD => decide (g.number = f.number)) (l := M.fields)).2 i f (right_field hR hM hf).2 hf
     simp only [hfind]
     rw [placeE_at hf hne]
     unfold fieldE
     rw [← hu, if_neg hm]
end

end Go.Proofs.YtnnphodgegcddaaGreat

/- Plain words of layer 18: how long a normal form is at most. -/
namespace Go.Proofs.YtnnphodgegcddaaGreat
open Go.RowKit
set_option linter.unusedVariables false

theorem words_64 (f : FieldD) (bs : List UInt8) (L : List ViewD) : ∀ x ∈ L.flatMap (wordsO f bs), x < 18446744073709551616 := by
 intro x hx
 obtain ⟨v, _, hv⟩ := List.mem_flatMap.1 hx
 unfold wordsO at hv
 split at hv
 · unfold wordsV at hv
   split at hv
   · obtain ⟨u, _, rfl⟩ := List.mem_map.1 hv
     exact (readS_bd f.kind u.1).1
   · cases hv
 · split at hv
   · rw [List.mem_singleton] at hv
     subst hv
     exact (readS_bd f.kind _).1
   · cases hv

theorem weigh_span (bs : List UInt8) : ∀ L : List ViewD, (∀ v ∈ L, v.r.f < v.r.a ∧ v.r.a ≤ v.r.t ∧ v.r.t ≤ bs.length) → weighL L ≤ (L.flatMap fun v => spanB bs v.r.f v.r.t).length
 | [], _ => Nat.zero_le _
 | v :: L, h => by
   have ih := weigh_span bs L (fun u hu => h u (List.mem_cons_of_mem _ hu))
   have h1 := h v List.mem_cons_self
   rw [weighL_cons, List.flatMap_cons, List.length_append]
   have : (spanB bs v.r.f v.r.t).length = v.r.t - v.r.f := by
    unfold spanB
    rw [List.length_drop, List.length_take]
    omega
   unfold weighV
   omega

theorem sum_once {g : Nat → Nat} {c : Nat} {k : Int} : ∀ {F : List Nat}, F.Nodup → (F.map fun i : Nat => if k == (i : Int) then c + g i else g i).sum ≤ c + (F.map g).sum
 | [], _ => Nat.zero_le _
 | j :: F, h => by
   rw [List.nodup_cons] at h
   rw [List.map_cons, List.map_cons, List.sum_cons, List.sum_cons]
   by_cases hj : k = (j : Int)
   · have e : (F.map fun i : Nat => if k == (i : Int) then c + g i else g i) = F.map g := List.map_congr_left fun i hi => by
      rw [if_neg]
      simp only [beq_iff_eq]
      intro q
      have : i = j := by omega
      subst this
      exact h.1 hi
     rw [e, if_pos (by simp [hj])]
     omega
   · have ih := sum_once (g := g) (c := c) (k := k) h.2
     rw [if_neg (by simp [hj])]
     omega

theorem weigh_places {F : List Nat} (hF : F.Nodup) : ∀ L : List ViewD, (F.map fun i => weighL (viewsO L i)).sum ≤ weighL (L.filter fun v => !decide (v.field < 0))
 | [] => by
   have : (F.map fun i => weighL (viewsO [] i)) = F.map fun _ => 0 := rfl
   rw [this]
   have : ∀ l : List Nat, (l.map fun _ => 0).sum = 0 := fun l => by induction l with
    | nil => rfl
    | cons x l ih => rw [List.map_cons, List.sum_cons, ih]
   rw [this]
   exact Nat.zero_le _
 | v :: L => by
   have ih := weigh_places hF L
   have e : (fun i : Nat => weighL (viewsO (v :: L) i)) = fun i : Nat => if v.field == (i : Int) then weighV v + weighL (viewsO L i) else weighL (viewsO L i) := by
    funext i
    unfold viewsO
    rw [List.filter_cons]
    split
    · rw [weighL_cons]
    · rfl
   rw [e, List.filter_cons]
   by_cases hv : v.field < 0
   · have e2 : (F.map fun i : Nat => if v.field == (i : Int) then weighV v + weighL (viewsO L i) else weighL (viewsO L i)) = F.map fun i => weighL (viewsO L i) := List.map_congr_left fun i hi => by
      rw [if_neg]
      simp only [beq_iff_eq]
      omega
     rw [e2, if_neg (by simp [hv])]
     exact ih
   · have h2 := sum_once (g := fun i => weighL (viewsO L i)) (c := weighV v) (k := v.field) hF
     rw [if_pos (by simpa using hv), weighL_cons]
     omega

section
variable {se : Nat → MsgT → List UInt8} {sub : Nat → List UInt8 → MsgT} {f : FieldD} {bs : List UInt8} {fs : List FieldD} {S : List MsgD} {m : Nat} {M : MsgD}

theorem flat_put {n w : Int} (h : rightB n w = true) {c : Nat} {g : List UInt8 → List UInt8} : ∀ {ps : List (List UInt8)}, (∀ x ∈ ps, (g x).length ≤ c * x.length ∧ (g x).length ≤ 100000000000) → 1 ≤ c → (ps.map fun x => putB n w (g x)).flatten.length ≤ 15 * ps.length + c * ps.flatten.length
 | [], _, _ => Nat.zero_le _
 | x :: ps, hp, hc => by
   have ih := flat_put h (ps := ps) (fun y hy => hp y (List.mem_cons_of_mem _ hy)) hc
   have h1 := hp x List.mem_cons_self
   have h2 := putB_length h (v := g x) h1.2
   rw [List.map_cons, List.flatten_cons, List.flatten_cons, List.length_append, List.length_append, List.length_cons, Nat.mul_add, Nat.mul_add]
   omega

theorem fieldE_le (hR : rightS S = true) (hM : S[m]? = some M) {i : Nat} (hf : M.fields[i]? = some f) (hne : viewsO (viewsV M.fields bs).1 i ≠ []) (hb : bs.length ≤ 100000)
  (hsub : ∀ x : List UInt8, x.length + 1 ≤ bs.length → (se f.of_.toNat (sub f.of_.toNat x)).length ≤ 32 * x.length) :
  (placeE se sub M.fields bs (viewsV M.fields bs).1 i).length ≤ 32 * weighL (viewsO (viewsV M.fields bs).1 i) := by
 rw [placeE_at hf hne]
 obtain ⟨⟨T, hT⟩, n1, n2, hkb⟩ := right_number hR hM hf
 have hbd : ∀ v ∈ viewsO (viewsV M.fields bs).1 i, v.r.t ≤ bs.length := fun v hv => (own_bd hv).2.2.2
 have hW := own_weigh (fs := M.fields) (bs := bs) (i := i)
 have hw1 := words_le f bs _ hbd
 have hp1 := (pieces_le f bs _ hbd).1
 have h64 := words_64 f bs (viewsO (viewsV M.fields bs).1 i)
 have hpos : 1 ≤ weighL (viewsO (viewsV M.fields bs).1 i) := by
  rcases hv : viewsO (viewsV M.fields bs).1 i with _ | ⟨v, l⟩
  · exact absurd hv hne
  · rw [weighL_cons]
    unfold weighV
    omega
 have hth := own_things hf hne
 have hpl : ∀ x ∈ (viewsO (viewsV M.fields bs).1 i).flatMap (piecesO f bs), x.length ≤ ((viewsO (viewsV M.fields bs).1 i).flatMap (piecesO f bs)).flatten.length := fun x hx => mem_flatten_le hx
 generalize hws : (viewsO (viewsV M.fields bs).1 i).flatMap (wordsO f bs) = ws at *
 generalize hps : (viewsO (viewsV M.fields bs).1 i).flatMap (piecesO f bs) = ps at *
 generalize weighL (viewsO (viewsV M.fields bs).1 i) = W at *
 have r2 : rightB f.number 2 = true := by rw [hT]; exact rightB_of (by omega) (by omega) (by decide)
 rcases hth with ⟨hn, rfl, hw0⟩ | ⟨hn, rfl, hp0⟩
 · rcases hr : f.rep with _ | _
   · have hw0 := hw0 hr
     obtain ⟨l, x, rfl⟩ : ∃ l x, ws = l ++ [x] := ⟨_, _, (List.dropLast_concat_getLast hw0).symm⟩
     rw [fieldE_word hn hr]
     have hx := h64 x (by simp)
     obtain ⟨V, hV, hV2, _⟩ := wire_fits hn hx
     have h1 := (putS_length (k := f.kind) hx).2
     have h2 := putB_length (number := f.number) (wire := wireI f.kind) (by rw [hT, hV]; exact rightB_of (by omega) (by omega) hV2) (v := putS f.kind x) (by omega)
     omega
   · rw [fieldE_run hn hr]
     split
     · exact Nat.zero_le _
     · have h1 := packW_le f.kind ws h64
       have h2 := putB_length r2 (v := packW f.kind ws) (by omega)
       omega
 · have hnl : 1 ≤ ps.length := by
    rcases ps with _ | ⟨x, l⟩
    · exact absurd rfl hp0
    · simp
   by_cases hk : f.kind = 17
   · rcases hr : f.rep with _ | _
     · rw [fieldE_join hk hr]
       have h1 := hsub ps.flatten (by omega)
       have h2 := putB_length r2 (v := se f.of_.toNat (sub f.of_.toNat ps.flatten)) (by omega)
       omega
     · rw [fieldE_subs hk hr]
       have h1 := flat_put r2 (c := 32) (g := fun x => se f.of_.toNat (sub f.of_.toNat x)) (ps := ps) (fun x hx => by
        have := hpl x hx
        have := hsub x (by omega)
        exact ⟨this, by omega⟩) (by omega)
       omega
   · rcases hr : f.rep with _ | _
     · obtain ⟨l, x, rfl⟩ : ∃ l x, ps = l ++ [x] := ⟨_, _, (List.dropLast_concat_getLast hp0).symm⟩
       rw [fieldE_text hn hk hr]
       have := hpl x (by simp)
       have h2 := putB_length r2 (v := x) (by omega)
       omega
     · rw [fieldE_texts hn hk hr]
       have h1 := flat_put r2 (c := 1) (g := fun x => x) (ps := ps) (fun x hx => by
        have := hpl x hx
        exact ⟨by omega, by omega⟩) (by omega)
       omega

theorem flat_sum {α : Type} {g : α → List UInt8} {c : α → Nat} : ∀ {l : List α}, (∀ x ∈ l, (g x).length ≤ 32 * c x) → (l.flatMap g).length ≤ 32 * (l.map c).sum
 | [], _ => Nat.zero_le _
 | x :: l, h => by
   have ih := flat_sum (g := g) (c := c) (l := l) (fun y hy => h y (List.mem_cons_of_mem _ hy))
   have h1 := h x List.mem_cons_self
   rw [List.flatMap_cons, List.length_append, List.map_cons, List.sum_cons, Nat.mul_add]
   omega

theorem unk_flat (bs : List UInt8) (L : List ViewD) : ((unkW bs L).flatMap fun t => t.data.toList) = (L.filter fun v => decide (v.field < 0)).flatMap fun v => spanB bs v.r.f v.r.t := by
 unfold unkW
 rw [List.flatMap_map]
 rfl

theorem part_sum (bs : List UInt8) (q : ViewD → Bool) : ∀ L : List ViewD, ((L.filter fun v => !q v).flatMap fun v => spanB bs v.r.f v.r.t).length + ((L.filter q).flatMap fun v => spanB bs v.r.f v.r.t).length = (L.flatMap fun v => spanB bs v.r.f v.r.t).length
 | [] => rfl
 | v :: L => by
   have ih := part_sum bs q L
   rw [List.filter_cons, List.filter_cons, List.flatMap_cons, List.length_append]
   rcases hq : q v with _ | _
   · rw [if_pos (by simp), if_neg (by simp), List.flatMap_cons, List.length_append]
     omega
   · rw [if_neg (by simp), if_pos (by simp), List.flatMap_cons, List.length_append]
     omega

theorem span_sum {l : List FieldD} {bs : List UInt8} (h : (viewsV l bs).2.2 = 0) : ((viewsV l bs).1.flatMap fun v => spanB bs v.r.f v.r.t).length = bs.length := by
 rcases hv : viewsV l bs with ⟨L, P, C⟩
 rw [hv] at h
 have hC : C = 0 := h
 subst hC
 have h1 := viewsV_sum hv
 have h2 := part_sum bs unkP L
 unfold keptB lens unkB at h1
 have h3 : (fun v : ViewD => !unkP v) = knownP := by
  funext v
  unfold unkP knownP
  rfl
 rw [h3] at h2
 have h4 : ∀ K : List ViewD, ((K.map fun v => spanB bs v.r.f v.r.t).map List.length).sum = (K.flatMap fun v => spanB bs v.r.f v.r.t).length := fun K => by
  rw [List.length_flatMap, List.map_map]
  rfl
 rw [h4] at h1
 show (L.flatMap _).length = _
 omega

theorem span_le (l : List FieldD) (bs : List UInt8) : ((viewsV l bs).1.flatMap fun v => spanB bs v.r.f v.r.t).length ≤ bs.length := by
 by_cases h : (viewsV l bs).2.2 = 0
 · rw [span_sum h]
   exact Nat.le_refl _
 · have := (scan_code (lookV_onward l bs) bs.length 0 (by omega)).1 h
   have e : (viewsV l bs).1 = [] := this
   rw [e]
   exact Nat.zero_le _

theorem enc_smallJ (hR : rightS S = true) (hM : S[m]? = some M) (hb : bs.length ≤ 100000)
  (hsub : ∀ (o : Nat) (x : List UInt8), x.length + 1 ≤ bs.length → (se o (sub o x)).length ≤ 32 * x.length) : (encC se S m (ofM sub S m bs)).flatten.length ≤ 32 * bs.length := by
 rw [enc_of hR hM, unk_flat, List.length_append]
 have hn : (sortK (keyF M.fields) M.fields.length).Nodup := (sortK_perm (keyF M.fields) M.fields.length).nodup_iff.2 List.nodup_range
 have h1 := flat_sum (g := placeE se sub M.fields bs (viewsV M.fields bs).1) (c := fun i => weighL (viewsO (viewsV M.fields bs).1 i)) (l := sortK (keyF M.fields) M.fields.length) (fun i hi => by
  by_cases hne : viewsO (viewsV M.fields bs).1 i = []
  · rw [placeE_none hne]
    exact Nat.zero_le _
  · have hil := sortK_mem.1 hi
    exact fieldE_le hR hM (List.getElem?_eq_getElem hil) hne hb (fun x hx => hsub _ x hx))
 have h2 := weigh_places hn (viewsV M.fields bs).1
 have h3 := part_sum bs (fun v => decide (v.field < 0)) (viewsV M.fields bs).1
 have h4 := span_le M.fields bs
 have h5 := weigh_span bs ((viewsV M.fields bs).1.filter fun v => !decide (v.field < 0)) (fun v hv => view_bd (List.mem_filter.1 hv).1)
 omega

theorem enc_small {S : List MsgD} (hR : rightS S = true) : ∀ (D m : Nat) (bs : List UInt8), bs.length ≤ 100000 → (encV S D m (ofV S D m bs)).length ≤ 32 * bs.length
 | 0, m, bs, hb => by
   rcases hM : S[m]? with _ | M
   · rw [encV]
     unfold encC
     rw [hM]
     exact Nat.zero_le _
   · rw [encV, ofV]
     exact enc_smallJ hR hM hb (fun o x _ => Nat.zero_le _)
 | D + 1, m, bs, hb => by
   rcases hM : S[m]? with _ | M
   · rw [encV]
     unfold encC
     rw [hM]
     exact Nat.zero_le _
   · rw [encV, ofV]
     exact enc_smallJ hR hM hb (fun o x hx => enc_small hR D o x (by omega))
end

end Go.Proofs.YtnnphodgegcddaaGreat

/- Plain words of layer 18: the normal form of two messages, one behind the other; how long it is; and what it means. -/


/- Plain words of layer 18: the normal form of two messages is no longer than theirs together. -/
namespace Go.Proofs.YtnnphodgegcddaaGreat
open Go.RowKit
open Go.Lib (uvarint uvarint_small uvarint_big uvarint_pos)
set_option linter.unusedVariables false

theorem putB_len (n : Int) (v : List UInt8) : (putB n 2 v).length = (tagB n 2).length + (uvarint v.length).length + v.length := by
 unfold putB
 rw [if_pos rfl, List.length_append, List.length_append]
 omega

section
variable {se : Nat → MsgT → List UInt8} {sub : Nat → List UInt8 → MsgT} {f : FieldD} {a b : List UInt8} {fs : List FieldD} {S : List MsgD} {m : Nat} {M : MsgD}

theorem wire_other {k : Int} (h : kindB k = true) (hn : numberB k = false) : wireI k = 2 := by
 unfold kindB at h
 have h := of_decide_eq_true h
 unfold numberB at hn
 have hn := of_decide_eq_false hn
 unfold wireI
 rw [if_neg (by omega), if_neg (by omega), if_neg (by omega)]

end

end Go.Proofs.YtnnphodgegcddaaGreat

/- Plain words of layer 18: right meanings within more depth; the normal form. -/
namespace Go.Proofs.YtnnphodgegcddaaGreat
open Go.RowKit
set_option linter.unusedVariables false

section
variable {S : List MsgD}

theorem RightJ.mono {rs rs' : Nat → MsgT → Prop} (h : ∀ m x, rs m x → rs' m x) {m : Nat} {x : MsgT} (hx : RightJ rs S m x) : RightJ rs' S m x := by
 obtain ⟨M, hM, hp, hv, hu⟩ := hx
 refine ⟨M, hM, hp, fun v hvm => ?_, hu⟩
 obtain ⟨i, f, hf, h1, h2, h3, h4⟩ := hv v hvm
 refine ⟨i, f, hf, h1, h2, h3, ?_⟩
 rcases h4 with h4 | h4 | ⟨h4, h5, h6, h7⟩
 · exact .inl h4
 · exact .inr (.inl h4)
 · exact .inr (.inr ⟨h4, h5, h6, fun y hy => h _ _ (h7 y hy)⟩)

theorem RightV.succ : ∀ {d m : Nat} {x : MsgT}, RightV S d m x → RightV S (d + 1) m x
 | 0, m, x, h => by
   have h' : RightJ (fun _ _ => False) S m x := h
   exact h'.mono (fun _ _ q => q.elim)
 | d + 1, m, x, h => by
   have h' : RightJ (RightV S d) S m x := h
   exact h'.mono (fun _ _ q => RightV.succ q)

theorem RightV.more {d m : Nat} {x : MsgT} (h : RightV S d m x) : ∀ {D : Nat}, d ≤ D → RightV S D m x := by
 intro D hD
 induction D with
 | zero => obtain rfl : d = 0 := by omega
           exact h
 | succ D ih =>
   by_cases e : d = D + 1
   · subst e
     exact h
   · exact RightV.succ (ih (by omega))

theorem encC_congr (hR : rightS S = true) {m : Nat} {x : MsgT} {rs : Nat → MsgT → Prop} (hx : RightJ rs S m x) {se se' : Nat → MsgT → List UInt8} (h : ∀ o y, rs o y → se o y = se' o y) : encC se S m x = encC se' S m x := by
 obtain ⟨M, hM, _, hv, _⟩ := hx
 unfold encC
 rw [hM]
 simp only
 congr 1
 refine flat_congr fun v hvm => ?_
 obtain ⟨i, f, hf, h1, _, _, h4⟩ := hv v hvm
 have hfind : M.fields.find? (fun g => g.number == v.number) = some f := by
  rw [h1]
  exact (find_of_idx (p := fun g : FieldD => decide (g.number = f.number)) (l := M.fields)).2 i f (right_field hR hM hf).2 hf
 rw [hfind]
 simp only
 unfold valueE
 split
 · rfl
 · congr 1
   refine List.map_congr_left fun y hy => ?_
   rcases h4 with ⟨_, _, q, _⟩ | ⟨_, _, _, _, q, _⟩ | ⟨_, _, _, q⟩
   · rw [q] at hy
     cases hy
   · rw [q] at hy
     cases hy
   · rw [h _ _ (q y hy)]

theorem encV_fuel (hR : rightS S = true) : ∀ {d D m : Nat} {x : MsgT}, RightV S d m x → d ≤ D → encV S D m x = encV S d m x
 | 0, 0, m, x, h, _ => rfl
 | 0, D + 1, m, x, h, _ => by
   have h' : RightJ (fun _ _ => False) S m x := h
   rw [encV, encV, encC_congr hR h' (se' := fun _ _ => []) (fun _ _ q => q.elim)]
 | d + 1, 0, m, x, h, hD => absurd hD (by omega)
 | d + 1, D + 1, m, x, h, hD => by
   have h' : RightJ (RightV S d) S m x := h
   rw [encV, encV, encC_congr hR h' (se' := encV S d) (fun o y q => encV_fuel hR q (by omega))]

end

end Go.Proofs.YtnnphodgegcddaaGreat

/- Plain words of layer 14: right meanings, however deep. No program is named. -/

namespace Go.Proofs.YtnnphodgegcddaaGreat
open Go.RowKit
set_option linter.unusedVariables false

section
variable {S : List MsgD}

def RR (S : List MsgD) (m : Nat) (x : MsgT) : Prop := ∃ d, RightV S d m x

def RI (S : List MsgD) (root : Int) (x : MsgT) : Prop := 0 ≤ root ∧ RR S root.toNat x

theorem RightF.mono {rs rs' : Nat → MsgT → Prop} {f : FieldD} {v : ValT} (hv : RightF rs f v) (h : ∀ y ∈ v.subs, rs f.of_.toNat y → rs' f.of_.toNat y) : RightF rs' f v := by
 obtain ⟨h1, h2, h3, h4⟩ := hv
 refine ⟨h1, h2, h3, ?_⟩
 rcases h4 with h4 | h4 | ⟨h4, h5, h6, h7⟩
 · exact .inl h4
 · exact .inr (.inl h4)
 · exact .inr (.inr ⟨h4, h5, h6, fun y hy => h y hy (h7 y hy)⟩)

theorem rr_all {m : Nat} : ∀ {l : List MsgT}, (∀ y ∈ l, RR S m y) → ∃ d, ∀ y ∈ l, RightV S d m y
 | [], _ => ⟨0, fun y hy => by cases hy⟩
 | y :: l, h => by
   obtain ⟨d, hd⟩ := rr_all (l := l) (fun z hz => h z (List.mem_cons_of_mem _ hz))
   obtain ⟨e, he⟩ := h y List.mem_cons_self
   refine ⟨max d e, fun z hz => ?_⟩
   rcases List.mem_cons.1 hz with rfl | hz
   · exact he.more (by omega)
   · exact (hd z hz).more (by omega)

theorem rr_vals {M : MsgD} : ∀ {l : List ValT}, (∀ v ∈ l, ∃ (i : Nat) (f : FieldD), M.fields[i]? = some f ∧ RightF (RR S) f v) → ∃ d, ∀ v ∈ l, ∃ (i : Nat) (f : FieldD), M.fields[i]? = some f ∧ RightF (RightV S d) f v
 | [], _ => ⟨0, fun y hy => by cases hy⟩
 | v :: l, h => by
   obtain ⟨d, hd⟩ := rr_vals (l := l) (fun z hz => h z (List.mem_cons_of_mem _ hz))
   obtain ⟨i, f, hf, hv⟩ := h v List.mem_cons_self
   have hv' := hv
   obtain ⟨_, _, _, h4⟩ := hv'
   obtain ⟨e, he⟩ : ∃ e, RightF (RightV S e) f v := by
    rcases h4 with h4 | h4 | ⟨h4, h5, h6, h7⟩
    · exact ⟨0, hv.mono fun y hy _ => by rw [h4.2.2.1] at hy; cases hy⟩
    · exact ⟨0, hv.mono fun y hy _ => by rw [h4.2.2.2.2.1] at hy; cases hy⟩
    · obtain ⟨e, he⟩ := rr_all h7
      exact ⟨e, hv.mono fun y hy _ => he y hy⟩
   refine ⟨max d e, fun z hz => ?_⟩
   rcases List.mem_cons.1 hz with rfl | hz
   · exact ⟨i, f, hf, he.mono fun y hy q => q.more (by omega)⟩
   · obtain ⟨j, g, hg, hz'⟩ := hd z hz
     exact ⟨j, g, hg, hz'.mono fun y hy q => q.more (by omega)⟩

theorem rr_iff {m : Nat} {x : MsgT} : RR S m x ↔ RightJ (RR S) S m x := by
 constructor
 · rintro ⟨d, h⟩
   rcases d with _ | d
   · have h' : RightJ (fun _ _ => False) S m x := h
     exact h'.mono (fun _ _ q => q.elim)
   · have h' : RightJ (RightV S d) S m x := h
     exact h'.mono (fun _ _ q => ⟨d, q⟩)
 · rintro ⟨M, hM, hp, hv, hu⟩
   obtain ⟨d, hd⟩ := rr_vals hv
   exact ⟨d + 1, M, hM, hp, hd, hu⟩

def FitP (S : List MsgD) (f : FieldD) (v : ValT) : Prop :=
 manyU v ≠ 0 ∧ (f.rep = false → manyU v = 1) ∧
  ((numberB f.kind = true ∧ v.texts = [] ∧ v.subs = [] ∧ ∀ w ∈ v.words, canonN f.kind w = w) ∨
    (numberB f.kind = false ∧ kindB f.kind = true ∧ f.kind ≠ 17 ∧ v.words = [] ∧ v.subs = [] ∧ (f.kind = 15 → ∀ t ∈ v.texts, rightT t.data.toList = true)) ∨
    (f.kind = 17 ∧ v.words = [] ∧ v.texts = [] ∧ ∀ y ∈ v.subs, RI S f.of_ y))

def StrangeP (fs : List FieldD) (t : ByteArray) : Prop := ∃ T V a, headV t.data.toList = (T, V, a, t.data.toList.length, 0) ∧ fs.find? (fun f => f.number == (T : Int)) = none

theorem fit_iff {f : FieldD} {v : ValT} (hn : v.number = f.number) (h0 : f.kind = 17 → 0 ≤ f.of_) (h64 : ∀ w ∈ v.words, w < 18446744073709551616) : RightF (RR S) f v ↔ FitP S f v := by
 unfold RightF FitP
 constructor
 · rintro ⟨_, h2, h3, h4⟩
   refine ⟨h2, h3, ?_⟩
   rcases h4 with ⟨a, b, c, d⟩ | h4 | ⟨h4, h5, h6, h7⟩
   · exact .inl ⟨a, b, c, fun w hw => (d w hw).2⟩
   · exact .inr (.inl h4)
   · exact .inr (.inr ⟨h4, h5, h6, fun y hy => ⟨h0 h4, h7 y hy⟩⟩)
 · rintro ⟨h2, h3, h4⟩
   refine ⟨hn, h2, h3, ?_⟩
   rcases h4 with ⟨a, b, c, d⟩ | h4 | ⟨h4, h5, h6, h7⟩
   · exact .inl ⟨a, b, c, fun w hw => ⟨h64 w hw, d w hw⟩⟩
   · exact .inr (.inl h4)
   · exact .inr (.inr ⟨h4, h5, h6, fun y hy => (h7 y hy).2⟩)

def valsP (ok : ValT → Prop) : Int → List ValT → Prop
 | _, [] => True
 | last, v :: l => last < v.number ∧ ok v ∧ valsP ok v.number l

theorem valsP_iff {ok : ValT → Prop} : ∀ {last : Int} {l : List ValT}, valsP ok last l ↔ (∀ v ∈ l, last < v.number) ∧ l.Pairwise (fun u v => u.number < v.number) ∧ ∀ v ∈ l, ok v
 | last, [] => by simp [valsP]
 | last, v :: l => by
   unfold valsP
   rw [valsP_iff (last := v.number) (l := l)]
   simp only [List.mem_cons, List.pairwise_cons, forall_eq_or_imp]
   constructor
   · rintro ⟨h1, h2, h3, h4, h5⟩
     exact ⟨⟨h1, fun u hu => by have := h3 u hu; omega⟩, ⟨h3, h4⟩, h2, h5⟩
   · rintro ⟨⟨h1, _⟩, ⟨h3, h4⟩, h2, h5⟩
     exact ⟨h1, h2, h3, h4, h5⟩

def OkP (S : List MsgD) (M : MsgD) (v : ValT) : Prop := ∃ f, M.fields.find? (fun g => g.number == v.number) = some f ∧ FitP S f v

theorem ri_iff (hR : rightS S = true) {m : Nat} {M : MsgD} (hM : S[m]? = some M) {x : MsgT} (h64 : ∀ v ∈ x.vals, ∀ w ∈ v.words, w < 18446744073709551616) :
  RI S (m : Int) x ↔ valsP (OkP S M) 0 x.vals ∧ ∀ t ∈ x.unk, StrangeP M.fields t := by
 unfold RI
 rw [Int.toNat_natCast, rr_iff, valsP_iff]
 have hfld : ∀ (i : Nat) (f : FieldD), M.fields[i]? = some f → 1 ≤ f.number ∧ (f.kind = 17 → 0 ≤ f.of_) := fun i f hf => by
  refine ⟨(usableB_pos (faultV_inv ((right_msg hR hM).2.2.2 i f hf)).2.2.1).1, fun h17 => ?_⟩
  obtain ⟨o, ho, _⟩ := right_of hR hM hf h17
  omega
 constructor
 · rintro ⟨_, M', hM', hp, hv, hu⟩
   rw [hM] at hM'
   cases hM'
   refine ⟨⟨fun v hvm => ?_, hp, fun v hvm => ?_⟩, hu⟩
   · obtain ⟨i, f, hf, h1, _⟩ := hv v hvm
     have := (hfld i f hf).1
     omega
   · obtain ⟨i, f, hf, hF⟩ := hv v hvm
     refine ⟨f, ?_, (fit_iff hF.1 (hfld i f hf).2 (h64 v hvm)).1 hF⟩
     rw [hF.1]
     exact (find_of_idx (p := fun g : FieldD => decide (g.number = f.number)) (l := M.fields)).2 i f (right_field hR hM hf).2 hf
 · rintro ⟨⟨_, hp, hv⟩, hu⟩
   refine ⟨by omega, M, hM, hp, fun v hvm => ?_, hu⟩
   obtain ⟨f, hf, hF⟩ := hv v hvm
   have hn : f.number = v.number := by simpa using List.find?_some hf
   obtain ⟨i, hi⟩ := List.getElem?_of_mem (List.mem_of_find?_eq_some hf)
   exact ⟨i, f, hi, (fit_iff hn.symm (hfld i f hi).2 (h64 v hvm)).2 hF⟩
end

end Go.Proofs.YtnnphodgegcddaaGreat
