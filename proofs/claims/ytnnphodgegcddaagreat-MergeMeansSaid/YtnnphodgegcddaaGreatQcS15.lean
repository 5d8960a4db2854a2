/- Plain words of layers 15 and 17: meanings, joined. -/
import Derived.Test.YtnnphodgegcddaaGreatQcS4
import Derived.Test.YtnnphodgegcddaaGreatQcS14o

/- Plain words of layer 17: where a message may be cut. No program is named. -/
namespace Go.Proofs.YtnnphodgegcddaaGreat
open Go.RowKit
set_option linter.unusedVariables false

section
variable {S : List MsgD} {d m : Nat} {M : MsgD}

theorem firstV_nil (S : List MsgD) (d m : Nat) : (firstV S d m []).2 = 0 := by
 rw [firstV_eq]
 unfold checkM
 rcases S[m]? with _ | M
 · rfl
 · simp only
   rw [fromC_end (by simp)]

end

end Go.Proofs.YtnnphodgegcddaaGreat

/- Plain words of layer 15: meanings, joined; what two messages' bytes mean, one behind the other. -/
namespace Go.Proofs.YtnnphodgegcddaaGreat
open Go.RowKit
set_option linter.unusedVariables false

section
variable {fs : List FieldD} {a b : List UInt8} {i : Nat} {f : FieldD}

theorem viewsO_shift (k : Nat) (L : List ViewD) (i : Nat) : viewsO (L.map (ViewD.shift k)) i = (viewsO L i).map (ViewD.shift k) := by
 unfold viewsO
 rw [List.filter_map]
 rfl

theorem viewsO_append (L K : List ViewD) (i : Nat) : viewsO (L ++ K) i = viewsO L i ++ viewsO K i := List.filter_append ..

theorem value_left (a b : List UInt8) {v : ViewD} (h : v.r.t ≤ a.length) : valueO (a ++ b) v = valueO a v := span_left a b h

theorem value_right (a b : List UInt8) (v : ViewD) : valueO (a ++ b) (v.shift a.length) = valueO b v := by
 have := span_right a b v.r.a v.r.t
 rw [Nat.add_comm a.length, Nat.add_comm a.length] at this
 exact this

theorem whole_right (a b : List UInt8) (v : ViewD) : spanB (a ++ b) (v.shift a.length).r.f (v.shift a.length).r.t = spanB b v.r.f v.r.t := by
 have := span_right a b v.r.f v.r.t
 rw [Nat.add_comm a.length, Nat.add_comm a.length] at this
 exact this

theorem flat_congr {α β : Type} {g h : α → List β} : ∀ {l : List α}, (∀ x ∈ l, g x = h x) → l.flatMap g = l.flatMap h
 | [], _ => rfl
 | x :: l, e => by
   rw [List.flatMap_cons, List.flatMap_cons, e x List.mem_cons_self, flat_congr (l := l) (fun y hy => e y (List.mem_cons_of_mem _ hy))]

theorem both_views (ha : (viewsV fs a).2.2 = 0) (hb : (viewsV fs b).2.2 = 0) : (viewsV fs (a ++ b)).1 = (viewsV fs a).1 ++ (viewsV fs b).1.map (ViewD.shift a.length) := by
 rw [viewsV_append ha, if_pos hb]

theorem both_own (ha : (viewsV fs a).2.2 = 0) (hb : (viewsV fs b).2.2 = 0) (i : Nat) : viewsO (viewsV fs (a ++ b)).1 i = viewsO (viewsV fs a).1 i ++ (viewsO (viewsV fs b).1 i).map (ViewD.shift a.length) := by
 rw [both_views ha hb, viewsO_append, viewsO_shift]

theorem both_words (ha : (viewsV fs a).2.2 = 0) (hb : (viewsV fs b).2.2 = 0) (f : FieldD) (i : Nat) :
  (viewsO (viewsV fs (a ++ b)).1 i).flatMap (wordsO f (a ++ b)) = (viewsO (viewsV fs a).1 i).flatMap (wordsO f a) ++ (viewsO (viewsV fs b).1 i).flatMap (wordsO f b) := by
 rw [both_own ha hb, List.flatMap_append, List.flatMap_map]
 congr 1
 · refine flat_congr fun v hv => ?_
   unfold wordsO
   rw [value_left a b (own_bd hv).2.2.2]
 · refine flat_congr fun v hv => ?_
   unfold wordsO
   rw [value_right]
   rfl

theorem both_pieces (ha : (viewsV fs a).2.2 = 0) (hb : (viewsV fs b).2.2 = 0) (f : FieldD) (i : Nat) :
  (viewsO (viewsV fs (a ++ b)).1 i).flatMap (piecesO f (a ++ b)) = (viewsO (viewsV fs a).1 i).flatMap (piecesO f a) ++ (viewsO (viewsV fs b).1 i).flatMap (piecesO f b) := by
 rw [both_own ha hb, List.flatMap_append, List.flatMap_map]
 congr 1
 · refine flat_congr fun v hv => ?_
   unfold piecesO
   rw [value_left a b (own_bd hv).2.2.2]
 · refine flat_congr fun v hv => ?_
   unfold piecesO
   rw [value_right]
   rfl

theorem both_unk (ha : (viewsV fs a).2.2 = 0) (hb : (viewsV fs b).2.2 = 0) :
  (((viewsV fs (a ++ b)).1.filter fun v => decide (v.field < 0)).map fun v => textO (spanB (a ++ b) v.r.f v.r.t)) =
    (((viewsV fs a).1.filter fun v => decide (v.field < 0)).map fun v => textO (spanB a v.r.f v.r.t)) ++ (((viewsV fs b).1.filter fun v => decide (v.field < 0)).map fun v => textO (spanB b v.r.f v.r.t)) := by
 rw [both_views ha hb, List.filter_append, List.map_append, List.filter_map, List.map_map]
 congr 1
 · refine List.map_congr_left fun v hv => ?_
   have := view_bd (List.mem_filter.1 hv).1
   rw [span_left a b this.2.2]
 · refine List.map_congr_left fun v hv => ?_
   show textO (spanB (a ++ b) (v.shift a.length).r.f (v.shift a.length).r.t) = _
   rw [whole_right]
end

def joinU (sj : Nat → MsgT → MsgT → MsgT) (f : FieldD) (u v : ValT) : ValT :=
 if f.rep = true then ⟨(), (), (), v.number, u.words ++ v.words, u.texts ++ v.texts, u.subs ++ v.subs⟩
 else if f.kind = 17 then ⟨(), (), (), v.number, [], [], [sj f.of_.toNat (u.subs.headD (.mk () () [] [])) (v.subs.headD (.mk () () [] []))]⟩
 else v

def joinO (sj : Nat → MsgT → MsgT → MsgT) (f : FieldD) : Option ValT → Option ValT → Option ValT
 | none, o => o
 | some u, none => some u
 | some u, some v => some (joinU sj f u v)

theorem lastO_both {α : Type} (l k : List α) (h : k ≠ []) : lastO (l ++ k) = lastO k := by
 unfold lastO
 have hk : 0 < k.length := List.length_pos_iff.2 h
 rw [List.length_append, List.drop_append]
 have h1 : l.drop (l.length + k.length - 1) = [] := List.drop_of_length_le (by omega)
 rw [h1, List.nil_append]
 congr 1
 omega

section
variable {fs : List FieldD} {a b bs : List UInt8} {i : Nat} {f : FieldD} {sub : Nat → List UInt8 → MsgT} {sj : Nat → MsgT → MsgT → MsgT}

theorem own_things (hf : fs[i]? = some f) (hne : viewsO (viewsV fs bs).1 i ≠ []) : (numberB f.kind = true ∧ (viewsO (viewsV fs bs).1 i).flatMap (piecesO f bs) = [] ∧ (f.rep = false → (viewsO (viewsV fs bs).1 i).flatMap (wordsO f bs) ≠ [])) ∨
  (numberB f.kind = false ∧ (viewsO (viewsV fs bs).1 i).flatMap (wordsO f bs) = [] ∧ (viewsO (viewsV fs bs).1 i).flatMap (piecesO f bs) ≠ []) := by
 rcases hn : numberB f.kind with _ | _
 · refine .inr ⟨rfl, ?_, ?_⟩
   · rw [List.flatMap_eq_nil_iff]
     intro v hv
     rcases own_view (own_bd hv).1 (own_bd hv).2.1 hf with ⟨_, _, q⟩ | ⟨q, _⟩
     · rw [hn] at q
       cases q
     · unfold wordsO
       rw [q, hn]
       rfl
   · obtain ⟨v, l, hl⟩ := List.exists_cons_of_ne_nil hne
     have hv : v ∈ viewsO (viewsV fs bs).1 i := by rw [hl]; exact List.mem_cons_self
     intro q
     rw [List.flatMap_eq_nil_iff] at q
     have h1 := q v hv
     rcases own_view (own_bd hv).1 (own_bd hv).2.1 hf with ⟨_, _, q⟩ | ⟨q, _⟩
     · rw [hn] at q
       cases q
     · unfold piecesO at h1
       rw [q, hn] at h1
       cases h1
 · refine .inl ⟨rfl, pieces_number hn _, fun hr => ?_⟩
   obtain ⟨v, l, hl⟩ := List.exists_cons_of_ne_nil hne
   have hv : v ∈ viewsO (viewsV fs bs).1 i := by rw [hl]; exact List.mem_cons_self
   intro q
   rw [List.flatMap_eq_nil_iff] at q
   have h1 := q v hv
   rcases own_view (own_bd hv).1 (own_bd hv).2.1 hf with ⟨_, q, _⟩ | ⟨q, _⟩
   · rw [hr] at q
     cases q
   · unfold wordsO at h1
     rw [q, hn] at h1
     cases h1

theorem manyU_value (f : FieldD) (ws : List Nat) (ps : List (List UInt8)) : manyU (valueU sub f ws ps) = (pwordsO f ws).length + (ppiecesO f ps).length := by
 unfold manyU valueU
 by_cases h : f.kind = 17
 · simp [h]
 · simp [h]

theorem many_single (hf : fs[i]? = some f) (hr : f.rep = false) (hne : viewsO (viewsV fs bs).1 i ≠ []) : manyU (valueU sub f ((viewsO (viewsV fs bs).1 i).flatMap (wordsO f bs)) ((viewsO (viewsV fs bs).1 i).flatMap (piecesO f bs))) ≠ 0 := by
 rw [manyU_value]
 have hl : ∀ {α : Type} (l : List α), l ≠ [] → 0 < (lastO l).length := fun l h => by
  unfold lastO
  have := List.length_pos_iff.2 h
  rw [List.length_drop]
  omega
 rcases own_things hf hne with ⟨_, h1, h2⟩ | ⟨_, h1, h2⟩
 · have := hl _ (h2 hr)
   unfold pwordsO
   rw [if_neg (by simp [hr])]
   omega
 · unfold ppiecesO
   rw [if_neg (by simp [hr])]
   split
   · simp
   · have := hl _ h2
     omega

theorem join_rep {u v : ValT} (hr : f.rep = true) (hn : u.number = v.number) : (if manyU (joinU sj f u v) = 0 then none else some (joinU sj f u v)) = joinO sj f (if manyU u = 0 then none else some u) (if manyU v = 0 then none else some v) := by
 have hm : manyU (joinU sj f u v) = manyU u + manyU v := by
  unfold joinU manyU
  rw [if_pos hr]
  simp only [List.length_append]
  omega
 have hz : ∀ {x : ValT}, manyU x = 0 → x.words = [] ∧ x.texts = [] ∧ x.subs = [] := fun {x} h => by
  unfold manyU at h
  exact ⟨List.eq_nil_of_length_eq_zero (by omega), List.eq_nil_of_length_eq_zero (by omega), List.eq_nil_of_length_eq_zero (by omega)⟩
 by_cases h1 : manyU u = 0
 · by_cases h2 : manyU v = 0
   · rw [if_pos h1, if_pos h2, if_pos (by omega)]
     rfl
   · rw [if_pos h1, if_neg h2, if_neg (by omega)]
     obtain ⟨e1, e2, e3⟩ := hz h1
     unfold joinU
     rw [if_pos hr, e1, e2, e3]
     rfl
 · by_cases h2 : manyU v = 0
   · rw [if_neg h1, if_pos h2, if_neg (by omega)]
     obtain ⟨e1, e2, e3⟩ := hz h2
     unfold joinU
     rw [if_pos hr, e1, e2, e3, List.append_nil, List.append_nil, List.append_nil, ← hn]
     rfl
   · rw [if_neg h1, if_neg h2, if_neg (by omega)]
     rfl

theorem place_both (ha : (viewsV fs a).2.2 = 0) (hb : (viewsV fs b).2.2 = 0) (hf : fs[i]? = some f)
  (hsub : f.kind = 17 → f.rep = false → viewsO (viewsV fs a).1 i ≠ [] → viewsO (viewsV fs b).1 i ≠ [] →
   sub f.of_.toNat (((viewsO (viewsV fs a).1 i).flatMap (piecesO f a)).flatten ++ ((viewsO (viewsV fs b).1 i).flatMap (piecesO f b)).flatten) =
    sj f.of_.toNat (sub f.of_.toNat ((viewsO (viewsV fs a).1 i).flatMap (piecesO f a)).flatten) (sub f.of_.toNat ((viewsO (viewsV fs b).1 i).flatMap (piecesO f b)).flatten)) :
  placeO sub fs (a ++ b) (viewsV fs (a ++ b)).1 i = joinO sj f (placeO sub fs a (viewsV fs a).1 i) (placeO sub fs b (viewsV fs b).1 i) := by
 have hw := both_words ha hb f i
 have hp := both_pieces ha hb f i
 have hv := both_own ha hb i
 unfold placeO
 rw [hf]
 simp only
 rw [fieldO_eq, fieldO_eq, fieldO_eq, hw, hp]
 by_cases h1 : viewsO (viewsV fs a).1 i = []
 · by_cases h2 : viewsO (viewsV fs b).1 i = []
   · rw [if_pos h1, if_pos h2, if_pos (by rw [hv, h1, h2]; rfl)]
     rfl
   · rw [if_pos h1, if_neg h2, if_neg (by rw [hv, h1]; simpa using h2), h1, List.flatMap_nil, List.flatMap_nil, List.nil_append, List.nil_append]
     rfl
 · by_cases h2 : viewsO (viewsV fs b).1 i = []
   · rw [if_neg h1, if_pos h2, if_neg (by rw [hv, h2]; simpa using h1), h2, List.flatMap_nil, List.flatMap_nil, List.append_nil, List.append_nil]
     split <;> rfl
   · rw [if_neg h1, if_neg h2, if_neg (by rw [hv]; simp [h1])]
     rcases hr : f.rep with _ | _
     · have n1 := many_single (sub := sub) hf hr h1
       have n2 := many_single (sub := sub) hf hr h2
       rw [if_neg n1, if_neg n2]
       have hv2 : valueU sub f ((viewsO (viewsV fs a).1 i).flatMap (wordsO f a) ++ (viewsO (viewsV fs b).1 i).flatMap (wordsO f b)) ((viewsO (viewsV fs a).1 i).flatMap (piecesO f a) ++ (viewsO (viewsV fs b).1 i).flatMap (piecesO f b)) =
         joinU sj f (valueU sub f ((viewsO (viewsV fs a).1 i).flatMap (wordsO f a)) ((viewsO (viewsV fs a).1 i).flatMap (piecesO f a))) (valueU sub f ((viewsO (viewsV fs b).1 i).flatMap (wordsO f b)) ((viewsO (viewsV fs b).1 i).flatMap (piecesO f b))) := by
        unfold joinU
        rw [if_neg (by simp [hr])]
        by_cases h17 : f.kind = 17
        · rw [if_pos h17]
          have hs := hsub h17 hr h1 h2
          rcases own_things hf h1 with ⟨q, _⟩ | ⟨_, q1, _⟩
          · exact absurd h17 (number_17 q)
          · rcases own_things hf h2 with ⟨q, _⟩ | ⟨_, q2, _⟩
            · exact absurd h17 (number_17 q)
            · rw [q1, q2]
              unfold valueU ppiecesO pwordsO
              simp only [hr, h17, if_true, List.nil_append, List.flatten_append]
              simp [lastO]
              exact hs
        · rw [if_neg h17]
          rcases own_things hf h1 with ⟨_, q1, _⟩ | ⟨_, q1, _⟩
          · rcases own_things hf h2 with ⟨_, q2, q3⟩ | ⟨q, _⟩
            · unfold valueU ppiecesO pwordsO
              simp only [hr, h17, q1, q2, if_false, List.append_nil]
              simp [lastO_both _ _ (q3 hr)]
            · rename_i p _ _
              rw [p] at q
              cases q
          · rcases own_things hf h2 with ⟨q, _⟩ | ⟨_, q2, q3⟩
            · rename_i p _ _
              rw [p] at q
              cases q
            · unfold valueU ppiecesO pwordsO
              simp only [hr, h17, q1, q2, if_false, List.append_nil]
              simp [lastO_both _ _ q3]
       rw [hv2]
       rw [if_neg ?_]
       · rfl
       · rw [← hv2, manyU_value]
         rw [manyU_value] at n2
         unfold pwordsO ppiecesO at n2 ⊢
         rw [if_neg (by simp [hr]), if_neg (by simp [hr])] at n2 ⊢
         unfold lastO at n2 ⊢
         intro q
         apply n2
         simp only [List.length_append, List.length_drop] at q ⊢
         split at q
         · simp at q
         · rename_i h17
           rw [if_neg h17]
           simp only [List.length_append, List.length_drop] at q ⊢
           omega
     · have hj : joinU sj f (valueU sub f ((viewsO (viewsV fs a).1 i).flatMap (wordsO f a)) ((viewsO (viewsV fs a).1 i).flatMap (piecesO f a))) (valueU sub f ((viewsO (viewsV fs b).1 i).flatMap (wordsO f b)) ((viewsO (viewsV fs b).1 i).flatMap (piecesO f b))) =
         valueU sub f ((viewsO (viewsV fs a).1 i).flatMap (wordsO f a) ++ (viewsO (viewsV fs b).1 i).flatMap (wordsO f b)) ((viewsO (viewsV fs a).1 i).flatMap (piecesO f a) ++ (viewsO (viewsV fs b).1 i).flatMap (piecesO f b)) := by
        unfold joinU valueU ppiecesO pwordsO
        rw [if_pos hr]
        simp only [hr, if_true, List.map_append]
        by_cases h17 : f.kind = 17
        · simp [h17]
        · simp [h17]
       rw [← hj]
       exact join_rep hr rfl
end

end Go.Proofs.YtnnphodgegcddaaGreat

/- Plain words of layer 15: values put one by one; what two messages mean, one behind the other, is their meanings, joined. -/
namespace Go.Proofs.YtnnphodgegcddaaGreat
open Go.RowKit
set_option linter.unusedVariables false

def putL (v : ValT) : Bool → List ValT → List ValT
 | done, [] => if done = true then [] else [v]
 | done, x :: l => (if done = false ∧ v.number ≤ x.number then [v] else []) ++ ((if x.number = v.number then [] else [x]) ++ putL v (done || decide (v.number ≤ x.number)) l)

def putT (X : List ValT) (v : ValT) : List ValT := putL v (decide (manyU v = 0)) X

def joinOne (sj : Nat → MsgT → MsgT → MsgT) (fs : List FieldD) (X : List ValT) (v : ValT) : ValT :=
 match fs.find? (fun f => f.number == v.number), X.find? (fun u => u.number == v.number) with
 | some f, some w => joinU sj f w v
 | _, _ => v

def joinJ (sj : Nat → MsgT → MsgT → MsgT) (S : List MsgD) (m : Nat) (x y : MsgT) : MsgT := match S[m]? with
 | none => .mk () () [] (x.unk ++ y.unk)
 | some M => .mk () () (y.vals.foldl (fun out v => putT out (joinOne sj M.fields x.vals v)) x.vals) (x.unk ++ y.unk)

def joinV (S : List MsgD) : Nat → Nat → MsgT → MsgT → MsgT
 | 0 => joinJ (fun _ x _ => x) S
 | d + 1 => joinJ (joinV S d) S

section
variable {v : ValT} {F : List Nat} {N : Nat → Int} {g : Nat → Option ValT}

theorem putL_done : ∀ {l : List ValT}, (∀ x ∈ l, x.number ≠ v.number) → putL v true l = l
 | [], _ => rfl
 | x :: l, h => by
   rw [putL]
   have h1 := h x List.mem_cons_self
   have ih := putL_done (l := l) (fun y hy => h y (List.mem_cons_of_mem _ hy))
   simp [h1, ih]

theorem putL_ahead : ∀ {l : List ValT}, (∀ x ∈ l, v.number < x.number) → putL v false l = v :: l
 | [], _ => rfl
 | x :: l, h => by
   rw [putL]
   have h1 := h x List.mem_cons_self
   have ih := putL_done (v := v) (l := l) (fun y hy => by have := h y (List.mem_cons_of_mem _ hy); omega)
   have h2 : ¬ x.number = v.number := by omega
   have h3 : v.number ≤ x.number := by omega
   simp [h2, h3, ih]

theorem putL_at : ∀ {F : List Nat}, F.Pairwise (fun i j => N i < N j) → (∀ i u, g i = some u → u.number = N i) → ∀ {j : Nat}, j ∈ F → v.number = N j → putL v false (F.filterMap g) = F.filterMap (fun i => if i = j then some v else g i)
 | [], _, _, j, hj, _ => by cases hj
 | i :: F, hp, hg, j, hj, hv => by
   rw [List.pairwise_cons] at hp
   have hrest : ∀ x ∈ F.filterMap g, N i < x.number := fun x hx => by
    obtain ⟨k, hk, hgk⟩ := List.mem_filterMap.1 hx
    rw [hg k x hgk]
    exact hp.1 k hk
   by_cases hij : i = j
   · subst hij
     have hno : ∀ k ∈ F, k ≠ i := fun k hk e => by
      have := hp.1 k hk
      rw [e] at this
      omega
     have hsame : F.filterMap (fun k => if k = i then some v else g k) = F.filterMap g := by
      have : ∀ l : List Nat, (∀ k ∈ l, k ≠ i) → l.filterMap (fun k => if k = i then some v else g k) = l.filterMap g := by
       intro l
       induction l with
       | nil => intro _; rfl
       | cons k l ih =>
         intro h
         rw [List.filterMap_cons, List.filterMap_cons, if_neg (h k List.mem_cons_self), ih (fun q hq => h q (List.mem_cons_of_mem _ hq))]
      exact this F hno
     rw [List.filterMap_cons, List.filterMap_cons, if_pos rfl, hsame]
     rcases hgi : g i with _ | u
     · simp only
       exact putL_ahead (fun x hx => by have := hrest x hx; omega)
     · simp only
       have hu := hg i u hgi
       rw [putL]
       have h1 : u.number = v.number := by omega
       have h2 : v.number ≤ u.number := by omega
       rw [if_pos ⟨rfl, h2⟩, if_pos h1]
       have := putL_done (v := v) (l := F.filterMap g) (fun x hx => by have := hrest x hx; omega)
       simp [h2, this]
   · have hjF : j ∈ F := by
      rcases List.mem_cons.1 hj with h | h
      · exact absurd h.symm hij
      · exact h
     have ih := putL_at hp.2 hg hjF hv
     rw [List.filterMap_cons, List.filterMap_cons, if_neg hij]
     rcases hgi : g i with _ | u
     · simp only
       exact ih
     · simp only
       have hu := hg i u hgi
       have hlt := hp.1 j hjF
       rw [putL]
       have h1 : ¬ u.number = v.number := by omega
       have h2 : ¬ v.number ≤ u.number := by omega
       simp [h1, h2, ih]

theorem fold_put (hp : F.Pairwise (fun i j => N i < N j)) (pb jn : Nat → Option ValT) (J : ValT → ValT) (hJ : ∀ i u, i ∈ F → pb i = some u → jn i = some (J u) ∧ (J u).number = N i ∧ manyU (J u) ≠ 0) :
  ∀ (G : List Nat) (g : Nat → Option ValT), (∀ i ∈ G, i ∈ F) → (∀ i u, g i = some u → u.number = N i) →
    (G.filterMap pb).foldl (fun out v => putT out (J v)) (F.filterMap g) = F.filterMap (fun i => if i ∈ G ∧ (pb i).isSome = true then jn i else g i)
 | [], g, _, _ => by simp
 | k :: G, g, hG, hg => by
   have hkF := hG k List.mem_cons_self
   rw [List.filterMap_cons]
   rcases hk : pb k with _ | u
   · simp only
     rw [fold_put hp pb jn J hJ G g (fun i hi => hG i (List.mem_cons_of_mem _ hi)) hg]
     refine congrArg (fun h => List.filterMap h F) (funext fun i => ?_)
     by_cases hi : i = k
     · subst hi
       simp [hk]
     · simp [hi]
   · simp only
     obtain ⟨h1, h2, h3⟩ := hJ k u hkF hk
     rw [List.foldl_cons]
     have hput : putT (F.filterMap g) (J u) = F.filterMap (fun i => if i = k then some (J u) else g i) := by
      unfold putT
      rw [decide_eq_false h3]
      exact putL_at hp hg hkF h2
     rw [hput, fold_put hp pb jn J hJ G _ (fun i hi => hG i (List.mem_cons_of_mem _ hi)) ?_]
     · refine congrArg (fun h => List.filterMap h F) (funext fun i => ?_)
       by_cases hi : i = k
       · subst hi
         simp only [hk, List.mem_cons, true_or, Option.isSome_some, and_self, if_true]
         split
         · rfl
         · exact h1.symm
       · simp [hi]
     · intro i x hx
       by_cases hi : i = k
       · subst hi
         rw [if_pos rfl] at hx
         cases hx
         exact h2
       · rw [if_neg hi] at hx
         exact hg i x hx
end

end Go.Proofs.YtnnphodgegcddaaGreat

/- Plain words of layer 15: what two valid messages mean, one behind the other, is their meanings, joined. -/
namespace Go.Proofs.YtnnphodgegcddaaGreat
open Go.RowKit
set_option linter.unusedVariables false

theorem filterMap_same {α β : Type} {g h : α → Option β} : ∀ {l : List α}, (∀ x ∈ l, g x = h x) → l.filterMap g = l.filterMap h
 | [], _ => rfl
 | x :: l, e => by
   rw [List.filterMap_cons, List.filterMap_cons, e x List.mem_cons_self, filterMap_same (l := l) (fun y hy => e y (List.mem_cons_of_mem _ hy))]

theorem find_place {N : Nat → Int} {g : Nat → Option ValT} : ∀ {F : List Nat}, F.Pairwise (fun i j => N i < N j) → (∀ i u, g i = some u → u.number = N i) → ∀ {j : Nat}, j ∈ F → (F.filterMap g).find? (fun u => u.number == N j) = g j
 | [], _, _, j, hj => by cases hj
 | i :: F, hp, hg, j, hj => by
   rw [List.pairwise_cons] at hp
   rw [List.filterMap_cons]
   by_cases hij : i = j
   · subst hij
     rcases hgi : g i with _ | u
     · simp only
       rw [List.find?_eq_none]
       intro x hx
       obtain ⟨k, hk, hgk⟩ := List.mem_filterMap.1 hx
       have := hg k x hgk
       have := hp.1 k hk
       simp
       omega
     · simp only
       rw [List.find?_cons_of_pos]
       simpa using hg i u hgi
   · have hjF : j ∈ F := by
      rcases List.mem_cons.1 hj with h | h
      · exact absurd h.symm hij
      · exact h
     have ih := find_place hp.2 hg hjF
     rcases hgi : g i with _ | u
     · simp only
       exact ih
     · simp only
       rw [List.find?_cons_of_neg, ih]
       have := hg i u hgi
       have := hp.1 j hjF
       simp
       omega

section
variable {S : List MsgD} {m : Nat} {M : MsgD} {fs : List FieldD} {bs : List UInt8} {i : Nat} {f : FieldD} {sub : Nat → List UInt8 → MsgT} {sj : Nat → MsgT → MsgT → MsgT}

theorem right_sorted (hR : rightS S = true) (hM : S[m]? = some M) : (sortK (keyF M.fields) M.fields.length).Pairwise (fun i j => keyF M.fields i < keyF M.fields j) := by
 refine (sortK_pair (keyF M.fields) M.fields.length).imp_of_mem (fun {i j} hi hj h => ?_)
 have h1 := sortK_mem.1 hi
 have h2 := sortK_mem.1 hj
 have e1 := List.getElem?_eq_getElem h1
 have e2 := List.getElem?_eq_getElem h2
 have k1 := keyF_at e1
 have k2 := keyF_at e2
 have q1 := (right_field hR hM e1).2
 have q2 := (right_field hR hM e2).2
 unfold ltK at h
 by_cases he : keyF M.fields i = keyF M.fields j
 · exfalso
   rw [k1, k2] at he
   rw [he, q2] at q1
   omega
 · omega

theorem place_number {L : List ViewD} {u : ValT} (h : placeO sub fs bs L i = some u) : u.number = keyF fs i ∧ manyU u ≠ 0 ∧ ∃ f, fs[i]? = some f := by
 obtain ⟨f, hf, _, rfl, hm⟩ := place_some h
 exact ⟨(keyF_at hf).symm, hm, f, hf⟩

theorem joinOne_number (X : List ValT) (v : ValT) : (joinOne sj fs X v).number = v.number ∧ (manyU v ≠ 0 → manyU (joinOne sj fs X v) ≠ 0) := by
 unfold joinOne
 split
 · unfold joinU
   split
   · refine ⟨rfl, fun h => ?_⟩
     unfold manyU at h ⊢
     simp only [List.length_append]
     omega
   · split
     · exact ⟨rfl, fun _ => by simp [manyU]⟩
     · exact ⟨rfl, fun h => h⟩
 · exact ⟨rfl, fun h => h⟩

theorem pieces_valid {e o : Nat} : ∀ {L : List ViewD}, (∀ v ∈ L, v.run = false ∧ (firstV S e o (valueO bs v)).2 = 0) → numberB f.kind = false → (firstV S e o (L.flatMap (piecesO f bs)).flatten).2 = 0
 | [], _, _ => firstV_nil S e o
 | v :: L, h, hn => by
   have h1 := h v List.mem_cons_self
   have ih := pieces_valid (L := L) (fun u hu => h u (List.mem_cons_of_mem _ hu)) hn
   have hp : piecesO f bs v = [valueO bs v] := by
    unfold piecesO
    rw [h1.1, hn]
    rfl
   rw [List.flatMap_cons, hp, List.flatten_append]
   rw [show ([valueO bs v] : List (List UInt8)).flatten = valueO bs v by simp]
   exact (firstV_append _ h1.2).1.2 ih
end

theorem of_join {S : List MsgD} (hR : rightS S = true) : ∀ (D d m : Nat) (a b : List UInt8), m < S.length → a.length + b.length ≤ D → (firstV S d m a).2 = 0 → (firstV S d m b).2 = 0 → ofV S D m (a ++ b) = joinV S D m (ofV S D m a) (ofV S D m b)
 | 0, d, m, a, b, hm, hl, ha, hb => by
   have e1 : a = [] := List.eq_nil_of_length_eq_zero (by omega)
   have e2 : b = [] := List.eq_nil_of_length_eq_zero (by omega)
   subst e1
   subst e2
   obtain ⟨M, hM⟩ : ∃ M, S[m]? = some M := ⟨_, List.getElem?_eq_getElem hm⟩
   have h0 : ofV S 0 m [] = .mk () () [] [] := by
    show ofM _ S m [] = _
    unfold ofM
    rw [hM]
    simp only
    rw [viewsV_nil]
    have : (sortK (keyF M.fields) M.fields.length).filterMap (placeO (fun _ _ => .mk () () [] []) M.fields [] []) = [] := by
     rw [List.filterMap_eq_nil_iff]
     intro i _
     unfold placeO
     split
     · rfl
     · rfl
    rw [this]
    rfl
   rw [List.append_nil, h0]
   show _ = joinJ _ S m _ _
   unfold joinJ
   rw [hM]
   rfl
 | D + 1, d, m, a, b, hm, hl, ha, hb => by
   obtain ⟨M, hM⟩ : ∃ M, S[m]? = some M := ⟨_, List.getElem?_eq_getElem hm⟩
   have ha' := ha
   have hb' := hb
   rw [firstV_eq, checkM_valid hM] at ha' hb'
   have hva := ha'.1
   have hvb := hb'.1
   have hp := right_sorted hR hM
   show ofM (ofV S D) S m (a ++ b) = joinJ (joinV S D) S m (ofM (ofV S D) S m a) (ofM (ofV S D) S m b)
   unfold ofM joinJ
   simp only [hM, MsgX.vals, MsgX.unk]
   rw [both_unk hva hvb]
   congr 1
   generalize hF : sortK (keyF M.fields) M.fields.length = F at *
   have hFm : ∀ i ∈ F, i < M.fields.length := fun i hi => by rw [← hF] at hi; exact sortK_mem.1 hi
   have hg : ∀ (c : List UInt8) (i : Nat) (u : ValT), placeO (ofV S D) M.fields c (viewsV M.fields c).1 i = some u → u.number = keyF M.fields i := fun c i u h => (place_number h).1
   have hfold := fold_put hp (placeO (ofV S D) M.fields b (viewsV M.fields b).1) (fun i => (placeO (ofV S D) M.fields b (viewsV M.fields b).1 i).map (joinOne (joinV S D) M.fields (F.filterMap (placeO (ofV S D) M.fields a (viewsV M.fields a).1))))
    (joinOne (joinV S D) M.fields (F.filterMap (placeO (ofV S D) M.fields a (viewsV M.fields a).1)))
    (fun i u hi hu => by
     obtain ⟨h1, h2, _⟩ := place_number hu
     obtain ⟨q1, q2⟩ := joinOne_number (sj := joinV S D) (fs := M.fields) (F.filterMap (placeO (ofV S D) M.fields a (viewsV M.fields a).1)) u
     exact ⟨by rw [hu]; rfl, by rw [q1, h1], q2 h2⟩) F (placeO (ofV S D) M.fields a (viewsV M.fields a).1) (fun i hi => hi) (hg a)
   rw [hfold]
   refine filterMap_same fun i hi => ?_
   obtain ⟨f, hf⟩ : ∃ f, M.fields[i]? = some f := ⟨_, List.getElem?_eq_getElem (hFm i hi)⟩
   have hboth := place_both (sub := ofV S D) (sj := joinV S D) hva hvb hf (fun h17 hr hna hnb => by
    obtain ⟨o, ho1, ho2⟩ := right_of hR hM hf h17
    have hno : f.of_.toNat = o := by rw [ho1]; rfl
    have hnum : numberB f.kind = false := by rw [h17]; rfl
    have hval : ∀ (c : List UInt8), (∀ v ∈ (viewsV M.fields c).1, (valueC (subC S d) M.fields c v).2 = 0) → viewsO (viewsV M.fields c).1 i ≠ [] → ∃ e, d = e + 1 ∧ ∀ v ∈ viewsO (viewsV M.fields c).1 i, v.run = false ∧ (firstV S e o (valueO c v)).2 = 0 := fun c hc hne => by
     have hrun : ∀ v ∈ viewsO (viewsV M.fields c).1 i, v.run = false := fun v hv => by
      rcases own_view (own_bd hv).1 (own_bd hv).2.1 hf with ⟨_, _, q⟩ | ⟨q, _⟩
      · exact absurd h17 (number_17 q)
      · exact q
     obtain ⟨v, l, hvl⟩ := List.exists_cons_of_ne_nil hne
     have hv : v ∈ viewsO (viewsV M.fields c).1 i := by rw [hvl]; exact List.mem_cons_self
     rcases d with _ | e
     · have h1 := (valueC_sub (S := S) (d := 0) (bs := c) (own_bd hv).2.1 hf (hrun v hv) h17).1 rfl
       have h2 := hc v (own_bd hv).1
       rw [h1] at h2
       cases h2
     · refine ⟨e, rfl, fun u hu => ⟨hrun u hu, ?_⟩⟩
       have h1 := (valueC_sub (S := S) (d := e + 1) (bs := c) (own_bd hu).2.1 hf (hrun u hu) h17).2 e rfl
       have h2 := hc u (own_bd hu).1
       rw [h1.1, hno] at h2
       exact h2
    obtain ⟨e, rfl, ea⟩ := hval a ha'.2 hna
    obtain ⟨e', he', eb⟩ := hval b hb'.2 hnb
    have hee : e' = e := by omega
    subst hee
    have la := fpiece_small (x := ((viewsO (viewsV M.fields a).1 i).flatMap (piecesO f a)).flatten) hf hna (by unfold fpiecesO; rw [if_neg (by simp [hr]), if_pos h17]; simp)
    have lb := fpiece_small (x := ((viewsO (viewsV M.fields b).1 i).flatMap (piecesO f b)).flatten) hf hnb (by unfold fpiecesO; rw [if_neg (by simp [hr]), if_pos h17]; simp)
    rw [hno]
    exact of_join hR D e' o _ _ ho2 (by omega) (pieces_valid ea hnum) (pieces_valid eb hnum))
   rw [hboth]
   have hXf := find_place hp (hg a) hi
   have hff : M.fields.find? (fun g => g.number == keyF M.fields i) = some f := by
    have := (find_of_idx (p := fun g : FieldD => decide (g.number = f.number)) (l := M.fields)).2 i f (right_field hR hM hf).2 hf
    rw [keyF_at hf]
    exact this
   rcases hb1 : placeO (ofV S D) M.fields b (viewsV M.fields b).1 i with _ | v
   · rcases ha1 : placeO (ofV S D) M.fields a (viewsV M.fields a).1 i with _ | u
     · simp [joinO]
     · simp [joinO]
   · have hvn := hg b i v hb1
     have hone : joinOne (joinV S D) M.fields (F.filterMap (placeO (ofV S D) M.fields a (viewsV M.fields a).1)) v = match placeO (ofV S D) M.fields a (viewsV M.fields a).1 i with
      | some w => joinU (joinV S D) f w v
      | none => v := by
      unfold joinOne
      rw [hvn, hff, hXf]
      rcases placeO (ofV S D) M.fields a (viewsV M.fields a).1 i with _ | w <;> rfl
     rcases ha1 : placeO (ofV S D) M.fields a (viewsV M.fields a).1 i with _ | u
     · rw [ha1] at hone
       simp [joinO, hi, hone]
     · rw [ha1] at hone
       simp [joinO, hi, hone]

end Go.Proofs.YtnnphodgegcddaaGreat

/- Plain words of layers 16 and 18: right meanings, and their bytes. -/


/- Plain words of layers 16 and 18: a meaning's bytes; a record put alone, viewed; the views of pieces, one behind the other. -/
namespace Go.Proofs.YtnnphodgegcddaaGreat
open Go.RowKit
open Go.Lib (uvarint)
set_option linter.unusedVariables false

section
variable {fs : List FieldD} {i : Nat} {f : FieldD}

end

end Go.Proofs.YtnnphodgegcddaaGreat

/- Plain words of layers 14 and 16: right meanings, and that their bytes mean them. -/
namespace Go.Proofs.YtnnphodgegcddaaGreat
open Go.RowKit
open Go.Lib (uvarint)
set_option linter.unusedVariables false

def RightF (rs : Nat → MsgT → Prop) (f : FieldD) (v : ValT) : Prop :=
 v.number = f.number ∧ manyU v ≠ 0 ∧ (f.rep = false → manyU v = 1) ∧
  ((numberB f.kind = true ∧ v.texts = [] ∧ v.subs = [] ∧ ∀ w ∈ v.words, w < 18446744073709551616 ∧ canonN f.kind w = w) ∨
    (numberB f.kind = false ∧ kindB f.kind = true ∧ f.kind ≠ 17 ∧ v.words = [] ∧ v.subs = [] ∧ (f.kind = 15 → ∀ t ∈ v.texts, rightT t.data.toList = true)) ∨
    (f.kind = 17 ∧ v.words = [] ∧ v.texts = [] ∧ ∀ y ∈ v.subs, rs f.of_.toNat y))

def RightJ (rs : Nat → MsgT → Prop) (S : List MsgD) (m : Nat) (x : MsgT) : Prop := ∃ M, S[m]? = some M ∧ x.vals.Pairwise (fun u v => u.number < v.number) ∧
 (∀ v ∈ x.vals, ∃ (i : Nat) (f : FieldD), M.fields[i]? = some f ∧ RightF rs f v) ∧
 ∀ t ∈ x.unk, ∃ T V a, headV t.data.toList = (T, V, a, t.data.toList.length, 0) ∧ M.fields.find? (fun f => f.number == (T : Int)) = none

def RightV (S : List MsgD) : Nat → Nat → MsgT → Prop
 | 0 => RightJ (fun _ _ => False) S
 | d + 1 => RightJ (RightV S d) S

section
variable {S : List MsgD} {m : Nat} {M : MsgD} {i : Nat} {f : FieldD} {se : Nat → MsgT → List UInt8} {v : ValT}

end

end Go.Proofs.YtnnphodgegcddaaGreat

/- Plain words of layers 14 and 16: what valid bytes mean is right. -/
namespace Go.Proofs.YtnnphodgegcddaaGreat
open Go.RowKit
set_option linter.unusedVariables false

section
variable {S : List MsgD} {m : Nat} {M : MsgD} {fs : List FieldD} {bs : List UInt8} {i : Nat} {f : FieldD} {sub : Nat → List UInt8 → MsgT}

theorem words_canon (f : FieldD) (bs : List UInt8) (v : ViewD) : ∀ w ∈ wordsO f bs v, w < 18446744073709551616 ∧ canonN f.kind w = w := by
 intro w hw
 unfold wordsO at hw
 split at hw
 · unfold wordsV at hw
   split at hw
   · obtain ⟨x, _, rfl⟩ := List.mem_map.1 hw
     exact ⟨(readS_bd f.kind x.1).1, readS_canon f.kind x.1⟩
   · cases hw
 · split at hw
   · rw [List.mem_singleton] at hw
     subst hw
     exact ⟨(readS_bd f.kind (valueO bs v)).1, readS_canon f.kind (valueO bs v)⟩
   · cases hw

theorem pwords_mem {f : FieldD} {ws : List Nat} {w : Nat} (h : w ∈ pwordsO f ws) : w ∈ ws := by
 unfold pwordsO at h
 split at h
 · exact h
 · exact lastO_mem h

theorem unknown_right {v : ViewD} (hv : v ∈ (viewsV fs bs).1) (hn : v.field < 0) : ∃ T V a, headV (textO (spanB bs v.r.f v.r.t)).data.toList = (T, V, a, (textO (spanB bs v.r.f v.r.t)).data.toList.length, 0) ∧ fs.find? (fun f => f.number == (T : Int)) = none := by
 obtain ⟨h1, h2⟩ := viewsV_each fs bs v hv
 have hh := span_head h1
 refine ⟨v.r.n, v.r.w, v.r.a - v.r.f, hh, ?_⟩
 rcases seenV_find fs v.r with ⟨q, _⟩ | ⟨k, f, q1, q2, q3, q4, q5⟩
 · exact q
 · rw [q5] at h2
   exfalso
   split at h2
   · injection h2 with h2 _
     rw [← h2] at hn
     simp at hn
     omega
   · split at h2
     · injection h2 with h2 _
       rw [← h2] at hn
       simp at hn
       omega
     · injection h2 with _ h2
       cases h2

theorem place_right (hM : S[m]? = some M) {d : Nat} (hb : (firstV S d m bs).2 = 0) {rs : Nat → MsgT → Prop} {u : ValT} (hu : placeO sub M.fields bs (viewsV M.fields bs).1 i = some u)
  (hrs : ∀ (f : FieldD), M.fields[i]? = some f → f.kind = 17 → ∀ x : List UInt8, x.length + 1 ≤ bs.length → (∀ e, d = e + 1 → (firstV S e f.of_.toNat x).2 = 0) → d ≠ 0 → rs f.of_.toNat (sub f.of_.toNat x)) :
  ∃ f, M.fields[i]? = some f ∧ RightF rs f u := by
 rw [firstV_eq, checkM_valid hM] at hb
 obtain ⟨f, hf, hne, rfl, hm⟩ := place_some hu
 have hsmall : ∀ x ∈ ppiecesO f ((viewsO (viewsV M.fields bs).1 i).flatMap (piecesO f bs)), x.length + 1 ≤ bs.length := fun x hx => by
  rw [ppieces_eq] at hx
  exact fpiece_small hf hne hx
 have hthings := own_things hf hne
 have hkb : kindB f.kind = true := by
  obtain ⟨v, l, hl⟩ := List.exists_cons_of_ne_nil hne
  have hv : v ∈ viewsO (viewsV M.fields bs).1 i := by rw [hl]; exact List.mem_cons_self
  rcases own_view (own_bd hv).1 (own_bd hv).2.1 hf with ⟨_, _, q⟩ | ⟨_, q⟩
  · unfold numberB at q
    have := of_decide_eq_true q
    unfold kindB
    exact decide_eq_true (by omega)
  · exact q
 refine ⟨f, hf, rfl, hm, fun hr => ?_, ?_⟩
 · have h1 := manyU_value (sub := sub) f ((viewsO (viewsV M.fields bs).1 i).flatMap (wordsO f bs)) ((viewsO (viewsV M.fields bs).1 i).flatMap (piecesO f bs))
   have hw1 : (pwordsO f ((viewsO (viewsV M.fields bs).1 i).flatMap (wordsO f bs))).length ≤ 1 := by
    unfold pwordsO
    rw [if_neg (by simp [hr])]
    exact lastO_length _
   rcases hthings with ⟨q, hp, _⟩ | ⟨q, hw, _⟩
   · have : (ppiecesO f ((viewsO (viewsV M.fields bs).1 i).flatMap (piecesO f bs))).length = 0 := by
      rw [hp]
      unfold ppiecesO
      rw [if_neg (by simp [hr]), if_neg (number_17 q)]
      rfl
     omega
   · have h2 : (pwordsO f ((viewsO (viewsV M.fields bs).1 i).flatMap (wordsO f bs))).length = 0 := by
      rw [hw]
      unfold pwordsO
      rw [if_neg (by simp [hr])]
      rfl
     have h3 : (ppiecesO f ((viewsO (viewsV M.fields bs).1 i).flatMap (piecesO f bs))).length ≤ 1 := by
      unfold ppiecesO
      rw [if_neg (by simp [hr])]
      split
      · simp
      · exact lastO_length _
     omega
 · have hown : ∀ v ∈ viewsO (viewsV M.fields bs).1 i, numberB f.kind = false → v.run = false := fun v hv hn => by
    rcases own_view (own_bd hv).1 (own_bd hv).2.1 hf with ⟨_, _, q⟩ | ⟨q, _⟩
    · rw [hn] at q
      cases q
    · exact q
   rcases hthings with ⟨q, hp, _⟩ | ⟨q, hw, _⟩
   · refine .inl ⟨q, ?_, ?_, fun w hw => ?_⟩
     · unfold valueU
       rw [hp]
       show (if f.kind = 17 then [] else (ppiecesO f []).map textO) = []
       rw [if_neg (number_17 q)]
       unfold ppiecesO
       split
       · rfl
       · rw [if_neg (number_17 q)]
         rfl
     · unfold valueU
       show (if f.kind = 17 then _ else []) = []
       rw [if_neg (number_17 q)]
     · obtain ⟨v, _, hv⟩ := List.mem_flatMap.1 (pwords_mem hw)
       exact words_canon f bs v w hv
   · have hw0 : (valueU sub f ((viewsO (viewsV M.fields bs).1 i).flatMap (wordsO f bs)) ((viewsO (viewsV M.fields bs).1 i).flatMap (piecesO f bs))).words = [] := by
      unfold valueU
      rw [hw]
      show pwordsO f [] = []
      unfold pwordsO
      split <;> rfl
     by_cases h17 : f.kind = 17
     · refine .inr (.inr ⟨h17, hw0, ?_, fun y hy => ?_⟩)
       · unfold valueU
         show (if f.kind = 17 then [] else _) = []
         rw [if_pos h17]
       · have hy' : y ∈ (if f.kind = 17 then (ppiecesO f ((viewsO (viewsV M.fields bs).1 i).flatMap (piecesO f bs))).map (sub f.of_.toNat) else []) := hy
         rw [if_pos h17] at hy'
         obtain ⟨x, hx, rfl⟩ := List.mem_map.1 hy'
         have hd0 : d ≠ 0 := by
          rintro rfl
          obtain ⟨v, l, hl⟩ := List.exists_cons_of_ne_nil hne
          have hv : v ∈ viewsO (viewsV M.fields bs).1 i := by rw [hl]; exact List.mem_cons_self
          have h1 := (valueC_sub (S := S) (d := 0) (bs := bs) (own_bd hv).2.1 hf (hown v hv q) h17).1 rfl
          have h2 := hb.2 v (own_bd hv).1
          rw [h1] at h2
          cases h2
         refine hrs f hf h17 x (hsmall x hx) (fun e he => ?_) hd0
         subst he
         have hval : ∀ v ∈ viewsO (viewsV M.fields bs).1 i, v.run = false ∧ (firstV S e f.of_.toNat (valueO bs v)).2 = 0 := fun v hv => by
          refine ⟨hown v hv q, ?_⟩
          have h1 := (valueC_sub (S := S) (d := e + 1) (bs := bs) (own_bd hv).2.1 hf (hown v hv q) h17).2 e rfl
          have h2 := hb.2 v (own_bd hv).1
          rw [h1.1] at h2
          exact h2
         unfold ppiecesO at hx
         split at hx
         · obtain ⟨v, hv, hxv⟩ := List.mem_flatMap.1 hx
           unfold piecesO at hxv
           rw [(hval v hv).1, q] at hxv
           have hxv : x ∈ [valueO bs v] := hxv
           rw [List.mem_singleton] at hxv
           subst hxv
           exact (hval v hv).2
         · rw [List.mem_singleton] at hx
           subst hx
           exact pieces_valid hval q
     · refine .inr (.inl ⟨q, hkb, h17, hw0, ?_, fun h15 t ht => ?_⟩)
       · unfold valueU
         show (if f.kind = 17 then _ else []) = []
         rw [if_neg h17]
       · have ht' : t ∈ (if f.kind = 17 then [] else (ppiecesO f ((viewsO (viewsV M.fields bs).1 i).flatMap (piecesO f bs))).map textO) := ht
         rw [if_neg h17] at ht'
         obtain ⟨x, hx, rfl⟩ := List.mem_map.1 ht'
         have hx2 : x ∈ (viewsO (viewsV M.fields bs).1 i).flatMap (piecesO f bs) := by
          unfold ppiecesO at hx
          split at hx
          · exact hx
          · exact lastO_mem hx
         obtain ⟨v, hv, hxv⟩ := List.mem_flatMap.1 hx2
         have hr := hown v hv q
         unfold piecesO at hxv
         rw [hr, q] at hxv
         have hxv : x ∈ [valueO bs v] := hxv
         rw [List.mem_singleton] at hxv
         subst hxv
         have h1 := (valueC_text (subC S d) none (bs := bs) (own_bd hv).2.1 hf hr h15).1
         have h2 := hb.2 v (own_bd hv).1
         rw [h1] at h2
         show rightT (valueO bs v) = true
         by_cases hT : rightT (spanB bs v.r.a v.r.t) = true
         · exact hT
         · simp [hT] at h2
end

theorem right_step {S : List MsgD} (hR : rightS S = true) {d D m : Nat} {M : MsgD} {bs : List UInt8} (hM : S[m]? = some M) (hb : (firstV S d m bs).2 = 0) (rs : Nat → MsgT → Prop)
  (hrs : ∀ (i : Nat) (f : FieldD), M.fields[i]? = some f → f.kind = 17 → ∀ x : List UInt8, x.length + 1 ≤ bs.length → (∀ e, d = e + 1 → (firstV S e f.of_.toNat x).2 = 0) → d ≠ 0 → rs f.of_.toNat (ofV S D f.of_.toNat x)) : RightJ rs S m (ofV S (D + 1) m bs) := by
 refine ⟨M, hM, ?_, fun v hv => ?_, fun t ht => ?_⟩
 · show (ofM (ofV S D) S m bs).vals.Pairwise _
   unfold ofM
   rw [hM]
   show List.Pairwise _ ((sortK (keyF M.fields) M.fields.length).filterMap _)
   rw [List.pairwise_filterMap]
   refine (right_sorted hR hM).imp (fun {a b} hab u hu v hv => ?_)
   rw [(place_number hu).1, (place_number hv).1]
   exact hab
 · have hv' : v ∈ (sortK (keyF M.fields) M.fields.length).filterMap (placeO (ofV S D) M.fields bs (viewsV M.fields bs).1) := by
    have : v ∈ (ofM (ofV S D) S m bs).vals := hv
    unfold ofM at this
    rw [hM] at this
    exact this
   obtain ⟨i, _, hi⟩ := List.mem_filterMap.1 hv'
   obtain ⟨f, hf, hr⟩ := place_right (rs := rs) hM hb hi (fun f hf h17 x hx he hd => hrs i f hf h17 x hx he hd)
   exact ⟨i, f, hf, hr⟩
 · have ht' : t ∈ (((viewsV M.fields bs).1.filter fun v => decide (v.field < 0)).map fun v => textO (spanB bs v.r.f v.r.t)) := by
    have : t ∈ (ofM (ofV S D) S m bs).unk := ht
    unfold ofM at this
    rw [hM] at this
    exact this
   obtain ⟨v, hv, rfl⟩ := List.mem_map.1 ht'
   exact unknown_right (List.mem_filter.1 hv).1 (by simpa using (List.mem_filter.1 hv).2)

theorem of_right {S : List MsgD} (hR : rightS S = true) : ∀ (d D m : Nat) (bs : List UInt8), m < S.length → (firstV S d m bs).2 = 0 → bs.length ≤ D → RightV S d m (ofV S D m bs)
 | 0, D, m, bs, hm, hb, hD => by
   obtain ⟨M, hM⟩ : ∃ M, S[m]? = some M := ⟨_, List.getElem?_eq_getElem hm⟩
   rw [ofV_fuel S D (D + 1) m bs hD (by omega)]
   exact right_step hR hM hb _ (fun i f hf h17 x hx he hd => absurd rfl hd)
 | e + 1, D, m, bs, hm, hb, hD => by
   obtain ⟨M, hM⟩ : ∃ M, S[m]? = some M := ⟨_, List.getElem?_eq_getElem hm⟩
   rw [ofV_fuel S D (D + 1) m bs hD (by omega)]
   refine right_step hR hM hb _ (fun i f hf h17 x hx he _ => ?_)
   obtain ⟨o, ho1, ho2⟩ := right_of hR hM hf h17
   have hno : f.of_.toNat = o := by rw [ho1]; rfl
   have h0 := he e rfl
   rw [hno] at h0 ⊢
   exact of_right hR e D o x ho2 h0 (by omega)

end Go.Proofs.YtnnphodgegcddaaGreat

/- Plain words of layers 14 and 16: a right meaning's bytes are valid. -/
namespace Go.Proofs.YtnnphodgegcddaaGreat
open Go.RowKit
set_option linter.unusedVariables false

end Go.Proofs.YtnnphodgegcddaaGreat
