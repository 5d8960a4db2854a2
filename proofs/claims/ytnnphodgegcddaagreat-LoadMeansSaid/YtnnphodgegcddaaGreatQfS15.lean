/- Plain words of layers 15 and 17: meanings, joined. -/
import Derived.Test.YtnnphodgegcddaaGreatQfS4
import Derived.Test.YtnnphodgegcddaaGreatQfS14o

/- Plain words of layer 17: where a message may be cut. No program is named. -/
namespace Go.Proofs.YtnnphodgegcddaaGreat
open Go.RowKit
set_option linter.unusedVariables false

section
variable {S : List MsgD} {d m : Nat} {M : MsgD}

theorem firstV_nil (S : List MsgD) (d m : Nat) : (firstV S d m []).2 = 0 := by
 rw [firstV_eq]
 unfold checkM
 rcases S[m]? with _ | M
 · rfl
 · simp only
   rw [fromC_end (by simp)]

end

end Go.Proofs.YtnnphodgegcddaaGreat

/- Plain words of layer 15: meanings, joined; what two messages' bytes mean, one behind the other. -/
namespace Go.Proofs.YtnnphodgegcddaaGreat
open Go.RowKit
set_option linter.unusedVariables false

section
variable {fs : List FieldD} {a b : List UInt8} {i : Nat} {f : FieldD}

theorem viewsO_shift (k : Nat) (L : List ViewD) (i : Nat) : viewsO (L.map (ViewD.shift k)) i = (viewsO L i).map (ViewD.shift k) := by
 unfold viewsO
 rw [List.filter_map]
 rfl

theorem viewsO_append (L K : List ViewD) (i : Nat) : viewsO (L ++ K) i = viewsO L i ++ viewsO K i := List.filter_append ..

theorem value_left (a b : List UInt8) {v : ViewD} (h : v.r.t ≤ a.length) : valueO (a ++ b) v = valueO a v := span_left a b h

theorem value_right (a b : List UInt8) (v : ViewD) : valueO (a ++ b) (v.shift a.length) = valueO b v := by
 have := span_right a b v.r.a v.r.t
 rw [Nat.add_comm a.length, Nat.add_comm a.length] at this
 exact this

theorem whole_right (a b : List UInt8) (v : ViewD) : spanB (a ++ b) (v.shift a.length).r.f (v.shift a.length).r.t = spanB b v.r.f v.r.t := by
 have := span_right a b v.r.f v.r.t
 rw [Nat.add_comm a.length, Nat.add_comm a.length] at this
 exact this

theorem flat_congr {α β : Type} {g h : α → List β} : ∀ {l : List α}, (∀ x ∈ l, g x = h x) → l.flatMap g = l.flatMap h
 | [], _ => rfl
 | x :: l, e => by
   rw [List.flatMap_cons, List.flatMap_cons, e x List.mem_cons_self, flat_congr (l := l) (fun y hy => e y (List.mem_cons_of_mem _ hy))]

theorem both_views (ha : (viewsV fs a).2.2 = 0) (hb : (viewsV fs b).2.2 = 0) : (viewsV fs (a ++ b)).1 = (viewsV fs a).1 ++ (viewsV fs b).1.map (ViewD.shift a.length) := by
 rw [viewsV_append ha, if_pos hb]

theorem both_own (ha : (viewsV fs a).2.2 = 0) (hb : (viewsV fs b).2.2 = 0) (i : Nat) : viewsO (viewsV fs (a ++ b)).1 i = viewsO (viewsV fs a).1 i ++ (viewsO (viewsV fs b).1 i).map (ViewD.shift a.length) := by
 rw [both_views ha hb, viewsO_append, viewsO_shift]

theorem both_words (ha : (viewsV fs a).2.2 = 0) (hb : (viewsV fs b).2.2 = 0) (f : FieldD) (i : Nat) :
  (viewsO (viewsV fs (a ++ b)).1 i).flatMap (wordsO f (a ++ b)) = (viewsO (viewsV fs a).1 i).flatMap (wordsO f a) ++ (viewsO (viewsV fs b).1 i).flatMap (wordsO f b) := by
 rw [both_own ha hb, List.flatMap_append, List.flatMap_map]
 congr 1
 · refine flat_congr fun v hv => ?_
   unfold wordsO
   rw [value_left a b (own_bd hv).2.2.2]
 · refine flat_congr fun v hv => ?_
   unfold wordsO
   rw [value_right]
   rfl

theorem both_pieces (ha : (viewsV fs a).2.2 = 0) (hb : (viewsV fs b).2.2 = 0) (f : FieldD) (i : Nat) :
  (viewsO (viewsV fs (a ++ b)).1 i).flatMap (piecesO f (a ++ b)) = (viewsO (viewsV fs a).1 i).flatMap (piecesO f a) ++ (viewsO (viewsV fs b).1 i).flatMap (piecesO f b) := by
 rw [both_own ha hb, List.flatMap_append, List.flatMap_map]
 congr 1
 · refine flat_congr fun v hv => ?_
   unfold piecesO
   rw [value_left a b (own_bd hv).2.2.2]
 · refine flat_congr fun v hv => ?_
   unfold piecesO
   rw [value_right]
   rfl

theorem both_unk (ha : (viewsV fs a).2.2 = 0) (hb : (viewsV fs b).2.2 = 0) :
  (((viewsV fs (a ++ b)).1.filter fun v => decide (v.field < 0)).map fun v => textO (spanB (a ++ b) v.r.f v.r.t)) =
    (((viewsV fs a).1.filter fun v => decide (v.field < 0)).map fun v => textO (spanB a v.r.f v.r.t)) ++ (((viewsV fs b).1.filter fun v => decide (v.field < 0)).map fun v => textO (spanB b v.r.f v.r.t)) := by
 rw [both_views ha hb, List.filter_append, List.map_append, List.filter_map, List.map_map]
 congr 1
 · refine List.map_congr_left fun v hv => ?_
   have := view_bd (List.mem_filter.1 hv).1
   rw [span_left a b this.2.2]
 · refine List.map_congr_left fun v hv => ?_
   show textO (spanB (a ++ b) (v.shift a.length).r.f (v.shift a.length).r.t) = _
   rw [whole_right]
end

section
variable {fs : List FieldD} {a b bs : List UInt8} {i : Nat} {f : FieldD} {sub : Nat → List UInt8 → MsgT} {sj : Nat → MsgT → MsgT → MsgT}

theorem own_things (hf : fs[i]? = some f) (hne : viewsO (viewsV fs bs).1 i ≠ []) : (numberB f.kind = true ∧ (viewsO (viewsV fs bs).1 i).flatMap (piecesO f bs) = [] ∧ (f.rep = false → (viewsO (viewsV fs bs).1 i).flatMap (wordsO f bs) ≠ [])) ∨
  (numberB f.kind = false ∧ (viewsO (viewsV fs bs).1 i).flatMap (wordsO f bs) = [] ∧ (viewsO (viewsV fs bs).1 i).flatMap (piecesO f bs) ≠ []) := by
 rcases hn : numberB f.kind with _ | _
 · refine .inr ⟨rfl, ?_, ?_⟩
   · rw [List.flatMap_eq_nil_iff]
     intro v hv
     rcases own_view (own_bd hv).1 (own_bd hv).2.1 hf with ⟨_, _, q⟩ | ⟨q, _⟩
     · rw [hn] at q
       cases q
     · unfold wordsO
       rw [q, hn]
       rfl
   · obtain ⟨v, l, hl⟩ := List.exists_cons_of_ne_nil hne
     have hv : v ∈ viewsO (viewsV fs bs).1 i := by rw [hl]; exact List.mem_cons_self
     intro q
     rw [List.flatMap_eq_nil_iff] at q
     have h1 := q v hv
     rcases own_view (own_bd hv).1 (own_bd hv).2.1 hf with ⟨_, _, q⟩ | ⟨q, _⟩
     · rw [hn] at q
       cases q
     · unfold piecesO at h1
       rw [q, hn] at h1
       cases h1
 · refine .inl ⟨rfl, pieces_number hn _, fun hr => ?_⟩
   obtain ⟨v, l, hl⟩ := List.exists_cons_of_ne_nil hne
   have hv : v ∈ viewsO (viewsV fs bs).1 i := by rw [hl]; exact List.mem_cons_self
   intro q
   rw [List.flatMap_eq_nil_iff] at q
   have h1 := q v hv
   rcases own_view (own_bd hv).1 (own_bd hv).2.1 hf with ⟨_, q, _⟩ | ⟨q, _⟩
   · rw [hr] at q
     cases q
   · unfold wordsO at h1
     rw [q, hn] at h1
     cases h1

theorem manyU_value (f : FieldD) (ws : List Nat) (ps : List (List UInt8)) : manyU (valueU sub f ws ps) = (pwordsO f ws).length + (ppiecesO f ps).length := by
 unfold manyU valueU
 by_cases h : f.kind = 17
 · simp [h]
 · simp [h]

end

end Go.Proofs.YtnnphodgegcddaaGreat

/- Plain words of layer 15: values put one by one; what two messages mean, one behind the other, is their meanings, joined. -/
namespace Go.Proofs.YtnnphodgegcddaaGreat
open Go.RowKit
set_option linter.unusedVariables false

section
variable {v : ValT} {F : List Nat} {N : Nat → Int} {g : Nat → Option ValT}

end

end Go.Proofs.YtnnphodgegcddaaGreat

/- Plain words of layer 15: what two valid messages mean, one behind the other, is their meanings, joined. -/
namespace Go.Proofs.YtnnphodgegcddaaGreat
open Go.RowKit
set_option linter.unusedVariables false

theorem filterMap_same {α β : Type} {g h : α → Option β} : ∀ {l : List α}, (∀ x ∈ l, g x = h x) → l.filterMap g = l.filterMap h
 | [], _ => rfl
 | x :: l, e => by
   rw [List.filterMap_cons, List.filterMap_cons, e x List.mem_cons_self, filterMap_same (l := l) (fun y hy => e y (List.mem_cons_of_mem _ hy))]

section
variable {S : List MsgD} {m : Nat} {M : MsgD} {fs : List FieldD} {bs : List UInt8} {i : Nat} {f : FieldD} {sub : Nat → List UInt8 → MsgT} {sj : Nat → MsgT → MsgT → MsgT}

theorem right_sorted (hR : rightS S = true) (hM : S[m]? = some M) : (sortK (keyF M.fields) M.fields.length).Pairwise (fun i j => keyF M.fields i < keyF M.fields j) := by
 refine (sortK_pair (keyF M.fields) M.fields.length).imp_of_mem (fun {i j} hi hj h => ?_)
 have h1 := sortK_mem.1 hi
 have h2 := sortK_mem.1 hj
 have e1 := List.getElem?_eq_getElem h1
 have e2 := List.getElem?_eq_getElem h2
 have k1 := keyF_at e1
 have k2 := keyF_at e2
 have q1 := (right_field hR hM e1).2
 have q2 := (right_field hR hM e2).2
 unfold ltK at h
 by_cases he : keyF M.fields i = keyF M.fields j
 · exfalso
   rw [k1, k2] at he
   rw [he, q2] at q1
   omega
 · omega

theorem place_number {L : List ViewD} {u : ValT} (h : placeO sub fs bs L i = some u) : u.number = keyF fs i ∧ manyU u ≠ 0 ∧ ∃ f, fs[i]? = some f := by
 obtain ⟨f, hf, _, rfl, hm⟩ := place_some h
 exact ⟨(keyF_at hf).symm, hm, f, hf⟩

theorem pieces_valid {e o : Nat} : ∀ {L : List ViewD}, (∀ v ∈ L, v.run = false ∧ (firstV S e o (valueO bs v)).2 = 0) → numberB f.kind = false → (firstV S e o (L.flatMap (piecesO f bs)).flatten).2 = 0
 | [], _, _ => firstV_nil S e o
 | v :: L, h, hn => by
   have h1 := h v List.mem_cons_self
   have ih := pieces_valid (L := L) (fun u hu => h u (List.mem_cons_of_mem _ hu)) hn
   have hp : piecesO f bs v = [valueO bs v] := by
    unfold piecesO
    rw [h1.1, hn]
    rfl
   rw [List.flatMap_cons, hp, List.flatten_append]
   rw [show ([valueO bs v] : List (List UInt8)).flatten = valueO bs v by simp]
   exact (firstV_append _ h1.2).1.2 ih
end

end Go.Proofs.YtnnphodgegcddaaGreat

/- Plain words of layers 16 and 18: right meanings, and their bytes. -/


/- Plain words of layers 16 and 18: a meaning's bytes; a record put alone, viewed; the views of pieces, one behind the other. -/
namespace Go.Proofs.YtnnphodgegcddaaGreat
open Go.RowKit
open Go.Lib (uvarint)
set_option linter.unusedVariables false

theorem headV_putB {T V : Nat} {v : List UInt8} (hr : rightB (T : Int) (V : Int) = true) (hf : fitsV (V : Int) v = true) (hl : v.length < 18446744073709551616) :
  ∃ q, headV (putB (T : Int) (V : Int) v) = (T, V, q, (putB (T : Int) (V : Int) v).length, 0) ∧ q ≤ (putB (T : Int) (V : Int) v).length ∧ spanB (putB (T : Int) (V : Int) v) q (putB (T : Int) (V : Int) v).length = v := by
 have hw := hr
 unfold rightB at hw
 have hw := of_decide_eq_true hw
 unfold fitsV at hf
 have hf := of_decide_eq_true hf
 have key : ∃ a', (if (V : Int) = 2 then uvarint v.length else []).length = a' ∧ sizeV V ((if (V : Int) = 2 then uvarint v.length else []) ++ v) = (a', v.length, 0) := by
  rcases (show V = 0 ∨ V = 1 ∨ V = 5 ∨ V = 2 by omega) with rfl | rfl | rfl | rfl
  · have h1 : (readV v).2.2 = 0 ∧ (readV v).2.1 = v.length := by
     rcases hf with ⟨_, h1, h2⟩ | ⟨h, _⟩ | ⟨h, _⟩ | h
     · exact ⟨h1, h2⟩
     · omega
     · omega
     · omega
    refine ⟨0, by simp, ?_⟩
    simp
    unfold sizeV
    rw [if_pos rfl, h1.1, h1.2]
  · have h1 : v.length = 8 := by
     rcases hf with ⟨h, _⟩ | ⟨_, h⟩ | ⟨h, _⟩ | h
     · omega
     · exact h
     · omega
     · omega
    refine ⟨0, by simp, ?_⟩
    unfold sizeV
    simp [h1]
  · have h1 : v.length = 4 := by
     rcases hf with ⟨h, _⟩ | ⟨h, _⟩ | ⟨_, h⟩ | h
     · omega
     · omega
     · exact h
     · omega
    refine ⟨0, by simp, ?_⟩
    unfold sizeV
    simp [h1]
  · refine ⟨(uvarint v.length).length, by simp, ?_⟩
    have hru := readV_uvarint v.length v hl
    unfold sizeV
    simp [hru]
 obtain ⟨a', k1, k4⟩ := key
 have hput : putB (T : Int) (V : Int) v = tagB (T : Int) (V : Int) ++ ((if (V : Int) = 2 then uvarint v.length else []) ++ v) := rfl
 have hlen : (putB (T : Int) (V : Int) v).length = (tagB (T : Int) (V : Int)).length + a' + v.length := by rw [hput, List.length_append, List.length_append, k1]; omega
 have hhead : headV (putB (T : Int) (V : Int) v) = (T, V, (tagB (T : Int) (V : Int)).length + a', (putB (T : Int) (V : Int) v).length, 0) := by
  rw [hlen]
  refine headV_ok (by rw [hput]; exact tagV_putB hr _) ?_ (by rw [hlen]; omega)
  rw [hput, List.drop_left]
  exact k4
 refine ⟨(tagB (T : Int) (V : Int)).length + a', hhead, by rw [hlen]; omega, ?_⟩
 unfold spanB
 rw [List.take_length, hput, ← List.drop_drop, List.drop_left, ← k1, List.drop_left]

section
variable {fs : List FieldD} {i : Nat} {f : FieldD}

theorem viewsV_putB {T V : Nat} {v : List UInt8} {k : Int} {run : Bool} (hr : rightB (T : Int) (V : Int) = true) (hf : fitsV (V : Int) v = true) (hl : v.length < 18446744073709551616)
  (hs : ∀ r : Rec, r.n = T → r.w = V → seenV fs r = (⟨r, k, run⟩, 0)) :
  ∃ u : ViewD, viewsV fs (putB (T : Int) (V : Int) v) = ([u], 0, 0) ∧ u.field = k ∧ u.run = run ∧ valueO (putB (T : Int) (V : Int) v) u = v ∧ spanB (putB (T : Int) (V : Int) v) u.r.f u.r.t = putB (T : Int) (V : Int) v := by
 obtain ⟨q, h1, h2, h3⟩ := headV_putB hr hf hl
 refine ⟨⟨⟨T, V, 0, q, (putB (T : Int) (V : Int) v).length⟩, k, run⟩, viewsV_one h1 (hs _ rfl rfl), rfl, rfl, h3, ?_⟩
 unfold spanB
 rw [List.take_length]
 rfl

theorem all_views : ∀ {cs : List (List UInt8)}, (∀ c ∈ cs, (viewsV fs c).2.2 = 0) → (viewsV fs cs.flatten).2.2 = 0
 | [], _ => by rw [List.flatten_nil, viewsV_nil]
 | c :: cs, h => by
   have ih := all_views (cs := cs) (fun d hd => h d (List.mem_cons_of_mem _ hd))
   rw [List.flatten_cons, viewsV_append (h c List.mem_cons_self), if_pos ih]

theorem all_words (f : FieldD) (i : Nat) : ∀ {cs : List (List UInt8)}, (∀ c ∈ cs, (viewsV fs c).2.2 = 0) →
  (viewsO (viewsV fs cs.flatten).1 i).flatMap (wordsO f cs.flatten) = cs.flatMap fun c => (viewsO (viewsV fs c).1 i).flatMap (wordsO f c)
 | [], _ => by
   rw [List.flatten_nil, viewsV_nil]
   rfl
 | c :: cs, h => by
   have ih := all_words f i (cs := cs) (fun d hd => h d (List.mem_cons_of_mem _ hd))
   rw [List.flatten_cons, both_words (h c List.mem_cons_self) (all_views (fun d hd => h d (List.mem_cons_of_mem _ hd))), ih, List.flatMap_cons]

theorem all_pieces (f : FieldD) (i : Nat) : ∀ {cs : List (List UInt8)}, (∀ c ∈ cs, (viewsV fs c).2.2 = 0) →
  (viewsO (viewsV fs cs.flatten).1 i).flatMap (piecesO f cs.flatten) = cs.flatMap fun c => (viewsO (viewsV fs c).1 i).flatMap (piecesO f c)
 | [], _ => by
   rw [List.flatten_nil, viewsV_nil]
   rfl
 | c :: cs, h => by
   have ih := all_pieces f i (cs := cs) (fun d hd => h d (List.mem_cons_of_mem _ hd))
   rw [List.flatten_cons, both_pieces (h c List.mem_cons_self) (all_views (fun d hd => h d (List.mem_cons_of_mem _ hd))), ih, List.flatMap_cons]

theorem all_own (i : Nat) : ∀ {cs : List (List UInt8)}, (∀ c ∈ cs, (viewsV fs c).2.2 = 0) → (viewsO (viewsV fs cs.flatten).1 i = [] ↔ ∀ c ∈ cs, viewsO (viewsV fs c).1 i = [])
 | [], _ => by
   rw [List.flatten_nil, viewsV_nil]
   simp [viewsO]
 | c :: cs, h => by
   have ih := all_own i (cs := cs) (fun d hd => h d (List.mem_cons_of_mem _ hd))
   rw [List.flatten_cons, both_own (h c List.mem_cons_self) (all_views (fun d hd => h d (List.mem_cons_of_mem _ hd))), List.append_eq_nil_iff, List.map_eq_nil_iff, ih]
   simp

theorem all_unk : ∀ {cs : List (List UInt8)}, (∀ c ∈ cs, (viewsV fs c).2.2 = 0) →
  (((viewsV fs cs.flatten).1.filter fun v => decide (v.field < 0)).map fun v => textO (spanB cs.flatten v.r.f v.r.t)) = cs.flatMap fun c => ((viewsV fs c).1.filter fun v => decide (v.field < 0)).map fun v => textO (spanB c v.r.f v.r.t)
 | [], _ => by
   rw [List.flatten_nil, viewsV_nil]
   rfl
 | c :: cs, h => by
   have ih := all_unk (cs := cs) (fun d hd => h d (List.mem_cons_of_mem _ hd))
   rw [List.flatten_cons, both_unk (h c List.mem_cons_self) (all_views (fun d hd => h d (List.mem_cons_of_mem _ hd))), ih, List.flatMap_cons]
end

def valueE (se : Nat → MsgT → List UInt8) (f : FieldD) (v : ValT) : List (List UInt8) :=
 if numberB f.kind = true then
  if f.rep = true then [putB f.number 2 (packW f.kind v.words)] else v.words.map fun w => putB f.number (wireI f.kind) (putS f.kind w)
 else (v.texts.map fun t => putB f.number 2 t.data.toList) ++ v.subs.map fun y => putB f.number 2 (se f.of_.toNat y)

def encC (se : Nat → MsgT → List UInt8) (S : List MsgD) (m : Nat) (x : MsgT) : List (List UInt8) := match S[m]? with
 | none => []
 | some M => (x.vals.flatMap fun v => match M.fields.find? (fun f => f.number == v.number) with
   | none => []
   | some f => valueE se f v) ++ x.unk.map fun t => t.data.toList

def encV (S : List MsgD) : Nat → Nat → MsgT → List UInt8
 | 0, m, x => (encC (fun _ _ => []) S m x).flatten
 | d + 1, m, x => (encC (encV S d) S m x).flatten

end Go.Proofs.YtnnphodgegcddaaGreat

/- Plain words of layers 14 and 16: right meanings, and that their bytes mean them. -/
namespace Go.Proofs.YtnnphodgegcddaaGreat
open Go.RowKit
open Go.Lib (uvarint)
set_option linter.unusedVariables false

def RightF (rs : Nat → MsgT → Prop) (f : FieldD) (v : ValT) : Prop :=
 v.number = f.number ∧ manyU v ≠ 0 ∧ (f.rep = false → manyU v = 1) ∧
  ((numberB f.kind = true ∧ v.texts = [] ∧ v.subs = [] ∧ ∀ w ∈ v.words, w < 18446744073709551616 ∧ canonN f.kind w = w) ∨
    (numberB f.kind = false ∧ kindB f.kind = true ∧ f.kind ≠ 17 ∧ v.words = [] ∧ v.subs = [] ∧ (f.kind = 15 → ∀ t ∈ v.texts, rightT t.data.toList = true)) ∨
    (f.kind = 17 ∧ v.words = [] ∧ v.texts = [] ∧ ∀ y ∈ v.subs, rs f.of_.toNat y))

def RightJ (rs : Nat → MsgT → Prop) (S : List MsgD) (m : Nat) (x : MsgT) : Prop := ∃ M, S[m]? = some M ∧ x.vals.Pairwise (fun u v => u.number < v.number) ∧
 (∀ v ∈ x.vals, ∃ (i : Nat) (f : FieldD), M.fields[i]? = some f ∧ RightF rs f v) ∧
 ∀ t ∈ x.unk, ∃ T V a, headV t.data.toList = (T, V, a, t.data.toList.length, 0) ∧ M.fields.find? (fun f => f.number == (T : Int)) = none

def RightV (S : List MsgD) : Nat → Nat → MsgT → Prop
 | 0 => RightJ (fun _ _ => False) S
 | d + 1 => RightJ (RightV S d) S

theorem vals_back {N : Nat → Int} : ∀ {F : List Nat}, F.Pairwise (fun i j => N i < N j) → ∀ {X : List ValT}, X.Pairwise (fun u v => u.number < v.number) → (∀ v ∈ X, ∃ i ∈ F, N i = v.number) → F.filterMap (fun i => X.find? (fun u => u.number == N i)) = X
 | [], _, X, _, h => by
   rcases X with _ | ⟨x, X⟩
   · rfl
   · obtain ⟨i, hi, _⟩ := h x List.mem_cons_self
     cases hi
 | i :: F, hp, X, hX, h => by
   rw [List.pairwise_cons] at hp
   rw [List.filterMap_cons]
   rcases X with _ | ⟨x, X⟩
   · simp
   · rw [List.pairwise_cons] at hX
     by_cases hx : N i = x.number
     · have h1 : (x :: X).find? (fun u => u.number == N i) = some x := List.find?_cons_of_pos (by simp [hx])
       rw [h1]
       simp only
       congr 1
       have ih := vals_back hp.2 hX.2 (fun v hv => by
        obtain ⟨k, hk, hkv⟩ := h v (List.mem_cons_of_mem _ hv)
        rcases List.mem_cons.1 hk with rfl | hk
        · have := hX.1 v hv
          omega
        · exact ⟨k, hk, hkv⟩)
       rw [← ih]
       refine filterMap_same fun k hk => ?_
       rw [List.find?_cons_of_neg, ih]
       have := hp.1 k hk
       simp
       omega
     · have hlt : N i < x.number := by
        obtain ⟨k, hk, hkv⟩ := h x List.mem_cons_self
        rcases List.mem_cons.1 hk with rfl | hk
        · exact absurd hkv hx
        · have := hp.1 k hk
          omega
       have h1 : (x :: X).find? (fun u => u.number == N i) = none := by
        rw [List.find?_eq_none]
        intro u hu
        rcases List.mem_cons.1 hu with rfl | hu
        · simp
          omega
        · have := hX.1 u hu
          simp
          omega
       rw [h1]
       simp only
       exact vals_back hp.2 (X := x :: X) (List.pairwise_cons.2 hX) (fun v hv => by
        obtain ⟨k, hk, hkv⟩ := h v hv
        rcases List.mem_cons.1 hk with rfl | hk
        · exfalso
          rcases List.mem_cons.1 hv with rfl | hv
          · exact hx hkv
          · have := hX.1 v hv
            omega
        · exact ⟨k, hk, hkv⟩)

section
variable {S : List MsgD} {m : Nat} {M : MsgD} {i : Nat} {f : FieldD} {se : Nat → MsgT → List UInt8} {v : ValT}

theorem seen_own (hR : rightS S = true) (hM : S[m]? = some M) (hf : M.fields[i]? = some f) {r : Rec} (hn : (r.n : Int) = f.number) :
  seenV M.fields r = if (f.rep && numberB f.kind && r.w == 2) = true then (⟨r, (i : Int), true⟩, 0) else if kindB f.kind = true ∧ wireI f.kind = (r.w : Int) then (⟨r, (i : Int), false⟩, 0) else (ViewD.zero, 6) := by
 refine seenV_some (h := ?_) hf
 rw [hn]
 exact (right_field hR hM hf).2

theorem right_number (hR : rightS S = true) (hM : S[m]? = some M) (hf : M.fields[i]? = some f) : (∃ T : Nat, f.number = (T : Int)) ∧ 1 ≤ f.number ∧ f.number ≤ 536870911 ∧ kindB f.kind = true := by
 obtain ⟨_, _, h3, _, h5, _⟩ := faultV_inv ((right_msg hR hM).2.2.2 i f hf)
 unfold usableB at h3
 simp only [Bool.and_eq_true, decide_eq_true_eq] at h3
 exact ⟨⟨f.number.toNat, by omega⟩, by omega, by omega, h5⟩

theorem words_pack {k : Int} {ws : List Nat} (hk : numberB k = true) (h : ∀ w ∈ ws, w < 18446744073709551616 ∧ canonN k w = w) : (wordsV k (packW k ws)).1 = ws := by
 have h1 := valsV_pack hk (ws := ws) (fun w hw => (h w hw).1)
 have h2 : codeV k (packW k ws) = 0 := codeV_fine (fun j x hx => by
  rw [h1, List.getElem?_map] at hx
  rcases hj : ws[j]? with _ | w
  · rw [hj] at hx
    cases hx
  · rw [hj] at hx
    cases hx
    rfl)
 unfold wordsV
 rw [if_pos h2, h1, List.map_map]
 have : ∀ l : List Nat, (∀ w ∈ l, w < 18446744073709551616 ∧ canonN k w = w) → l.map ((fun v : List UInt8 × Nat => (readS k v.1).1) ∘ fun x => (putS k x, 0)) = l := by
  intro l
  induction l with
  | nil => intro _; rfl
  | cons w l ih =>
    intro hl
    have hw := hl w List.mem_cons_self
    rw [List.map_cons, ih (fun q hq => hl q (List.mem_cons_of_mem _ hq))]
    congr 1
    show (readS k (putS k w)).1 = w
    rw [readS_put hk hw.1]
    exact hw.2
 exact this ws h

structure Chunk (fs : List FieldD) (i : Nat) (f : FieldD) (c : List UInt8) (ws : List Nat) (ps : List (List UInt8)) : Prop where
 ok : (viewsV fs c).2.2 = 0
 own : viewsO (viewsV fs c).1 i ≠ []
 other : ∀ k, k ≠ i → viewsO (viewsV fs c).1 k = []
 words : (viewsO (viewsV fs c).1 i).flatMap (wordsO f c) = ws
 pieces : (viewsO (viewsV fs c).1 i).flatMap (piecesO f c) = ps
 unk : ((viewsV fs c).1.filter fun v => decide (v.field < 0)) = []

theorem chunk_of {fs : List FieldD} {T V : Nat} {val : List UInt8} {run : Bool} (hr : rightB (T : Int) (V : Int) = true) (hf : fitsV (V : Int) val = true) (hl : val.length < 18446744073709551616)
  (hs : ∀ r : Rec, r.n = T → r.w = V → seenV fs r = (⟨r, (i : Int), run⟩, 0)) : Chunk fs i f (putB (T : Int) (V : Int) val) (wordsX f run val) (piecesX f run val) := by
 obtain ⟨u, h1, h2, h3, h4, _⟩ := viewsV_putB hr hf hl hs
 have hi : viewsO [u] i = [u] := by
  unfold viewsO
  simp [h2]
 refine ⟨by rw [h1], by rw [h1, hi]; simp, fun k hk => ?_, ?_, ?_, ?_⟩
 · rw [h1]
   unfold viewsO
   simp [h2]
   omega
 · rw [h1, hi, List.flatMap_singleton, wordsO_eq, h3, h4]
 · rw [h1, hi, List.flatMap_singleton, piecesO_eq, h3, h4]
 · rw [h1]
   simp [h2]

theorem rightB_of {T : Nat} {V : Int} (h1 : 1 ≤ (T : Int)) (h2 : (T : Int) ≤ 536870911) (h : V = 0 ∨ V = 1 ∨ V = 2 ∨ V = 5) : rightB (T : Int) V = true := by
 unfold rightB
 exact decide_eq_true ⟨h1, h2, h⟩

theorem chunk_run (hR : rightS S = true) (hM : S[m]? = some M) (hf : M.fields[i]? = some f) (hn : numberB f.kind = true) (hr : f.rep = true) {ws : List Nat} (hw : ∀ w ∈ ws, w < 18446744073709551616 ∧ canonN f.kind w = w) (hl : (packW f.kind ws).length < 18446744073709551616) :
  Chunk M.fields i f (putB f.number 2 (packW f.kind ws)) ws [] := by
 obtain ⟨⟨T, hT⟩, n1, n2, _⟩ := right_number hR hM hf
 have h := chunk_of (i := i) (f := f) (fs := M.fields) (T := T) (V := 2) (val := packW f.kind ws) (run := true) (rightB_of (by omega) (by omega) (by decide)) (fits_2 _) hl (fun r h1 h2 => by
  rw [seen_own hR hM hf (by rw [h1, hT]), hn, hr, h2]
  rfl)
 rw [hT]
 have e1 : wordsX f true (packW f.kind ws) = ws := by
  unfold wordsX
  rw [if_pos rfl]
  exact words_pack hn hw
 rw [e1] at h
 exact h

theorem wire_fits {k : Int} (hk : numberB k = true) {w : Nat} (hw : w < 18446744073709551616) : ∃ V : Nat, wireI k = (V : Int) ∧ ((V : Int) = 0 ∨ (V : Int) = 1 ∨ (V : Int) = 2 ∨ (V : Int) = 5) ∧ fitsV (V : Int) (putS k w) = true := by
 have hc := canonN_lt k hw
 have hk' := number_kind hk
 rcases number_three hk with ⟨h1, h2⟩ | ⟨h1, h9, h2⟩ | ⟨h1, h9, h2⟩
 · refine ⟨1, h2, by decide, ?_⟩
   rw [putS_12 h1]
   unfold fitsV
   refine decide_eq_true (.inr (.inl ⟨rfl, ?_⟩))
   simp [littleB_length]
 · refine ⟨5, h2, by decide, ?_⟩
   rw [putS_9 h1 h9]
   unfold fitsV
   refine decide_eq_true (.inr (.inr (.inl ⟨rfl, ?_⟩)))
   simp [littleB_length]
 · refine ⟨0, h2, by decide, ?_⟩
   rw [putS_0 h1 h9]
   have hv := readV_uvarint (canonN k w) [] hc
   rw [List.append_nil] at hv
   unfold fitsV
   refine decide_eq_true (.inl ⟨rfl, ?_, ?_⟩)
   · rw [hv]
   · rw [hv]

theorem chunk_word (hR : rightS S = true) (hM : S[m]? = some M) (hf : M.fields[i]? = some f) (hn : numberB f.kind = true) (hr : f.rep = false) {w : Nat} (hw : w < 18446744073709551616 ∧ canonN f.kind w = w) :
  Chunk M.fields i f (putB f.number (wireI f.kind) (putS f.kind w)) [w] [] := by
 obtain ⟨⟨T, hT⟩, n1, n2, hk⟩ := right_number hR hM hf
 obtain ⟨V, hV, hV2, hfit⟩ := wire_fits hn hw.1
 have hl := (putS_length (k := f.kind) hw.1).2
 have h := chunk_of (i := i) (f := f) (fs := M.fields) (T := T) (V := V) (val := putS f.kind w) (run := false) (rightB_of (by omega) (by omega) hV2) hfit (by omega) (fun r h1 h2 => by
  rw [seen_own hR hM hf (by rw [h1, hT]), hr]
  simp [hk, hV, h2])
 rw [hT, hV]
 have e1 : wordsX f false (putS f.kind w) = [w] := by
  unfold wordsX
  rw [hn, readS_put hn hw.1, hw.2]
  rfl
 have e2 : piecesX f false (putS f.kind w) = [] := by
  unfold piecesX
  rw [hn]
  rfl
 rw [e1, e2] at h
 exact h

theorem chunk_piece (hR : rightS S = true) (hM : S[m]? = some M) (hf : M.fields[i]? = some f) (hn : numberB f.kind = false) {val : List UInt8} (hl : val.length < 18446744073709551616) :
  Chunk M.fields i f (putB f.number 2 val) [] [val] := by
 obtain ⟨⟨T, hT⟩, n1, n2, hk⟩ := right_number hR hM hf
 have hw2 : wireI f.kind = 2 := by
  unfold kindB at hk
  have hk' := of_decide_eq_true hk
  unfold numberB at hn
  have hn' := of_decide_eq_false hn
  unfold wireI
  rw [if_neg (by omega), if_neg (by omega), if_neg (by omega)]
 have h := chunk_of (i := i) (f := f) (fs := M.fields) (T := T) (V := 2) (val := val) (run := false) (rightB_of (by omega) (by omega) (by decide)) (fits_2 _) hl (fun r h1 h2 => by
  rw [seen_own hR hM hf (by rw [h1, hT]), hn]
  simp [hk, hw2, h2])
 rw [hT]
 have e1 : wordsX f false val = [] := by
  unfold wordsX
  rw [hn]
  rfl
 have e2 : piecesX f false val = [val] := by
  unfold piecesX
  rw [hn]
  rfl
 rw [e1, e2] at h
 exact h

theorem putB_long (n w : Int) (v : List UInt8) : v.length ≤ (putB n w v).length := by
 unfold putB
 rw [List.length_append, List.length_append]
 omega

theorem value_chunks (hR : rightS S = true) (hM : S[m]? = some M) (hf : M.fields[i]? = some f) {rs : Nat → MsgT → Prop} (hv : RightF rs f v) (hl : ∀ c ∈ valueE se f v, c.length < 18446744073709551616) :
  (∀ c ∈ valueE se f v, ∃ ws ps, Chunk M.fields i f c ws ps) ∧ valueE se f v ≠ [] ∧
   ((valueE se f v).flatMap fun c => (viewsO (viewsV M.fields c).1 i).flatMap (wordsO f c)) = v.words ∧
   ((valueE se f v).flatMap fun c => (viewsO (viewsV M.fields c).1 i).flatMap (piecesO f c)) = (v.texts.map fun t => t.data.toList) ++ v.subs.map (se f.of_.toNat) := by
 obtain ⟨_, hm, h1, hk⟩ := hv
 rcases hn : numberB f.kind with _ | _
 · have hw : v.words = [] := by
    rcases hk with ⟨q, _⟩ | ⟨_, _, _, q, _⟩ | ⟨_, q, _⟩
    · rw [hn] at q
      cases q
    · exact q
    · exact q
   have hE : valueE se f v = ((v.texts.map fun t => t.data.toList) ++ v.subs.map (se f.of_.toNat)).map fun x => putB f.number 2 x := by
    unfold valueE
    rw [hn, List.map_append, List.map_map, List.map_map]
    rfl
   rw [hE] at hl ⊢
   generalize hps : (v.texts.map fun t => t.data.toList) ++ v.subs.map (se f.of_.toNat) = ps at *
   have hne : ps ≠ [] := by
    intro q
    rw [← hps, List.append_eq_nil_iff, List.map_eq_nil_iff, List.map_eq_nil_iff] at q
    apply hm
    unfold manyU
    rw [hw, q.1, q.2]
    rfl
   have hc : ∀ x ∈ ps, Chunk M.fields i f (putB f.number 2 x) [] [x] := fun x hx => by
    refine chunk_piece hR hM hf hn ?_
    have := hl _ (List.mem_map.2 ⟨x, hx, rfl⟩)
    have := putB_long f.number 2 x
    omega
   refine ⟨fun c h => ?_, by simpa using hne, ?_, ?_⟩
   · obtain ⟨x, hx, rfl⟩ := List.mem_map.1 h
     exact ⟨_, _, hc x hx⟩
   · rw [List.flatMap_map, hw, List.flatMap_eq_nil_iff]
     intro x hx
     exact (hc x hx).words
   · rw [List.flatMap_map]
     have : ∀ l : List (List UInt8), (∀ x ∈ l, Chunk M.fields i f (putB f.number 2 x) [] [x]) → (l.flatMap fun x => (viewsO (viewsV M.fields (putB f.number 2 x)).1 i).flatMap (piecesO f (putB f.number 2 x))) = l := by
      intro l
      induction l with
      | nil => intro _; rfl
      | cons x l ih =>
        intro h
        rw [List.flatMap_cons, (h x List.mem_cons_self).pieces, ih (fun y hy => h y (List.mem_cons_of_mem _ hy))]
        rfl
     exact this ps hc
 · obtain ⟨ht, hs, hw⟩ : v.texts = [] ∧ v.subs = [] ∧ ∀ w ∈ v.words, w < 18446744073709551616 ∧ canonN f.kind w = w := by
    rcases hk with ⟨_, q1, q2, q3⟩ | ⟨q, _⟩ | ⟨q, _⟩
    · exact ⟨q1, q2, q3⟩
    · rw [hn] at q
      cases q
    · exact absurd q (number_17 hn)
   have hwn : v.words ≠ [] := by
    intro q
    apply hm
    unfold manyU
    rw [q, ht, hs]
    rfl
   rw [ht, hs]
   rcases hr : f.rep with _ | _
   · have hE : valueE se f v = v.words.map fun w => putB f.number (wireI f.kind) (putS f.kind w) := by
      unfold valueE
      rw [hn, hr]
      rfl
     rw [hE]
     have hc : ∀ w ∈ v.words, Chunk M.fields i f (putB f.number (wireI f.kind) (putS f.kind w)) [w] [] := fun w hx => chunk_word hR hM hf hn hr (hw w hx)
     refine ⟨fun c h => ?_, by simpa using hwn, ?_, ?_⟩
     · obtain ⟨x, hx, rfl⟩ := List.mem_map.1 h
       exact ⟨_, _, hc x hx⟩
     · rw [List.flatMap_map]
       have : ∀ l : List Nat, (∀ w ∈ l, Chunk M.fields i f (putB f.number (wireI f.kind) (putS f.kind w)) [w] []) → (l.flatMap fun w => (viewsO (viewsV M.fields (putB f.number (wireI f.kind) (putS f.kind w))).1 i).flatMap (wordsO f (putB f.number (wireI f.kind) (putS f.kind w)))) = l := by
        intro l
        induction l with
        | nil => intro _; rfl
        | cons x l ih =>
          intro h
          rw [List.flatMap_cons, (h x List.mem_cons_self).words, ih (fun y hy => h y (List.mem_cons_of_mem _ hy))]
          rfl
       exact this _ hc
     · rw [List.flatMap_map]
       show _ = []
       rw [List.flatMap_eq_nil_iff]
       intro x hx
       exact (hc x hx).pieces
   · have hE : valueE se f v = [putB f.number 2 (packW f.kind v.words)] := by
      unfold valueE
      rw [hn, hr]
      rfl
     rw [hE] at hl ⊢
     have hc := chunk_run hR hM hf hn hr hw (by
      have := hl _ (List.mem_singleton.2 rfl)
      have := putB_long f.number 2 (packW f.kind v.words)
      omega)
     refine ⟨fun c h => ?_, by simp, ?_, ?_⟩
     · rw [List.mem_singleton] at h
       subst h
       exact ⟨_, _, hc⟩
     · rw [List.flatMap_singleton, hc.words]
     · rw [List.flatMap_singleton, hc.pieces]
       rfl

theorem unknown_chunk {fs : List FieldD} {t : ByteArray} (h : ∃ T V a, headV t.data.toList = (T, V, a, t.data.toList.length, 0) ∧ fs.find? (fun f => f.number == (T : Int)) = none) :
  (viewsV fs t.data.toList).2.2 = 0 ∧ (∀ k : Nat, viewsO (viewsV fs t.data.toList).1 k = []) ∧ (((viewsV fs t.data.toList).1.filter fun v => decide (v.field < 0)).map fun v => textO (spanB t.data.toList v.r.f v.r.t)) = [t] := by
 obtain ⟨T, V, a, h1, h2⟩ := h
 have hs : seenV fs ⟨T, V, 0, a, t.data.toList.length⟩ = (⟨⟨T, V, 0, a, t.data.toList.length⟩, -1, false⟩, 0) := by
  refine seenV_none ?_
  rcases idxB_cases (numP (T : Int)) fs with ⟨q, _⟩ | ⟨k, f, _, q2, q3, _⟩
  · exact q
  · rw [List.find?_eq_none] at h2
    have := h2 f (List.mem_of_getElem? q2)
    exact absurd q3 this
 have hv := viewsV_one h1 hs
 refine ⟨by rw [hv], fun k => ?_, ?_⟩
 · rw [hv]
   unfold viewsO
   simp
 · rw [hv]
   have e : spanB t.data.toList 0 t.data.toList.length = t.data.toList := by
    unfold spanB
    rw [List.take_length]
    rfl
   show [textO (spanB t.data.toList 0 t.data.toList.length)] = [t]
   rw [e]
   unfold textO
   rcases t with ⟨d⟩
   show [(⟨d.toList.toArray⟩ : ByteArray)] = [⟨d⟩]
   rw [Array.toArray_toList]

theorem flat_find {β : Type} {E : ValT → List (List UInt8)} {h : List UInt8 → List β} {val : ValT → List β} {n : Int} : ∀ {X : List ValT}, X.Pairwise (fun u v => u.number < v.number) →
  (∀ v ∈ X, (v.number = n → (E v).flatMap h = val v) ∧ (v.number ≠ n → (E v).flatMap h = [])) → (X.flatMap E).flatMap h = match X.find? (fun u => u.number == n) with
  | some v => val v
  | none => []
 | [], _, _ => rfl
 | v :: X, hX, hv => by
   rw [List.pairwise_cons] at hX
   have ih := flat_find (X := X) hX.2 (fun u hu => hv u (List.mem_cons_of_mem _ hu))
   rw [List.flatMap_cons, List.flatMap_append, ih]
   by_cases hn : v.number = n
   · rw [(hv v List.mem_cons_self).1 hn, List.find?_cons_of_pos (by simp [hn])]
     have : X.find? (fun u => u.number == n) = none := by
      rw [List.find?_eq_none]
      intro u hu
      have := hX.1 u hu
      simp
      omega
     rw [this]
     simp
   · rw [(hv v List.mem_cons_self).2 hn, List.find?_cons_of_neg (by simp [hn]), List.nil_append]

theorem enc_chunks (hR : rightS S = true) (hM : S[m]? = some M) {rs : Nat → MsgT → Prop} {x : MsgT} (hx : RightJ rs S m x) (hl : ∀ c ∈ encC se S m x, c.length < 18446744073709551616) :
  (∀ c ∈ encC se S m x, (viewsV M.fields c).2.2 = 0) ∧
   (∀ i f, M.fields[i]? = some f → ((encC se S m x).flatMap fun c => (viewsO (viewsV M.fields c).1 i).flatMap (wordsO f c)) = (match x.vals.find? (fun u => u.number == f.number) with
     | some v => v.words
     | none => []) ∧
    ((encC se S m x).flatMap fun c => (viewsO (viewsV M.fields c).1 i).flatMap (piecesO f c)) = (match x.vals.find? (fun u => u.number == f.number) with
      | some v => (v.texts.map fun t => t.data.toList) ++ v.subs.map (se f.of_.toNat)
      | none => []) ∧
    ((∀ c ∈ encC se S m x, viewsO (viewsV M.fields c).1 i = []) ↔ x.vals.find? (fun u => u.number == f.number) = none)) ∧
   ((encC se S m x).flatMap fun c => ((viewsV M.fields c).1.filter fun v => decide (v.field < 0)).map fun v => textO (spanB c v.r.f v.r.t)) = x.unk := by
 obtain ⟨M', hM', hp, hv, hu⟩ := hx
 rw [hM] at hM'
 cases hM'
 have hE : encC se S m x = (x.vals.flatMap fun v => match M.fields.find? (fun f => f.number == v.number) with
   | none => []
   | some f => valueE se f v) ++ x.unk.map fun t => t.data.toList := by
  unfold encC
  rw [hM]
 generalize hEv : (fun v : ValT => match M.fields.find? (fun f => f.number == v.number) with
   | none => []
   | some f => valueE se f v) = E at *
 have hfind : ∀ (i : Nat) (f : FieldD), M.fields[i]? = some f → M.fields.find? (fun g => g.number == f.number) = some f := fun i f hf =>
  (find_of_idx (p := fun g : FieldD => decide (g.number = f.number)) (l := M.fields)).2 i f (right_field hR hM hf).2 hf
 have hEat : ∀ v ∈ x.vals, ∃ (i : Nat) (f : FieldD), M.fields[i]? = some f ∧ RightF rs f v ∧ E v = valueE se f v := fun v hvm => by
  obtain ⟨i, f, hf, hr⟩ := hv v hvm
  refine ⟨i, f, hf, hr, ?_⟩
  rw [← hEv]
  simp only
  rw [hr.1, hfind i f hf]
 have hlE : ∀ v ∈ x.vals, ∀ c ∈ E v, c.length < 18446744073709551616 := fun v hvm c hc => hl c (by rw [hE]; exact List.mem_append_left _ (List.mem_flatMap.2 ⟨v, hvm, hc⟩))
 have hval : ∀ v ∈ x.vals, ∃ (i : Nat) (f : FieldD), M.fields[i]? = some f ∧ v.number = f.number ∧ (∀ c ∈ E v, ∃ ws ps, Chunk M.fields i f c ws ps) ∧ E v ≠ [] ∧
   ((E v).flatMap fun c => (viewsO (viewsV M.fields c).1 i).flatMap (wordsO f c)) = v.words ∧
   ((E v).flatMap fun c => (viewsO (viewsV M.fields c).1 i).flatMap (piecesO f c)) = (v.texts.map fun t => t.data.toList) ++ v.subs.map (se f.of_.toNat) := fun v hvm => by
  obtain ⟨i, f, hf, hr, he⟩ := hEat v hvm
  have hlv := hlE v hvm
  rw [he] at hlv ⊢
  obtain ⟨q1, q2, q3, q4⟩ := value_chunks hR hM hf hr hlv
  exact ⟨i, f, hf, hr.1, q1, q2, q3, q4⟩
 have hidx : ∀ {i j : Nat} {f g : FieldD}, M.fields[i]? = some f → M.fields[j]? = some g → f.number = g.number → i = j := fun {i j f g} h1 h2 h => by
  have e1 := (right_field hR hM h1).2
  have e2 := (right_field hR hM h2).2
  rw [h, e2] at e1
  omega
 have hunk := fun t ht => unknown_chunk (hu t ht)
 have hoth : ∀ v ∈ x.vals, ∀ (i : Nat) (f : FieldD), M.fields[i]? = some f → v.number ≠ f.number → ∀ c ∈ E v, viewsO (viewsV M.fields c).1 i = [] := fun v hvm i f hf hne c hc => by
  obtain ⟨j, g, hg, hn, hch, _⟩ := hval v hvm
  obtain ⟨ws, ps, hC⟩ := hch c hc
  refine hC.other i (fun e => ?_)
  subst e
  rw [hf] at hg
  cases hg
  exact hne hn
 have hsame : ∀ v ∈ x.vals, ∀ (i : Nat) (f : FieldD), M.fields[i]? = some f → v.number = f.number → (∀ c ∈ E v, ∃ ws ps, Chunk M.fields i f c ws ps) ∧ E v ≠ [] ∧
   ((E v).flatMap fun c => (viewsO (viewsV M.fields c).1 i).flatMap (wordsO f c)) = v.words ∧
   ((E v).flatMap fun c => (viewsO (viewsV M.fields c).1 i).flatMap (piecesO f c)) = (v.texts.map fun t => t.data.toList) ++ v.subs.map (se f.of_.toNat) := fun v hvm i f hf hn => by
  obtain ⟨j, g, hg, hn2, q⟩ := hval v hvm
  have hji : j = i := hidx hg hf (by omega)
  subst hji
  rw [hf] at hg
  cases hg
  exact q
 refine ⟨fun c hc => ?_, fun i f hf => ⟨?_, ?_, ?_⟩, ?_⟩
 · rw [hE] at hc
   rcases List.mem_append.1 hc with hc | hc
   · obtain ⟨v, hvm, hc⟩ := List.mem_flatMap.1 hc
     obtain ⟨j, g, _, _, hch, _⟩ := hval v hvm
     obtain ⟨ws, ps, hC⟩ := hch c hc
     exact hC.ok
   · obtain ⟨t, ht, rfl⟩ := List.mem_map.1 hc
     exact (hunk t ht).1
 · rw [hE, List.flatMap_append, flat_find (h := fun c => (viewsO (viewsV M.fields c).1 i).flatMap (wordsO f c)) (val := fun v => v.words) (n := f.number) hp (fun v hvm => ⟨fun hn => (hsame v hvm i f hf hn).2.2.1, fun hn => by
    rw [List.flatMap_eq_nil_iff]
    intro c hc
    rw [hoth v hvm i f hf hn c hc]
    rfl⟩)]
   have : (x.unk.map fun t => t.data.toList).flatMap (fun c => (viewsO (viewsV M.fields c).1 i).flatMap (wordsO f c)) = [] := by
    rw [List.flatMap_map, List.flatMap_eq_nil_iff]
    intro t ht
    rw [(hunk t ht).2.1 i]
    rfl
   rw [this, List.append_nil]
   rfl
 · rw [hE, List.flatMap_append, flat_find (h := fun c => (viewsO (viewsV M.fields c).1 i).flatMap (piecesO f c)) (val := fun v => (v.texts.map fun t => t.data.toList) ++ v.subs.map (se f.of_.toNat)) (n := f.number) hp (fun v hvm => ⟨fun hn => (hsame v hvm i f hf hn).2.2.2, fun hn => by
    rw [List.flatMap_eq_nil_iff]
    intro c hc
    rw [hoth v hvm i f hf hn c hc]
    rfl⟩)]
   have : (x.unk.map fun t => t.data.toList).flatMap (fun c => (viewsO (viewsV M.fields c).1 i).flatMap (piecesO f c)) = [] := by
    rw [List.flatMap_map, List.flatMap_eq_nil_iff]
    intro t ht
    rw [(hunk t ht).2.1 i]
    rfl
   rw [this, List.append_nil]
   rfl
 · constructor
   · intro h
     rw [List.find?_eq_none]
     intro v hvm hn
     have hn' : v.number = f.number := by simpa using hn
     obtain ⟨q1, q2, _⟩ := hsame v hvm i f hf hn'
     obtain ⟨c, l, hcl⟩ := List.exists_cons_of_ne_nil q2
     have hc : c ∈ E v := by rw [hcl]; exact List.mem_cons_self
     obtain ⟨ws, ps, hC⟩ := q1 c hc
     exact hC.own (h c (by rw [hE]; exact List.mem_append_left _ (List.mem_flatMap.2 ⟨v, hvm, hc⟩)))
   · intro h c hc
     rw [List.find?_eq_none] at h
     rw [hE] at hc
     rcases List.mem_append.1 hc with hc | hc
     · obtain ⟨v, hvm, hc⟩ := List.mem_flatMap.1 hc
       refine hoth v hvm i f hf (fun e => ?_) c hc
       exact h v hvm (by simp [e])
     · obtain ⟨t, ht, rfl⟩ := List.mem_map.1 hc
       exact (hunk t ht).2.1 i
 · rw [hE, List.flatMap_append]
   have h1 : (x.vals.flatMap E).flatMap (fun c => ((viewsV M.fields c).1.filter fun v => decide (v.field < 0)).map fun v => textO (spanB c v.r.f v.r.t)) = [] := by
    rw [List.flatMap_eq_nil_iff]
    intro c hc
    obtain ⟨v, hvm, hc⟩ := List.mem_flatMap.1 hc
    obtain ⟨j, g, _, _, hch, _⟩ := hval v hvm
    obtain ⟨ws, ps, hC⟩ := hch c hc
    rw [hC.unk]
    rfl
   rw [h1, List.nil_append, List.flatMap_map]
   have : ∀ l : List ByteArray, (∀ t ∈ l, t ∈ x.unk) → (l.flatMap fun t => ((viewsV M.fields t.data.toList).1.filter fun v => decide (v.field < 0)).map fun v => textO (spanB t.data.toList v.r.f v.r.t)) = l := by
    intro l
    induction l with
    | nil => intro _; rfl
    | cons t l ih =>
      intro h
      rw [List.flatMap_cons, (hunk t (h t List.mem_cons_self)).2.2, ih (fun u hu => h u (List.mem_cons_of_mem _ hu))]
      rfl
   exact this _ (fun t ht => ht)

theorem textO_back (t : ByteArray) : textO t.data.toList = t := by
 rcases t with ⟨d⟩
 show (⟨d.toList.toArray⟩ : ByteArray) = ⟨d⟩
 rw [Array.toArray_toList]

theorem lastO_one {α : Type} {l : List α} (h : l.length ≤ 1) : lastO l = l := by
 unfold lastO
 have : l.length - 1 = 0 := by omega
 rw [this]
 rfl

theorem value_back {rs : Nat → MsgT → Prop} {sub : Nat → List UInt8 → MsgT} (hv : RightF rs f v) (hsub : f.kind = 17 → v.subs.map (fun y => sub f.of_.toNat (se f.of_.toNat y)) = v.subs) :
  valueU sub f v.words ((v.texts.map fun t => t.data.toList) ++ v.subs.map (se f.of_.toNat)) = v := by
 obtain ⟨hn, hm, h1, hk⟩ := hv
 have hmany : manyU v = v.words.length + v.texts.length + v.subs.length := rfl
 have hw : pwordsO f v.words = v.words := by
  unfold pwordsO
  split
  · rfl
  · rename_i hr
    refine lastO_one ?_
    have := h1 (by simpa using hr)
    omega
 have hp : ppiecesO f ((v.texts.map fun t => t.data.toList) ++ v.subs.map (se f.of_.toNat)) = (v.texts.map fun t => t.data.toList) ++ v.subs.map (se f.of_.toNat) ∨ numberB f.kind = true := by
  rcases hk with ⟨q, _⟩ | ⟨_, _, h17, _, hs, _⟩ | ⟨h17, hw0, ht0, _⟩
  · exact .inr q
  · refine .inl ?_
    unfold ppiecesO
    split
    · rfl
    · rename_i hr
      refine lastO_one ?_
      have := h1 (by simpa using hr)
      rw [List.length_append, List.length_map, List.length_map]
      omega
  · refine .inl ?_
    unfold ppiecesO
    split
    · rfl
    · rename_i hr
      rw [ht0]
      have h2 := h1 (by simpa using hr)
      rw [hmany, hw0, ht0] at h2
      rcases hs : v.subs with _ | ⟨y, l⟩
      · rw [hs] at h2
        cases h2
      · rcases l with _ | ⟨z, l⟩
        · simp
        · rw [hs] at h2
          simp at h2
 obtain ⟨va, vb, vc, num, ws, ts, ss⟩ := v
 unfold valueU
 rw [hw]
 simp only at hn hk hsub hp ⊢
 rcases hk with ⟨q, ht, hs, _⟩ | ⟨q, _, h17, _, hs, _⟩ | ⟨h17, _, ht, _⟩
 · subst ht
   subst hs
   have h17 := number_17 q
   rw [if_neg h17, if_neg h17, hn]
   have : ppiecesO f ((([] : List ByteArray).map fun t => t.data.toList) ++ ([] : List MsgT).map (se f.of_.toNat)) = [] := by
    unfold ppiecesO
    split
    · rfl
    · rfl
   rw [this]
   rfl
 · subst hs
   have hp' := hp.resolve_right (by rw [q]; simp)
   rw [if_neg h17, if_neg h17, hp', hn]
   simp [textO_back, Function.comp_def]
 · subst ht
   have hp' := hp.resolve_right (by rw [h17]; decide)
   rw [if_pos h17, if_pos h17, hp', hn]
   simp only [List.map_nil, List.nil_append, List.map_map]
   rw [show (sub f.of_.toNat ∘ se f.of_.toNat) = fun y => sub f.of_.toNat (se f.of_.toNat y) from rfl, hsub h17]

theorem of_encJ (hR : rightS S = true) (hM : S[m]? = some M) {rs : Nat → MsgT → Prop} {sub : Nat → List UInt8 → MsgT} {x : MsgT} (hx : RightJ rs S m x) (hl : ∀ c ∈ encC se S m x, c.length < 18446744073709551616)
  (hsub : ∀ v ∈ x.vals, ∀ f : FieldD, f ∈ M.fields → v.number = f.number → f.kind = 17 → v.subs.map (fun y => sub f.of_.toNat (se f.of_.toNat y)) = v.subs) :
  ofM sub S m (encC se S m x).flatten = x := by
 obtain ⟨hok, hfld, hunk⟩ := enc_chunks hR hM hx hl
 obtain ⟨M', hM', hp, hv, _⟩ := hx
 rw [hM] at hM'
 cases hM'
 unfold ofM
 rw [hM]
 simp only
 rw [all_unk hok, hunk]
 have hvals : (sortK (keyF M.fields) M.fields.length).filterMap (placeO sub M.fields (encC se S m x).flatten (viewsV M.fields (encC se S m x).flatten).1) = x.vals := by
  have hback := vals_back (N := keyF M.fields) (right_sorted hR hM) hp (fun v hvm => by
   obtain ⟨i, f, hf, hr⟩ := hv v hvm
   exact ⟨i, sortK_mem.2 (List.getElem?_eq_some_iff.1 hf).1, by rw [keyF_at hf, hr.1]⟩)
  refine Eq.trans ?_ hback
  refine filterMap_same fun i hi => ?_
  obtain ⟨f, hf⟩ : ∃ f, M.fields[i]? = some f := ⟨_, List.getElem?_eq_getElem (sortK_mem.1 hi)⟩
  obtain ⟨h1, h2, h3⟩ := hfld i f hf
  rw [keyF_at hf]
  unfold placeO
  rw [hf]
  simp only
  rw [fieldO_eq, all_words f i hok, all_pieces f i hok, h1, h2]
  rcases hfind : x.vals.find? (fun u => u.number == f.number) with _ | v
  · rw [if_pos ((all_own i hok).2 (h3.2 hfind))]
    exact hfind.symm
  · rw [if_neg (fun q => by have := h3.1 ((all_own i hok).1 q); rw [hfind] at this; cases this)]
    have hvm := List.mem_of_find?_eq_some hfind
    have hnum : v.number = f.number := by have := List.find?_some hfind; simpa using this
    obtain ⟨j, g, hg, hr⟩ := hv v hvm
    have hgf : g = f := by
     have e1 := (right_field hR hM hg).2
     have e2 := (right_field hR hM hf).2
     have : g.number = f.number := by rw [← hr.1, hnum]
     rw [this, e2] at e1
     have hij : i = j := by omega
     subst hij
     rw [hf] at hg
     cases hg
     rfl
    subst hgf
    simp only [hfind]
    rw [value_back hr (fun h17 => hsub v hvm g (List.mem_of_getElem? hf) hnum h17), if_neg hr.2.1]
 rw [hvals]
 obtain ⟨a, b, vals, unk⟩ := x
 rfl
end

theorem mem_flatten_le {cs : List (List UInt8)} {c : List UInt8} (h : c ∈ cs) : c.length ≤ cs.flatten.length := by
 induction cs with
 | nil => cases h
 | cons d cs ih =>
   rw [List.flatten_cons, List.length_append]
   rcases List.mem_cons.1 h with rfl | h
   · omega
   · have := ih h
     omega

theorem sub_in {S : List MsgD} {m : Nat} {M : MsgD} {se : Nat → MsgT → List UInt8} (hR : rightS S = true) (hM : S[m]? = some M) {x : MsgT} {v : ValT} (hv : v ∈ x.vals) {f : FieldD} (hf : f ∈ M.fields) (hn : v.number = f.number) (h17 : f.kind = 17) {y : MsgT} (hy : y ∈ v.subs) : (se f.of_.toNat y).length ≤ (encC se S m x).flatten.length := by
 obtain ⟨i, hi⟩ := List.getElem?_of_mem hf
 have hfind : M.fields.find? (fun g => g.number == f.number) = some f := (find_of_idx (p := fun g : FieldD => decide (g.number = f.number)) (l := M.fields)).2 i f (right_field hR hM hi).2 hi
 have hc : putB f.number 2 (se f.of_.toNat y) ∈ encC se S m x := by
  unfold encC
  rw [hM]
  refine List.mem_append_left _ (List.mem_flatMap.2 ⟨v, hv, ?_⟩)
  rw [hn, hfind]
  simp only
  unfold valueE
  rw [if_neg (by rw [h17]; decide)]
  exact List.mem_append_right _ (List.mem_map.2 ⟨y, hy, rfl⟩)
 exact Nat.le_trans (putB_long _ _ _) (mem_flatten_le hc)

theorem of_enc {S : List MsgD} (hR : rightS S = true) : ∀ (d D m : Nat) (x : MsgT), RightV S d m x → (encV S d m x).length ≤ D → (encV S d m x).length < 18446744073709551616 → ofV S D m (encV S d m x) = x
 | 0, D, m, x, hx, hD, hl => by
   have hx' : RightJ (fun _ _ => False) S m x := hx
   obtain ⟨M, hM, _, hv, _⟩ := id hx'
   have e : encV S 0 m x = (encC (fun _ _ => []) S m x).flatten := by rw [encV]
   rw [e] at hD hl ⊢
   rw [ofV_fuel S D (D + 1) m _ hD (by omega)]
   refine of_encJ hR hM hx' (fun c hc => Nat.lt_of_le_of_lt (mem_flatten_le hc) hl) (fun v hvm f hf hn h17 => ?_)
   obtain ⟨i, g, hg, hr⟩ := hv v hvm
   have : v.subs = [] := by
    rcases hr.2.2.2 with ⟨_, _, q, _⟩ | ⟨_, _, _, _, q, _⟩ | ⟨_, _, _, q⟩
    · exact q
    · exact q
    · rcases hs : v.subs with _ | ⟨y, l⟩
      · rfl
      · exact (q y (by rw [hs]; exact List.mem_cons_self)).elim
   rw [this]
   rfl
 | d + 1, D, m, x, hx, hD, hl => by
   have hx' : RightJ (RightV S d) S m x := hx
   obtain ⟨M, hM, _, hv, _⟩ := id hx'
   have e : encV S (d + 1) m x = (encC (encV S d) S m x).flatten := by rw [encV]
   rw [e] at hD hl ⊢
   rw [ofV_fuel S D (D + 1) m _ hD (by omega)]
   refine of_encJ hR hM hx' (fun c hc => Nat.lt_of_le_of_lt (mem_flatten_le hc) hl) (fun v hvm f hf hn h17 => ?_)
   obtain ⟨i, g, hg, hr⟩ := hv v hvm
   obtain ⟨j, hj⟩ := List.getElem?_of_mem hf
   have hgf : g = f := by
    have e1 := (right_field hR hM hg).2
    have e2 := (right_field hR hM hj).2
    have : g.number = f.number := by rw [← hr.1, hn]
    rw [this, e2] at e1
    have hij : j = i := by omega
    subst hij
    rw [hj] at hg
    cases hg
    rfl
   subst hgf
   have hrs : ∀ y ∈ v.subs, RightV S d g.of_.toNat y := by
    rcases hr.2.2.2 with ⟨_, _, q, _⟩ | ⟨_, _, _, _, q, _⟩ | ⟨_, _, _, q⟩
    · rw [q]
      intro y hy
      cases hy
    · rw [q]
      intro y hy
      cases hy
    · exact q
   have hall : ∀ l : List MsgT, (∀ y ∈ l, y ∈ v.subs) → l.map (fun y => ofV S D g.of_.toNat (encV S d g.of_.toNat y)) = l := by
    intro l
    induction l with
    | nil => intro _; rfl
    | cons y l ih =>
      intro h
      have hy := h y List.mem_cons_self
      have hin := sub_in (se := encV S d) hR hM hvm hf hn h17 hy
      rw [List.map_cons, ih (fun z hz => h z (List.mem_cons_of_mem _ hz)), of_enc hR d D _ y (hrs y hy) (by omega) (by omega)]
   exact hall _ (fun y hy => hy)

end Go.Proofs.YtnnphodgegcddaaGreat

/- Plain words of layers 14 and 16: what valid bytes mean is right. -/
namespace Go.Proofs.YtnnphodgegcddaaGreat
open Go.RowKit
set_option linter.unusedVariables false

section
variable {S : List MsgD} {m : Nat} {M : MsgD} {fs : List FieldD} {bs : List UInt8} {i : Nat} {f : FieldD} {sub : Nat → List UInt8 → MsgT}

theorem words_canon (f : FieldD) (bs : List UInt8) (v : ViewD) : ∀ w ∈ wordsO f bs v, w < 18446744073709551616 ∧ canonN f.kind w = w := by
 intro w hw
 unfold wordsO at hw
 split at hw
 · unfold wordsV at hw
   split at hw
   · obtain ⟨x, _, rfl⟩ := List.mem_map.1 hw
     exact ⟨(readS_bd f.kind x.1).1, readS_canon f.kind x.1⟩
   · cases hw
 · split at hw
   · rw [List.mem_singleton] at hw
     subst hw
     exact ⟨(readS_bd f.kind (valueO bs v)).1, readS_canon f.kind (valueO bs v)⟩
   · cases hw

theorem pwords_mem {f : FieldD} {ws : List Nat} {w : Nat} (h : w ∈ pwordsO f ws) : w ∈ ws := by
 unfold pwordsO at h
 split at h
 · exact h
 · exact lastO_mem h

theorem unknown_right {v : ViewD} (hv : v ∈ (viewsV fs bs).1) (hn : v.field < 0) : ∃ T V a, headV (textO (spanB bs v.r.f v.r.t)).data.toList = (T, V, a, (textO (spanB bs v.r.f v.r.t)).data.toList.length, 0) ∧ fs.find? (fun f => f.number == (T : Int)) = none := by
 obtain ⟨h1, h2⟩ := viewsV_each fs bs v hv
 have hh := span_head h1
 refine ⟨v.r.n, v.r.w, v.r.a - v.r.f, hh, ?_⟩
 rcases seenV_find fs v.r with ⟨q, _⟩ | ⟨k, f, q1, q2, q3, q4, q5⟩
 · exact q
 · rw [q5] at h2
   exfalso
   split at h2
   · injection h2 with h2 _
     rw [← h2] at hn
     simp at hn
     omega
   · split at h2
     · injection h2 with h2 _
       rw [← h2] at hn
       simp at hn
       omega
     · injection h2 with _ h2
       cases h2

theorem place_right (hM : S[m]? = some M) {d : Nat} (hb : (firstV S d m bs).2 = 0) {rs : Nat → MsgT → Prop} {u : ValT} (hu : placeO sub M.fields bs (viewsV M.fields bs).1 i = some u)
  (hrs : ∀ (f : FieldD), M.fields[i]? = some f → f.kind = 17 → ∀ x : List UInt8, x.length + 1 ≤ bs.length → (∀ e, d = e + 1 → (firstV S e f.of_.toNat x).2 = 0) → d ≠ 0 → rs f.of_.toNat (sub f.of_.toNat x)) :
  ∃ f, M.fields[i]? = some f ∧ RightF rs f u := by
 rw [firstV_eq, checkM_valid hM] at hb
 obtain ⟨f, hf, hne, rfl, hm⟩ := place_some hu
 have hsmall : ∀ x ∈ ppiecesO f ((viewsO (viewsV M.fields bs).1 i).flatMap (piecesO f bs)), x.length + 1 ≤ bs.length := fun x hx => by
  rw [ppieces_eq] at hx
  exact fpiece_small hf hne hx
 have hthings := own_things hf hne
 have hkb : kindB f.kind = true := by
  obtain ⟨v, l, hl⟩ := List.exists_cons_of_ne_nil hne
  have hv : v ∈ viewsO (viewsV M.fields bs).1 i := by rw [hl]; exact List.mem_cons_self
  rcases own_view (own_bd hv).1 (own_bd hv).2.1 hf with ⟨_, _, q⟩ | ⟨_, q⟩
  · unfold numberB at q
    have := of_decide_eq_true q
    unfold kindB
    exact decide_eq_true (by omega)
  · exact q
 refine ⟨f, hf, rfl, hm, fun hr => ?_, ?_⟩
 · have h1 := manyU_value (sub := sub) f ((viewsO (viewsV M.fields bs).1 i).flatMap (wordsO f bs)) ((viewsO (viewsV M.fields bs).1 i).flatMap (piecesO f bs))
   have hw1 : (pwordsO f ((viewsO (viewsV M.fields bs).1 i).flatMap (wordsO f bs))).length ≤ 1 := by
    unfold pwordsO
    rw [if_neg (by simp [hr])]
    exact lastO_length _
   rcases hthings with ⟨q, hp, _⟩ | ⟨q, hw, _⟩
   · have : (ppiecesO f ((viewsO (viewsV M.fields bs).1 i).flatMap (piecesO f bs))).length = 0 := by
      rw [hp]
      unfold ppiecesO
      rw [if_neg (by simp [hr]), if_neg (number_17 q)]
      rfl
     omega
   · have h2 : (pwordsO f ((viewsO (viewsV M.fields bs).1 i).flatMap (wordsO f bs))).length = 0 := by
      rw [hw]
      unfold pwordsO
      rw [if_neg (by simp [hr])]
      rfl
     have h3 : (ppiecesO f ((viewsO (viewsV M.fields bs).1 i).flatMap (piecesO f bs))).length ≤ 1 := by
      unfold ppiecesO
      rw [if_neg (by simp [hr])]
      split
      · simp
      · exact lastO_length _
     omega
 · have hown : ∀ v ∈ viewsO (viewsV M.fields bs).1 i, numberB f.kind = false → v.run = false := fun v hv hn => by
    rcases own_view (own_bd hv).1 (own_bd hv).2.1 hf with ⟨_, _, q⟩ | ⟨q, _⟩
    · rw [hn] at q
      cases q
    · exact q
   rcases hthings with ⟨q, hp, _⟩ | ⟨q, hw, _⟩
   · refine .inl ⟨q, ?_, ?_, fun w hw => ?_⟩
     · unfold valueU
       rw [hp]
       show (if f.kind = 17 then [] else (ppiecesO f []).map textO) = []
       rw [if_neg (number_17 q)]
       unfold ppiecesO
       split
       · rfl
       · rw [if_neg (number_17 q)]
         rfl
     · unfold valueU
       show (if f.kind = 17 then _ else []) = []
       rw [if_neg (number_17 q)]
     · obtain ⟨v, _, hv⟩ := List.mem_flatMap.1 (pwords_mem hw)
       exact words_canon f bs v w hv
   · have hw0 : (valueU sub f ((viewsO (viewsV M.fields bs).1 i).flatMap (wordsO f bs)) ((viewsO (viewsV M.fields bs).1 i).flatMap (piecesO f bs))).words = [] := by
      unfold valueU
      rw [hw]
      show pwordsO f [] = []
      unfold pwordsO
      split <;> rfl
     by_cases h17 : f.kind = 17
     · refine .inr (.inr ⟨h17, hw0, ?_, fun y hy => ?_⟩)
       · unfold valueU
         show (if f.kind = 17 then [] else _) = []
         rw [if_pos h17]
       · have hy' : y ∈ (if f.kind = 17 then (ppiecesO f ((viewsO (viewsV M.fields bs).1 i).flatMap (piecesO f bs))).map (sub f.of_.toNat) else []) := hy
         rw [if_pos h17] at hy'
         obtain ⟨x, hx, rfl⟩ := List.mem_map.1 hy'
         have hd0 : d ≠ 0 := by
          rintro rfl
          obtain ⟨v, l, hl⟩ := List.exists_cons_of_ne_nil hne
          have hv : v ∈ viewsO (viewsV M.fields bs).1 i := by rw [hl]; exact List.mem_cons_self
          have h1 := (valueC_sub (S := S) (d := 0) (bs := bs) (own_bd hv).2.1 hf (hown v hv q) h17).1 rfl
          have h2 := hb.2 v (own_bd hv).1
          rw [h1] at h2
          cases h2
         refine hrs f hf h17 x (hsmall x hx) (fun e he => ?_) hd0
         subst he
         have hval : ∀ v ∈ viewsO (viewsV M.fields bs).1 i, v.run = false ∧ (firstV S e f.of_.toNat (valueO bs v)).2 = 0 := fun v hv => by
          refine ⟨hown v hv q, ?_⟩
          have h1 := (valueC_sub (S := S) (d := e + 1) (bs := bs) (own_bd hv).2.1 hf (hown v hv q) h17).2 e rfl
          have h2 := hb.2 v (own_bd hv).1
          rw [h1.1] at h2
          exact h2
         unfold ppiecesO at hx
         split at hx
         · obtain ⟨v, hv, hxv⟩ := List.mem_flatMap.1 hx
           unfold piecesO at hxv
           rw [(hval v hv).1, q] at hxv
           have hxv : x ∈ [valueO bs v] := hxv
           rw [List.mem_singleton] at hxv
           subst hxv
           exact (hval v hv).2
         · rw [List.mem_singleton] at hx
           subst hx
           exact pieces_valid hval q
     · refine .inr (.inl ⟨q, hkb, h17, hw0, ?_, fun h15 t ht => ?_⟩)
       · unfold valueU
         show (if f.kind = 17 then _ else []) = []
         rw [if_neg h17]
       · have ht' : t ∈ (if f.kind = 17 then [] else (ppiecesO f ((viewsO (viewsV M.fields bs).1 i).flatMap (piecesO f bs))).map textO) := ht
         rw [if_neg h17] at ht'
         obtain ⟨x, hx, rfl⟩ := List.mem_map.1 ht'
         have hx2 : x ∈ (viewsO (viewsV M.fields bs).1 i).flatMap (piecesO f bs) := by
          unfold ppiecesO at hx
          split at hx
          · exact hx
          · exact lastO_mem hx
         obtain ⟨v, hv, hxv⟩ := List.mem_flatMap.1 hx2
         have hr := hown v hv q
         unfold piecesO at hxv
         rw [hr, q] at hxv
         have hxv : x ∈ [valueO bs v] := hxv
         rw [List.mem_singleton] at hxv
         subst hxv
         have h1 := (valueC_text (subC S d) none (bs := bs) (own_bd hv).2.1 hf hr h15).1
         have h2 := hb.2 v (own_bd hv).1
         rw [h1] at h2
         show rightT (valueO bs v) = true
         by_cases hT : rightT (spanB bs v.r.a v.r.t) = true
         · exact hT
         · simp [hT] at h2
end

theorem right_step {S : List MsgD} (hR : rightS S = true) {d D m : Nat} {M : MsgD} {bs : List UInt8} (hM : S[m]? = some M) (hb : (firstV S d m bs).2 = 0) (rs : Nat → MsgT → Prop)
  (hrs : ∀ (i : Nat) (f : FieldD), M.fields[i]? = some f → f.kind = 17 → ∀ x : List UInt8, x.length + 1 ≤ bs.length → (∀ e, d = e + 1 → (firstV S e f.of_.toNat x).2 = 0) → d ≠ 0 → rs f.of_.toNat (ofV S D f.of_.toNat x)) : RightJ rs S m (ofV S (D + 1) m bs) := by
 refine ⟨M, hM, ?_, fun v hv => ?_, fun t ht => ?_⟩
 · show (ofM (ofV S D) S m bs).vals.Pairwise _
   unfold ofM
   rw [hM]
   show List.Pairwise _ ((sortK (keyF M.fields) M.fields.length).filterMap _)
   rw [List.pairwise_filterMap]
   refine (right_sorted hR hM).imp (fun {a b} hab u hu v hv => ?_)
   rw [(place_number hu).1, (place_number hv).1]
   exact hab
 · have hv' : v ∈ (sortK (keyF M.fields) M.fields.length).filterMap (placeO (ofV S D) M.fields bs (viewsV M.fields bs).1) := by
    have : v ∈ (ofM (ofV S D) S m bs).vals := hv
    unfold ofM at this
    rw [hM] at this
    exact this
   obtain ⟨i, _, hi⟩ := List.mem_filterMap.1 hv'
   obtain ⟨f, hf, hr⟩ := place_right (rs := rs) hM hb hi (fun f hf h17 x hx he hd => hrs i f hf h17 x hx he hd)
   exact ⟨i, f, hf, hr⟩
 · have ht' : t ∈ (((viewsV M.fields bs).1.filter fun v => decide (v.field < 0)).map fun v => textO (spanB bs v.r.f v.r.t)) := by
    have : t ∈ (ofM (ofV S D) S m bs).unk := ht
    unfold ofM at this
    rw [hM] at this
    exact this
   obtain ⟨v, hv, rfl⟩ := List.mem_map.1 ht'
   exact unknown_right (List.mem_filter.1 hv).1 (by simpa using (List.mem_filter.1 hv).2)

theorem of_right {S : List MsgD} (hR : rightS S = true) : ∀ (d D m : Nat) (bs : List UInt8), m < S.length → (firstV S d m bs).2 = 0 → bs.length ≤ D → RightV S d m (ofV S D m bs)
 | 0, D, m, bs, hm, hb, hD => by
   obtain ⟨M, hM⟩ : ∃ M, S[m]? = some M := ⟨_, List.getElem?_eq_getElem hm⟩
   rw [ofV_fuel S D (D + 1) m bs hD (by omega)]
   exact right_step hR hM hb _ (fun i f hf h17 x hx he hd => absurd rfl hd)
 | e + 1, D, m, bs, hm, hb, hD => by
   obtain ⟨M, hM⟩ : ∃ M, S[m]? = some M := ⟨_, List.getElem?_eq_getElem hm⟩
   rw [ofV_fuel S D (D + 1) m bs hD (by omega)]
   refine right_step hR hM hb _ (fun i f hf h17 x hx he _ => ?_)
   obtain ⟨o, ho1, ho2⟩ := right_of hR hM hf h17
   have hno : f.of_.toNat = o := by rw [ho1]; rfl
   have h0 := he e rfl
   rw [hno] at h0 ⊢
   exact of_right hR e D o x ho2 h0 (by omega)

end Go.Proofs.YtnnphodgegcddaaGreat

/- Plain words of layers 14 and 16: a right meaning's bytes are valid. -/
namespace Go.Proofs.YtnnphodgegcddaaGreat
open Go.RowKit
set_option linter.unusedVariables false

theorem flat_valid {S : List MsgD} {d m : Nat} : ∀ {cs : List (List UInt8)}, (∀ c ∈ cs, (firstV S d m c).2 = 0) → (firstV S d m cs.flatten).2 = 0
 | [], _ => by
   rw [List.flatten_nil]
   exact firstV_nil S d m
 | c :: cs, h => by
   rw [List.flatten_cons]
   exact (firstV_append _ (h c List.mem_cons_self)).1.2 (flat_valid (cs := cs) (fun e he => h e (List.mem_cons_of_mem _ he)))

theorem putB_valid {S : List MsgD} {d m : Nat} {M : MsgD} (hM : S[m]? = some M) {T V : Nat} {val : List UInt8} {k : Int} {run : Bool} (hr : rightB (T : Int) (V : Int) = true) (hf : fitsV (V : Int) val = true) (hl : val.length < 18446744073709551616)
  (hs : ∀ r : Rec, r.n = T → r.w = V → seenV M.fields r = (⟨r, k, run⟩, 0)) (hv : ∀ (c : List UInt8) (u : ViewD), u.field = k → u.run = run → valueO c u = val → (valueC (subC S d) M.fields c u).2 = 0) : (firstV S d m (putB (T : Int) (V : Int) val)).2 = 0 := by
 obtain ⟨u, h1, h2, h3, h4, _⟩ := viewsV_putB hr hf hl hs
 rw [firstV_eq, checkM_valid hM, h1]
 refine ⟨rfl, fun w hw => ?_⟩
 rw [List.mem_singleton] at hw
 subst hw
 exact hv _ _ h2 h3 h4

theorem code_pack {k : Int} {ws : List Nat} (hk : numberB k = true) (h : ∀ w ∈ ws, w < 18446744073709551616 ∧ canonN k w = w) : codeV k (packW k ws) = 0 := by
 have h1 := valsV_pack hk (ws := ws) (fun w hw => (h w hw).1)
 refine codeV_fine (fun j x hx => ?_)
 rw [h1, List.getElem?_map] at hx
 rcases hj : ws[j]? with _ | w
 · rw [hj] at hx
   cases hx
 · rw [hj] at hx
   cases hx
   rfl

theorem value_valid {S : List MsgD} {d m : Nat} {M : MsgD} {i : Nat} {f : FieldD} {v : ValT} {se : Nat → MsgT → List UInt8} {rs : Nat → MsgT → Prop} (hR : rightS S = true) (hM : S[m]? = some M) (hf : M.fields[i]? = some f) (hv : RightF rs f v) (hl : ∀ c ∈ valueE se f v, c.length < 18446744073709551616)
  (hsub : f.kind = 17 → ∀ y ∈ v.subs, ∃ e, d = e + 1 ∧ (firstV S e f.of_.toNat (se f.of_.toNat y)).2 = 0) : ∀ c ∈ valueE se f v, (firstV S d m c).2 = 0 := by
 obtain ⟨⟨T, hT⟩, n1, n2, hkb⟩ := right_number hR hM hf
 obtain ⟨_, hm, h1, hk⟩ := hv
 have hr2 : rightB (T : Int) ((2 : Nat) : Int) = true := rightB_of (by omega) (by omega) (by decide)
 intro c hc
 have hlc := hl c hc
 rcases hn : numberB f.kind with _ | _
 · have hw2 : wireI f.kind = 2 := by
    unfold kindB at hkb
    have hk' := of_decide_eq_true hkb
    unfold numberB at hn
    have hn' := of_decide_eq_false hn
    unfold wireI
    rw [if_neg (by omega), if_neg (by omega), if_neg (by omega)]
   have hs : ∀ r : Rec, r.n = T → r.w = 2 → seenV M.fields r = (⟨r, (i : Int), false⟩, 0) := fun r h1 h2 => by
    rw [seen_own hR hM hf (by rw [h1, hT]), hn]
    simp [hkb, hw2, h2]
   unfold valueE at hc
   rw [hn] at hc
   have hc : c ∈ (v.texts.map fun t => putB f.number 2 t.data.toList) ++ v.subs.map fun y => putB f.number 2 (se f.of_.toNat y) := hc
   rcases List.mem_append.1 hc with hc | hc
   · obtain ⟨t, ht, rfl⟩ := List.mem_map.1 hc
     have := putB_long f.number 2 t.data.toList
     rw [hT]
     refine putB_valid hM hr2 (fits_2 _) (by omega) hs (fun c u h1 h2 h3 => ?_)
     rcases hk with ⟨q, _⟩ | ⟨_, _, h17, _, _, h15⟩ | ⟨_, _, q, _⟩
     · rw [hn] at q
       cases q
     · by_cases k15 : f.kind = 15
       · rw [(valueC_text (subC S d) none h1 hf h2 k15).1]
         have := h15 k15 t ht
         rw [← h3] at this
         have this : rightT (spanB c u.r.a u.r.t) = true := this
         simp [this]
       · rw [(valueC_other (subC S d) none h1 hf h2 k15 h17).1]
     · rw [q] at ht
       cases ht
   · obtain ⟨y, hy, rfl⟩ := List.mem_map.1 hc
     have := putB_long f.number 2 (se f.of_.toNat y)
     have h17 : f.kind = 17 := by
      rcases hk with ⟨q, _⟩ | ⟨_, _, _, _, q, _⟩ | ⟨q, _⟩
      · rw [hn] at q
        cases q
      · rw [q] at hy
        cases hy
      · exact q
     obtain ⟨e, rfl, he⟩ := hsub h17 y hy
     rw [hT]
     refine putB_valid hM hr2 (fits_2 _) (by omega) hs (fun c u h1 h2 h3 => ?_)
     rw [((valueC_sub (S := S) (d := e + 1) (bs := c) h1 hf h2 h17).2 e rfl).1]
     show (firstV S e f.of_.toNat (valueO c u)).2 = 0
     rw [h3]
     exact he
 · have hw : ∀ w ∈ v.words, w < 18446744073709551616 ∧ canonN f.kind w = w := by
    rcases hk with ⟨_, _, _, q⟩ | ⟨q, _⟩ | ⟨q, _⟩
    · exact q
    · rw [hn] at q
      cases q
    · exact absurd q (number_17 hn)
   have h15 : ¬ f.kind = 15 := by
    intro q
    rw [q] at hn
    cases hn
   unfold valueE at hc
   rw [hn] at hc
   rcases hr : f.rep with _ | _
   · rw [hr] at hc
     have hc : c ∈ v.words.map fun w => putB f.number (wireI f.kind) (putS f.kind w) := hc
     obtain ⟨w, hwm, rfl⟩ := List.mem_map.1 hc
     obtain ⟨V, hV, hV2, hfit⟩ := wire_fits hn (hw w hwm).1
     have := (putS_length (k := f.kind) (hw w hwm).1).2
     rw [hT, hV]
     refine putB_valid (k := (i : Int)) (run := false) hM (rightB_of (by omega) (by omega) hV2) hfit (by omega) (fun r h1 h2 => ?_) (fun c u h1 h2 h3 => ?_)
     · rw [seen_own hR hM hf (by rw [h1, hT]), hr]
       simp [hkb, hV, h2]
     · rw [(valueC_other (subC S d) none h1 hf h2 h15 (number_17 hn)).1]
   · rw [hr] at hc
     have hc : c ∈ [putB f.number 2 (packW f.kind v.words)] := hc
     rw [List.mem_singleton] at hc
     subst hc
     have := putB_long f.number 2 (packW f.kind v.words)
     rw [hT]
     refine putB_valid (k := (i : Int)) (run := true) hM hr2 (fits_2 _) (by omega) (fun r h1 h2 => ?_) (fun c u h1 h2 h3 => ?_)
     · rw [seen_own hR hM hf (by rw [h1, hT]), hn, hr, h2]
       rfl
     · rw [(valueC_run (subC S d) none h1 hf h2).1]
       show codeV f.kind (valueO c u) = 0
       rw [h3]
       exact code_pack hn hw

theorem unknown_valid {S : List MsgD} {d m : Nat} {M : MsgD} (hM : S[m]? = some M) {t : List UInt8} (h : ∃ T V a, headV t = (T, V, a, t.length, 0) ∧ M.fields.find? (fun f => f.number == (T : Int)) = none) : (firstV S d m t).2 = 0 := by
 obtain ⟨T, V, a, h1, h2⟩ := h
 have hs : seenV M.fields ⟨T, V, 0, a, t.length⟩ = (⟨⟨T, V, 0, a, t.length⟩, -1, false⟩, 0) := by
  refine seenV_none ?_
  rcases idxB_cases (numP (T : Int)) M.fields with ⟨q, _⟩ | ⟨k, f, _, q2, q3, _⟩
  · exact q
  · rw [List.find?_eq_none] at h2
    exact absurd q3 (h2 f (List.mem_of_getElem? q2))
 rw [firstV_eq, checkM_valid hM, viewsV_one h1 hs]
 refine ⟨rfl, fun w hw => ?_⟩
 rw [List.mem_singleton] at hw
 subst hw
 rw [(valueC_no (subC S d) none rfl).1]

theorem enc_validJ {S : List MsgD} {d m : Nat} {M : MsgD} {se : Nat → MsgT → List UInt8} {rs : Nat → MsgT → Prop} (hR : rightS S = true) (hM : S[m]? = some M) {x : MsgT} (hx : RightJ rs S m x) (hl : (encC se S m x).flatten.length < 18446744073709551616)
  (hsub : ∀ v ∈ x.vals, ∀ f : FieldD, f ∈ M.fields → v.number = f.number → f.kind = 17 → ∀ y ∈ v.subs, rs f.of_.toNat y → ∃ e, d = e + 1 ∧ (firstV S e f.of_.toNat (se f.of_.toNat y)).2 = 0) : (firstV S d m (encC se S m x).flatten).2 = 0 := by
 obtain ⟨M', hM', _, hv, hu⟩ := hx
 rw [hM] at hM'
 cases hM'
 refine flat_valid fun c hc => ?_
 have hcl := Nat.lt_of_le_of_lt (mem_flatten_le hc) hl
 have hmem : ∀ c' ∈ encC se S m x, c'.length < 18446744073709551616 := fun c' hc' => Nat.lt_of_le_of_lt (mem_flatten_le hc') hl
 unfold encC at hc hmem
 rw [hM] at hc hmem
 rcases List.mem_append.1 hc with hc | hc
 · obtain ⟨v, hvm, hc⟩ := List.mem_flatMap.1 hc
   obtain ⟨i, f, hf, hr⟩ := hv v hvm
   have hfind : M.fields.find? (fun g => g.number == v.number) = some f := by
    rw [hr.1]
    exact (find_of_idx (p := fun g : FieldD => decide (g.number = f.number)) (l := M.fields)).2 i f (right_field hR hM hf).2 hf
   rw [hfind] at hc
   refine value_valid hR hM hf hr (fun c' hc' => hmem c' (List.mem_append_left _ (List.mem_flatMap.2 ⟨v, hvm, by rw [hfind]; exact hc'⟩))) (fun h17 y hy => ?_) c hc
   refine hsub v hvm f (List.mem_of_getElem? hf) hr.1 h17 y hy ?_
   rcases hr.2.2.2 with ⟨_, _, q, _⟩ | ⟨_, _, _, _, q, _⟩ | ⟨_, _, _, q⟩
   · rw [q] at hy
     cases hy
   · rw [q] at hy
     cases hy
   · exact q y hy
 · obtain ⟨t, ht, rfl⟩ := List.mem_map.1 hc
   exact unknown_valid hM (hu t ht)

theorem enc_valid {S : List MsgD} (hR : rightS S = true) : ∀ (d m : Nat) (x : MsgT), RightV S d m x → (encV S d m x).length < 18446744073709551616 → (firstV S d m (encV S d m x)).2 = 0
 | 0, m, x, hx, hl => by
   have hx' : RightJ (fun _ _ => False) S m x := hx
   obtain ⟨M, hM, _⟩ := id hx'
   have e : encV S 0 m x = (encC (fun _ _ => []) S m x).flatten := by rw [encV]
   rw [e] at hl ⊢
   exact enc_validJ hR hM hx' hl (fun v hvm f hf hn h17 y hy q => q.elim)
 | d + 1, m, x, hx, hl => by
   have hx' : RightJ (RightV S d) S m x := hx
   obtain ⟨M, hM, _⟩ := id hx'
   have e : encV S (d + 1) m x = (encC (encV S d) S m x).flatten := by rw [encV]
   rw [e] at hl ⊢
   refine enc_validJ hR hM hx' hl (fun v hvm f hf hn h17 y hy q => ⟨d, rfl, ?_⟩)
   have hin := sub_in (se := encV S d) hR hM hvm hf hn h17 hy
   exact enc_valid hR d _ y q (by omega)

end Go.Proofs.YtnnphodgegcddaaGreat
