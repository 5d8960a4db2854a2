/- What a law is handed: meanings and fields, in my own words for memory, with the bound on their bulk. -/
import Derived.Test.YtnnphodgegcddaaGreatRows
import Derived.Test.YtnnphodgegcddaaGreatQdM14
import Derived.Test.YtnnphodgegcddaaGreatQdOpenM
import Derived.SliceStrings

namespace Go.Proofs.YtnnphodgegcddaaGreat
open Go.ChangeShapes Go.WideShapes Go.ChangeAt Go.RowKit Go.Deep Go.Joins
set_option linter.unusedVariables false

theorem bulk_one {H : Type} (d : DataW H) : 1 ≤ Rows.uptoBulk d := by
 cases d with
 | lit l => cases l <;> simp [Rows.uptoBulk]
 | nil => simp [Rows.uptoBulk]
 | ptr d => simp [Rows.uptoBulk]
 | slice elems spare => simp [Rows.uptoBulk]
 | agg parts => simp [Rows.uptoBulk]
 | iface t d => simp [Rows.uptoBulk]
 | map entries => simp [Rows.uptoBulk]
 | held h => simp [Rows.uptoBulk]

theorem bulk_part {H : Type} {d : DataW H} {l : List (DataW H)} (h : d ∈ l) : Rows.uptoBulk d ≤ Rows.uptoBulkAll l := by
 induction l with
 | nil => cases h
 | cons x r ih =>
   simp only [Rows.uptoBulkAll]
   rcases List.mem_cons.1 h with e | e
   · subst e
     omega
   · have := ih e
     omega

theorem bulk_length {H : Type} (l : List (DataW H)) : l.length ≤ Rows.uptoBulkAll l := by
 induction l with
 | nil => simp [Rows.uptoBulkAll]
 | cons x r ih =>
   have := bulk_one x
   simp only [Rows.uptoBulkAll, List.length_cons]
   omega

inductive LongT {τ : Type} (B : Nat) : MsgX τ → Prop
 | mk (x : MsgX τ) (unk : ∀ t ∈ x.unk, t.data.toList.length ≤ B) (texts : ∀ v ∈ x.vals, ∀ t ∈ v.texts, t.data.toList.length ≤ B) (sub : ∀ v ∈ x.vals, ∀ y ∈ v.subs, LongT B y) : LongT B x

section
variable {τ : Type} {B C : Nat} {x : MsgX τ}

theorem LongT.unk (h : LongT B x) : ∀ t ∈ x.unk, t.data.toList.length ≤ B := by cases h; assumption

theorem LongT.texts (h : LongT B x) : ∀ v ∈ x.vals, ∀ t ∈ v.texts, t.data.toList.length ≤ B := by cases h; assumption

theorem LongT.sub (h : LongT B x) : ∀ v ∈ x.vals, ∀ y ∈ v.subs, LongT B y := by cases h; assumption

theorem LongT.le (hBC : B ≤ C) (h : LongT B x) : LongT C x := by
 induction h with
 | mk x unk texts sub ih => exact .mk x (fun t ht => Nat.le_trans (unk t ht) hBC) (fun v hv t ht => Nat.le_trans (texts v hv t ht) hBC) ih

theorem FitT.le (hBC : B ≤ C) (h : FitT B x) : FitT C x := by
 induction h with
 | mk x vals unk each sub ih => exact .mk x (Nat.le_trans vals hBC) (Nat.le_trans unk hBC) (fun v hv => ⟨Nat.le_trans (each v hv).1 hBC, Nat.le_trans (each v hv).2.1 hBC, Nat.le_trans (each v hv).2.2 hBC⟩) ih
end

section
variable {H : Type} {enc : TypeId × Value → H} {P : Program} {w : World} {base : Nat} {held : Bool}

theorem open_structs_bulk {t e : TypeId} {fs : Array Field} {fuel B : Nat} {cs : List Value} {x : DataW H × List MemPlace} (ht : P.underlying t = some (.slice e)) (he : P.underlying e = some (.struct fs))
  (hone : oneCellFields P fs = true) (hC : P.cellsOf e = fs.size) (hw : Rows.uptoBulk x.1 ≤ B) (h : DataW.trod enc P w base (fun _ => true) held fuel t cs = some x) :
  cs = [.slice none 0 0] ∨ ∃ (a : Addr) (len cap : Nat), cs = [.slice (some a) len cap] ∧ len ≤ cap ∧ cap ≤ maxLen ∧ len ≤ B ∧
   ∀ i, i < len → ∃ n : Nat, n < fuel ∧ ∀ (j : Nat) (f : Field), fs[j]? = some f → ∃ (v : Value) (y : DataW H × List MemPlace), w.cell? (a.add (i * fs.size + j)) = some v ∧ DataW.trod enc P w base (fun _ => true) held n f.type [v] = some y ∧ Rows.uptoBulk y.1 ≤ B := by
 rcases DataW.trod_slice ht h with h0 | ⟨a, len, cap, elems, rest, n, hfu, hcs, hx, hb, hl, hm, hlen, hel, hsp, _⟩
 · exact .inl h0.1
 · have hB : Rows.uptoBulkAll (elems.map (·.1)) ≤ B := by
    rw [hx] at hw
    simp only [Rows.uptoBulk] at hw
    omega
   refine .inr ⟨a, len, cap, hcs, hl, hm, ?_, fun i hil => ?_⟩
   · have := bulk_length (elems.map (·.1))
     rw [List.length_map] at this
     omega
   · have hil2 : i < elems.length := by omega
     have h0 := hel i hil
     rw [List.getElem?_eq_getElem hil2, Option.bind_eq_some_iff] at h0
     obtain ⟨cs', hc, ht'⟩ := h0
     rw [hC] at hc
     obtain ⟨ys, n', hn', hD, _, hyl, hf⟩ := DataW.trod_struct he ht'
     obtain ⟨_, hcl, hat⟩ := World.cells?_some hc
     refine ⟨n', by omega, fun j f hj => ?_⟩
     obtain ⟨ho, hk⟩ := hone_of hone j f hj
     have hjl : j < fs.size := (Array.getElem?_eq_some_iff.1 hj).1
     have hcell := hat j hjl
     have hv : cs'[j]? = some (cs'[j]'(by omega)) := List.getElem?_eq_getElem (by omega)
     have h1 := hf j f hj
     rw [ho, hk] at h1
     have h1c : (cs'.drop j).take 1 = [cs'[j]'(by omega)] := by
      rw [List.drop_eq_getElem_cons (by omega)]
      rfl
     rw [h1c] at h1
     have hys : ys[j]? = some (ys[j]'(by omega)) := List.getElem?_eq_getElem (by omega)
     refine ⟨_, _, ?_, h1.trans hys, ?_⟩
     · rw [← Go.Deep.add_add, hcell, hv]
     · have b1 := bulk_part (List.mem_map_of_mem (f := (·.1)) (List.getElem_mem hil2))
       (try dsimp only at b1)
       rw [hD] at b1
       simp only [Rows.uptoBulk] at b1
       have b2 := bulk_part (List.mem_map_of_mem (f := (·.1)) (List.getElem_mem (show j < ys.length by omega)))
       (try dsimp only at b2)
       omega

theorem open_words_bulk {t e : TypeId} {fuel B : Nat} {v : Value} {x : DataW H × List MemPlace} (ht : P.underlying t = some (.slice e)) (he : P.underlying e = some (.int .u64)) (hc : P.cellsOf e = 1) (hw : Rows.uptoBulk x.1 ≤ B)
  (h : DataW.trod enc P w base (fun _ => true) held fuel t [v] = some x) :
  ∃ (A : Option Addr) (c : Nat) (l : List Nat), v = .slice A l.length c ∧ Reads w A l.length c 1 (l.map uv) ∧ (∀ n ∈ l, n < 18446744073709551616) ∧ l.length ≤ B := by
 rcases open_ints ht he hc h with ⟨hcs, _⟩ | ⟨a, len, cap, zs, hcs, _, hl, hm, hz, hx, hcell, hwz⟩
 · cases hcs
   exact ⟨none, 0, [], rfl, Reads.nil w 1, fun n hn => (by cases hn), Nat.zero_le _⟩
 · cases hcs
   simp only [if_true] at hz
   have hw2 : ∀ n ∈ zs, 0 ≤ n ∧ n < 18446744073709551616 := fun n hn => by
    have := hwz n hn
    simp [Lit.wf, IntKind.min, IntKind.max, IntKind.signed, IntKind.bits] at this
    omega
   have hlen : (zs.take len).length = len := by rw [List.length_take]; omega
   have hB : len ≤ B := by
    rw [hx] at hw
    simp only [Rows.uptoBulk] at hw
    have := bulk_length (lits (H := H) IntKind.u64 (zs.take len))
    simp only [lits, List.length_map] at this hw
    omega
   have huv : ((zs.take len).map Int.toNat).map uv = (zs.take len).map (Value.int .u64) := by
    rw [List.map_map]
    refine List.map_congr_left fun n hn => ?_
    have := hw2 n (List.mem_of_mem_take hn)
    show Value.int .u64 ((n.toNat : Nat) : Int) = _
    rw [Int.toNat_of_nonneg this.1]
   refine ⟨some a, cap, (zs.take len).map Int.toNat, by rw [List.length_map, hlen], ?_, fun n hn => ?_, by rw [List.length_map, hlen]; exact hB⟩
   · rw [huv, List.length_map, hlen]
     exact reads_of_ints hl hm (by simpa using hz) hcell
   · obtain ⟨z, hz', rfl⟩ := List.mem_map.1 hn
     have := hw2 z (List.mem_of_mem_take hz')
     omega

theorem open_texts_bulk {t e : TypeId} {fuel B : Nat} {v : Value} {x : DataW H × List MemPlace} (ht : P.underlying t = some (.slice e)) (he : P.underlying e = some .string) (hc : P.cellsOf e = 1) (hw : Rows.uptoBulk x.1 ≤ B)
  (h : DataW.trod enc P w base (fun _ => true) held fuel t [v] = some x) :
  ∃ (A : Option Addr) (c : Nat) (l : List ByteArray), v = .slice A l.length c ∧ TextsAt w (A, c) l ∧ (∀ t ∈ l, t.data.toList.length ≤ B) ∧ l.length ≤ B := by
 rcases open_strings ht he hc h with ⟨hcs, _⟩ | ⟨a, len, cap, ss, hcs, _, hl, hm, hz, hx, hcell, hwz⟩
 · cases hcs
   exact ⟨none, 0, [], rfl, ⟨Reads.nil w 1, fun t ht => (by cases ht)⟩, fun t ht => (by cases ht), Nat.zero_le _⟩
 · cases hcs
   simp only [if_true] at hz
   have hlen : (ss.take len).length = len := by rw [List.length_take]; omega
   have hB : Rows.uptoBulkAll (strs (H := H) (ss.take len)) ≤ B := by
    rw [hx] at hw
    simp only [Rows.uptoBulk] at hw
    omega
   have hll := bulk_length (strs (H := H) (ss.take len))
   simp only [strs, List.length_map] at hll hB
   refine ⟨some a, cap, ss.take len, by rw [hlen], ⟨?_, fun t ht => hwz t (List.mem_of_mem_take ht)⟩, fun t ht => ?_, by omega⟩
   · refine ⟨by rw [List.length_map, Nat.mul_one], by rw [hlen]; exact hl, hm, fun hn => ?_⟩
     obtain ⟨b, off, spot⟩ := a
     have h0 := hcell 0 (by omega)
     have hspot : spot = none := by simpa [Addr.add] using World.cell?_spot h0
     subst hspot
     have hb := World.block_lt_of_cell? w _ h0
     refine ⟨b, off, rfl, by simpa [Addr.add] using hb, fun j u hu => ?_⟩
     rw [List.getElem?_map, Option.map_eq_some_iff] at hu
     obtain ⟨s, hs, rfl⟩ := hu
     have hj : j < len := by have := (List.getElem?_eq_some_iff.1 hs).1; omega
     have hj2 : ss[j]? = some s := by rwa [List.getElem?_take, if_pos hj] at hs
     have := hcell j (by omega)
     rw [addr_add] at this
     rw [this, List.getD_eq_getElem?_getD, hj2]
     rfl
   · have h1 := bulk_part (List.mem_map_of_mem (f := fun s : ByteArray => DataW.lit (H := H) (.string s.data.toList)) ht)
     have h2 : Rows.uptoBulk (DataW.lit (H := H) (.string t.data.toList)) = t.data.toList.length + 1 := by simp [Rows.uptoBulk]
     (try dsimp only at h1)
     rw [h2] at h1
     omega

structure TreeTy (P : Program) (tM tV : TypeId) (m0 m1 v0 v1 v2 v3 : Field) (eW eS : TypeId) : Prop where
 msg : P.underlying tM = some (.struct #[m0, m1])
 msg1 : oneCellFields P #[m0, m1] = true
 msgC : P.cellsOf tM = 2
 vals : P.underlying m0.type = some (.slice tV)
 unk : P.underlying m1.type = some (.slice eS)
 val : P.underlying tV = some (.struct #[v0, v1, v2, v3])
 val1 : oneCellFields P #[v0, v1, v2, v3] = true
 valC : P.cellsOf tV = 4
 num : P.underlying v0.type = some (.int .i64)
 words : P.underlying v1.type = some (.slice eW)
 texts : P.underlying v2.type = some (.slice eS)
 subs : P.underlying v3.type = some (.slice tM)
 word : P.underlying eW = some (.int .u64)
 wordC : P.cellsOf eW = 1
 text : P.underlying eS = some .string
 textC : P.cellsOf eS = 1

theorem open_val_parts {tM tV : TypeId} {m0 m1 v0 v1 v2 v3 : Field} {eW eS : TypeId} (T : TreeTy P tM tV m0 m1 v0 v1 v2 v3 eW eS) {n B : Nat}
  (ih : ∀ (v : Value) (x : DataW H × List MemPlace), Rows.uptoBulk x.1 ≤ B → DataW.trod enc P w base (fun _ => true) held n v3.type [v] = some x → ∃ (A : Option Addr) (c : Nat) (l : List MsgR), v = .slice A l.length c ∧ Reads w A l.length c 2 (l.flatMap treeC) ∧ (∀ y ∈ l, TreeAt w y ∧ FitT B y ∧ LongT B y) ∧ l.length ≤ B)
  {z0 z1 z2 z3 : Value} {y0 y1 y2 y3 : DataW H × List MemPlace} (t0 : DataW.trod enc P w base (fun _ => true) held n v0.type [z0] = some y0) (t1 : DataW.trod enc P w base (fun _ => true) held n v1.type [z1] = some y1)
  (t2 : DataW.trod enc P w base (fun _ => true) held n v2.type [z2] = some y2) (t3 : DataW.trod enc P w base (fun _ => true) held n v3.type [z3] = some y3) (b1 : Rows.uptoBulk y1.1 ≤ B) (b2 : Rows.uptoBulk y2.1 ≤ B) (b3 : Rows.uptoBulk y3.1 ≤ B) :
  ∃ v : ValR, [z0, z1, z2, z3] = tvalC v ∧ ValAt w v ∧ (v.words.length ≤ B ∧ v.texts.length ≤ B ∧ v.subs.length ≤ B) ∧ (∀ t ∈ v.texts, t.data.toList.length ≤ B) ∧ ∀ y ∈ v.subs, FitT B y ∧ LongT B y := by
 obtain ⟨i, e0, _, w0⟩ := DataW.trod_int T.num t0
 obtain ⟨A1, c1, l1, e1, r1, s1, k1⟩ := open_words_bulk T.words T.word T.wordC b1 t1
 obtain ⟨A2, c2, l2, e2, r2, s2, k2⟩ := open_texts_bulk T.texts T.text T.textC b2 t2
 obtain ⟨A3, c3, l3, e3, r3, s3, k3⟩ := ih _ _ b3 t3
 simp only [List.cons.injEq, and_true] at e0
 subst e0 e1 e2 e3
 simp [Lit.wf, IntKind.min, IntKind.max, IntKind.signed, IntKind.bits] at w0
 exact ⟨⟨(A1, c1), (A2, c2), (A3, c3), i, l1, l2, l3⟩, rfl, ⟨⟨⟨by simp only; omega, by simp only; omega⟩, r1, s1, r2, r3⟩, fun y hy => (s3 y hy).1⟩, ⟨k1, k2, k3⟩, s2, fun y hy => (s3 y hy).2⟩

theorem open_vals_bulk {tM tV : TypeId} {m0 m1 v0 v1 v2 v3 : Field} {eW eS : TypeId} (T : TreeTy P tM tV m0 m1 v0 v1 v2 v3 eW eS) {fuel B : Nat}
  (ih : ∀ n, n < fuel → ∀ (v : Value) (x : DataW H × List MemPlace), Rows.uptoBulk x.1 ≤ B → DataW.trod enc P w base (fun _ => true) held n v3.type [v] = some x → ∃ (A : Option Addr) (c : Nat) (l : List MsgR), v = .slice A l.length c ∧ Reads w A l.length c 2 (l.flatMap treeC) ∧ (∀ y ∈ l, TreeAt w y ∧ FitT B y ∧ LongT B y) ∧ l.length ≤ B)
  {v : Value} {x : DataW H × List MemPlace} (hb : Rows.uptoBulk x.1 ≤ B) (h : DataW.trod enc P w base (fun _ => true) held fuel m0.type [v] = some x) :
  ∃ (A : Option Addr) (c : Nat) (l : List ValR), v = .slice A l.length c ∧ Reads w A l.length c 4 (l.flatMap tvalC) ∧ (∀ u ∈ l, ValAt w u ∧ (u.words.length ≤ B ∧ u.texts.length ≤ B ∧ u.subs.length ≤ B) ∧ (∀ t ∈ u.texts, t.data.toList.length ≤ B) ∧ ∀ y ∈ u.subs, FitT B y ∧ LongT B y) ∧ l.length ≤ B := by
 rcases open_structs_bulk T.vals T.val T.val1 T.valC hb h with h0 | ⟨a, len, cap, hcs, hl, hm, hB, hi⟩
 · cases h0
   exact ⟨none, 0, [], rfl, Reads.nil w 4, fun u hu => (by cases hu), Nat.zero_le _⟩
 · cases hcs
   have each : ∀ i, i < len → ∃ u : ValR, (ValAt w u ∧ (u.words.length ≤ B ∧ u.texts.length ≤ B ∧ u.subs.length ≤ B) ∧ (∀ t ∈ u.texts, t.data.toList.length ≤ B) ∧ ∀ y ∈ u.subs, FitT B y ∧ LongT B y) ∧ ∀ (j : Nat) z, (tvalC u)[j]? = some z → w.cell? (a.add (i * 4 + j)) = some z := by
    intro i hil
    obtain ⟨n, hn, hf⟩ := hi i hil
    obtain ⟨z0, y0, c0, t0, _⟩ := hf 0 v0 rfl
    obtain ⟨z1, y1, c1, t1, b1⟩ := hf 1 v1 rfl
    obtain ⟨z2, y2, c2, t2, b2⟩ := hf 2 v2 rfl
    obtain ⟨z3, y3, c3, t3, b3⟩ := hf 3 v3 rfl
    obtain ⟨u, hu, q⟩ := open_val_parts T (ih n hn) t0 t1 t2 t3 b1 b2 b3
    refine ⟨u, q, fun j z hz => ?_⟩
    rw [← hu] at hz
    match j, hz with
    | 0, hz => simp at hz; subst hz; exact c0
    | 1, hz => simp at hz; subst hz; exact c1
    | 2, hz => simp at hz; subst hz; exact c2
    | 3, hz => simp at hz; subst hz; exact c3
    | j + 4, hz => simp at hz
   obtain ⟨l, hll, hq⟩ := list_of_each len each
   subst hll
   refine ⟨some a, cap, l, rfl, reads_of_each (size := 4) (fun _ => rfl) (by omega) rfl hl hm (fun i f hf => (hq i f hf).2), fun u hu => ?_, hB⟩
   obtain ⟨i, hi', rfl⟩ := List.getElem_of_mem hu
   exact (hq i _ (List.getElem?_eq_getElem hi')).1

theorem open_trees_bulk {tM tV : TypeId} {m0 m1 v0 v1 v2 v3 : Field} {eW eS : TypeId} (T : TreeTy P tM tV m0 m1 v0 v1 v2 v3 eW eS) {B : Nat} :
  ∀ (fuel : Nat) (v : Value) (x : DataW H × List MemPlace), Rows.uptoBulk x.1 ≤ B → DataW.trod enc P w base (fun _ => true) held fuel v3.type [v] = some x → ∃ (A : Option Addr) (c : Nat) (l : List MsgR), v = .slice A l.length c ∧ Reads w A l.length c 2 (l.flatMap treeC) ∧ (∀ y ∈ l, TreeAt w y ∧ FitT B y ∧ LongT B y) ∧ l.length ≤ B := by
 intro fuel
 induction fuel using Nat.strongRecOn with
 | ind fuel ih =>
   intro v x hb h
   rcases open_structs_bulk T.subs T.msg T.msg1 T.msgC hb h with h0 | ⟨a, len, cap, hcs, hl, hm, hB, hi⟩
   · cases h0
     exact ⟨none, 0, [], rfl, Reads.nil w 2, fun u hu => (by cases hu), Nat.zero_le _⟩
   · cases hcs
     have each : ∀ i, i < len → ∃ y : MsgR, (TreeAt w y ∧ FitT B y ∧ LongT B y) ∧ ∀ (j : Nat) z, (treeC y)[j]? = some z → w.cell? (a.add (i * 2 + j)) = some z := by
      intro i hil
      obtain ⟨n, hn, hf⟩ := hi i hil
      obtain ⟨z0, y0, c0, t0, b0⟩ := hf 0 m0 rfl
      obtain ⟨z1, y1, c1, t1, b1⟩ := hf 1 m1 rfl
      obtain ⟨A0, k0, l0, e0, r0, s0, q0⟩ := open_vals_bulk T (fun n' hn' => ih n' (by omega)) b0 t0
      obtain ⟨A1, k1, l1, e1, r1, s1, q1⟩ := open_texts_bulk T.unk T.text T.textC b1 t1
      subst e0 e1
      refine ⟨.mk (A0, k0) (A1, k1) l0 l1, ⟨TreeAt.of r0 r1 (fun u hu => (s0 u hu).1), .mk _ q0 q1 (fun u hu => (s0 u hu).2.1) (fun u hu y hy => ((s0 u hu).2.2.2 y hy).1), .mk _ s1 (fun u hu => (s0 u hu).2.2.1) (fun u hu y hy => ((s0 u hu).2.2.2 y hy).2)⟩, fun j z hz => ?_⟩
      match j, hz with
      | 0, hz => simp [treeC] at hz; subst hz; exact c0
      | 1, hz => simp [treeC] at hz; subst hz; exact c1
      | j + 2, hz => simp [treeC] at hz
     obtain ⟨l, hll, hq⟩ := list_of_each len each
     subst hll
     refine ⟨some a, cap, l, rfl, reads_of_each (size := 2) (fun _ => rfl) (by omega) rfl hl hm (fun i f hf => (hq i f hf).2), fun u hu => ?_, hB⟩
     obtain ⟨i, hi', rfl⟩ := List.getElem_of_mem hu
     exact (hq i _ (List.getElem?_eq_getElem hi')).1

theorem open_val {r : Reach} {b0 : Nat} {tM tV : TypeId} {m0 m1 v0 v1 v2 v3 : Field} {eW eS : TypeId} (T : TreeTy P tM tV m0 m1 v0 v1 v2 v3 eW eS) {B : Nat} {v : Value} {d : DataW H} {p : List MemPlace}
  (hb : Rows.uptoBulk d ≤ B) (hv : Value.okWide P w r b0 tV v) (h : DataW.Trod enc P w base (fun _ => true) held tV v d p) :
  ∃ u : ValR, v = tvalV u ∧ ValAt w u ∧ (u.words.length ≤ B ∧ u.texts.length ≤ B ∧ u.subs.length ≤ B) ∧ (∀ t ∈ u.texts, t.data.toList.length ≤ B) ∧ ∀ y ∈ u.subs, FitT B y ∧ LongT B y := by
 obtain ⟨c0, c1, c2, c3, y0, y1, y2, y3, n, hval, hd, _, t0, t1, t2, t3⟩ := open_agg4 T.val T.val1 T.valC hv h
 subst hd
 simp only [Rows.uptoBulk, Rows.uptoBulkAll] at hb
 obtain ⟨u, hu, q⟩ := open_val_parts (B := B) T (open_trees_bulk T n) t0 t1 t2 t3 (by omega) (by omega) (by omega)
 refine ⟨u, ?_, q⟩
 unfold tvalC at hu
 injection hu with h0 hu
 injection hu with h1 hu
 injection hu with h2 hu
 injection hu with h3 hu
 subst h0 h1 h2 h3
 exact hval
end

section
variable {H : Type} {enc : TypeId × Value → H} {P : Program} {w : World} {base : Nat} {spare : Nat → Bool} {held : Bool}

theorem open_field {r : Reach} {b0 : Nat} {t : TypeId} {f0 f1 f2 f3 f4 f5 : Field} {v : Value} {d : DataW H} {p : List MemPlace} (hs : P.underlying t = some (.struct #[f0, f1, f2, f3, f4, f5])) (hone : oneCellFields P #[f0, f1, f2, f3, f4, f5] = true) (hC : P.cellsOf t = 6)
  (u0 : P.underlying f0.type = some .string) (u1 : P.underlying f1.type = some (.int .i64)) (u2 : P.underlying f2.type = some (.int .i64)) (u3 : P.underlying f3.type = some .bool) (u4 : P.underlying f4.type = some .bool) (u5 : P.underlying f5.type = some (.int .i64))
  (hv : Value.okWide P w r b0 t v) (h : DataW.Trod enc P w base spare held t v d p) : ∃ f : FieldD, v = fieldV f ∧ f.Ok := by
 obtain ⟨cs, rfl, hsz⟩ := okWide_struct hs hv
 obtain ⟨l⟩ := cs
 match l, hsz.trans hC with
 | [c0, c1, c2, c3, c4, c5], _ =>
   obtain ⟨fuel, hf⟩ := h
   obtain ⟨xs, n, _, hx, _, hlen, hg⟩ := DataW.trod_struct hs hf
   match xs, hlen with
   | [y0, y1, y2, y3, y4, y5], _ =>
     have k0 := hone_of hone 0 f0 rfl
     have k1 := hone_of hone 1 f1 rfl
     have k2 := hone_of hone 2 f2 rfl
     have k3 := hone_of hone 3 f3 rfl
     have k4 := hone_of hone 4 f4 rfl
     have k5 := hone_of hone 5 f5 rfl
     have g0 : DataW.trod enc P w base spare held n f0.type [c0] = some y0 := by simpa [Value.cells, k0.1, k0.2] using hg 0 f0 rfl
     have g1 : DataW.trod enc P w base spare held n f1.type [c1] = some y1 := by simpa [Value.cells, k1.1, k1.2] using hg 1 f1 rfl
     have g2 : DataW.trod enc P w base spare held n f2.type [c2] = some y2 := by simpa [Value.cells, k2.1, k2.2] using hg 2 f2 rfl
     have g3 : DataW.trod enc P w base spare held n f3.type [c3] = some y3 := by simpa [Value.cells, k3.1, k3.2] using hg 3 f3 rfl
     have g4 : DataW.trod enc P w base spare held n f4.type [c4] = some y4 := by simpa [Value.cells, k4.1, k4.2] using hg 4 f4 rfl
     have g5 : DataW.trod enc P w base spare held n f5.type [c5] = some y5 := by simpa [Value.cells, k5.1, k5.2] using hg 5 f5 rfl
     obtain ⟨s, e0, _, w0⟩ := DataW.trod_string u0 g0
     obtain ⟨x1, e1, _, w1⟩ := DataW.trod_int u1 g1
     obtain ⟨x2, e2, _, w2⟩ := DataW.trod_int u2 g2
     obtain ⟨x3, e3, _⟩ := DataW.trod_bool u3 g3
     obtain ⟨x4, e4, _⟩ := DataW.trod_bool u4 g4
     obtain ⟨x5, e5, _, w5⟩ := DataW.trod_int u5 g5
     simp only [List.cons.injEq, and_true] at e0 e1 e2 e3 e4 e5
     subst e0 e1 e2 e3 e4 e5
     simp [Lit.wf, IntKind.min, IntKind.max, IntKind.signed, IntKind.bits] at w1 w2 w5
     unfold maxLen at w0
     exact ⟨⟨s, x1, x2, x3, x4, x5⟩, rfl, ⟨⟨by simp only; omega, by simp only; omega⟩, ⟨by simp only; omega, by simp only; omega⟩, ⟨by simp only; omega, by simp only; omega⟩, by show s.size ≤ _; omega⟩⟩
end

end Go.Proofs.YtnnphodgegcddaaGreat
