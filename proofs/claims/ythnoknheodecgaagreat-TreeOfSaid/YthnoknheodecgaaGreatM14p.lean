/- Words of my own for memory: a field's pieces, and the map of them. -/
import Derived.Test.YthnoknheodecgaaGreatS14p
import Derived.Test.YthnoknheodecgaaGreatW14o
import Derived.Test.YthnoknheodecgaaGreatW17
import Derived.Test.YthnoknheodecgaaGreatMap
namespace Go.Proofs.YthnoknheodecgaaGreat
open Go.RowKit
set_option linter.unusedVariables false

section
variable {w0 w w' w'' : World} {s : Nat → Prop}

/-- A row of the call's own stays where its block does. -/
theorem Own.stays {e : TypeId} {size n c : Nat} {A : Option Addr} {xs : List Value} (h : Own w0 w e size A n c xs) (k : Stays s w w') (hE : Ext w0 w') (hs : ∀ b, (Value.slice A 0 0).ownBlock = some b → s b) : Own w0 w' e size A n c xs := by
  refine ⟨⟨h.row.1, ?_⟩, hE⟩
  rcases h.row.2 with h2 | ⟨g, cap, cur, hv, hg, hh, r⟩
  · exact .inl h2
  · refine .inr ⟨g, cap, cur, hv, hg, ?_, r⟩
    rw [k.block g (hs g (by injection hv with hA; rw [hA]; rfl)) (Array.getElem?_eq_some_iff.1 hh).1]
    exact hh

theorem BlkT.stays {b : Nat} {t : TypeId} {cs : Array Value} (h : BlkT w b t cs) (k : Stays s w w') (hs : s b) : BlkT w' b t cs := (k.block b hs h.lt).trans h

theorem MapV.stays {K : Type} {b : Nat} {enc : K → Value} {ok : K → Prop} {M : List (K × Value)} (h : MapV w b enc ok M) (k : Stays s w w') (hs : s b) : MapV w' b enc ok M := h.same (k.block b hs h.lt)

/-- The row's block holds elements of the row's type. -/
theorem Own.typed {e : TypeId} {size n c b : Nat} {A : Option Addr} {xs : List Value} (h : Own w0 w e size A n c xs) (hb : (Value.slice A 0 0).ownBlock = some b) : ∃ cur, w.heap[b]? = some (.cells cur e (0, 0)) := by
  rcases h.row.2 with ⟨hv, _⟩ | ⟨g, cap, cur, hv, hg, hh, r⟩
  · injection hv with hA
    rw [hA] at hb
    cases hb
  · injection hv with hA
    rw [hA] at hb
    cases hb
    exact ⟨cur, hh⟩

theorem Own.new_lt {e : TypeId} {size n c b : Nat} {A : Option Addr} {xs : List Value} (h : Own w0 w e size A n c xs) (hb : (Value.slice A 0 0).ownBlock = some b) : w0.heap.size ≤ b ∧ b < w.heap.size := h.row.lt b (by rw [ownBlock_any A n c 0 0]; exact hb)
end

/-- A field's pieces, and where they lie. -/
structure PieceG where
  b : Nat
  f : FieldD
  A : Option Addr
  c : Nat
  ws : List Nat
  B : Option Addr
  d : Nat
  vs : List BRow

def pieceC (p : PieceG) : Array Value := #[.string p.f.name, .int .i64 p.f.number, .int .i64 p.f.kind, .bool p.f.rep, .bool p.f.packed, .int .i64 p.f.of_, .slice p.A p.ws.length p.c, .slice p.B p.vs.length p.d]

def ptrP (p : PieceG) : Value := .pointer (some ⟨p.b, 0, none⟩)

/-- The blocks that are its own. -/
def Foot (p : PieceG) (b : Nat) : Prop := b = p.b ∨ (Value.slice p.A 0 0).ownBlock = some b ∨ (Value.slice p.B 0 0).ownBlock = some b

structure PieceAt (w0 w : World) (p : PieceG) : Prop where
  blk : BlkT w p.b 154 (pieceC p)
  new : w0.heap.size ≤ p.b
  words : Own w0 w 88 1 p.A p.ws.length p.c (p.ws.map uv)
  small : ∀ x ∈ p.ws, x < 18446744073709551616
  vals : Own w0 w 24 1 p.B p.vs.length p.d (p.vs.map browV)
  each : ∀ r ∈ p.vs, BytesAt w0 r.A r.n r.c r.bs
  ok : p.f.Ok

section
variable {w0 w w' : World} {s : Nat → Prop} {p p' : PieceG} {b : Nat}

theorem PieceAt.lt (h : PieceAt w0 w p) (hb : Foot p b) : w0.heap.size ≤ b ∧ b < w.heap.size := by
  rcases hb with rfl | hb | hb
  · exact ⟨h.new, h.blk.lt⟩
  · exact h.words.new_lt hb
  · exact h.vals.new_lt hb

theorem PieceAt.stays (h : PieceAt w0 w p) (k : Stays s w w') (hE : Ext w0 w') (hs : ∀ b, Foot p b → s b) : PieceAt w0 w' p :=
  ⟨h.blk.stays k (hs _ (.inl rfl)), h.new, h.words.stays k hE (fun b hb => hs b (.inr (.inl hb))), h.small, h.vals.stays k hE (fun b hb => hs b (.inr (.inr hb))), h.each, h.ok⟩

/-- Its blocks hold no elements of other types. -/
theorem PieceAt.typed (h : PieceAt w0 w p) (hb : Foot p b) : ∃ cur t, w.heap[b]? = some (.cells cur t (0, 0)) ∧ (t = 154 ∨ t = 88 ∨ t = 24) := by
  rcases hb with rfl | hb | hb
  · exact ⟨_, _, h.blk, .inl rfl⟩
  · obtain ⟨cur, hc⟩ := h.words.typed hb
    exact ⟨_, _, hc, .inr (.inl rfl)⟩
  · obtain ⟨cur, hc⟩ := h.vals.typed hb
    exact ⟨_, _, hc, .inr (.inr rfl)⟩

theorem PieceAt.other (h : PieceAt w0 w p) (hb : Foot p b) {w1 : World} {e : TypeId} {size n c : Nat} {A : Option Addr} {xs : List Value} (o : Own w1 w e size A n c xs) (h1 : e ≠ 154) (h2 : e ≠ 88) (h3 : e ≠ 24) : (Value.slice A 0 0).ownBlock ≠ some b := by
  intro q
  obtain ⟨cur, t, hc, ht⟩ := h.typed hb
  obtain ⟨cur', hc'⟩ := o.typed q
  rw [hc] at hc'
  injection hc' with hc'
  injection hc' with _ he
  subst he
  rcases ht with rfl | rfl | rfl
  · exact h1 rfl
  · exact h2 rfl
  · exact h3 rfl

theorem PieceAt.up (h : PieceAt w0 w p) (k : Ext w w') : PieceAt w0 w' p := h.stays (s := fun _ => True) (Stays.of_ext k) (h.words.ext.trans k) (fun _ _ => trivial)
end

/-- The pieces have grown. -/
structure Grew (w0 w w' : World) (p p' : PieceG) : Prop where
  at_ : PieceAt w0 w' p'
  b : p'.b = p.b
  f : p'.f = p.f
  stays : Stays (fun b => ¬ Foot p b) w w'
  foot : ∀ b, Foot p' b → Foot p b ∨ w.heap.size ≤ b

section
variable {w0 w W w2 : World} {p : PieceG} {A' : Option Addr} {c' : Nat}

theorem grew_words (hp : PieceAt w0 w p) (E1 : Ext w W) {ys : List Nat} {m : Nat} (hm : ys.length = m) (hs : ∀ x ∈ ys, x < 18446744073709551616) (own : Own w0 w2 88 1 A' (p.ws.length + m) c' (p.ws.map uv ++ ys.map uv))
    (g : W.grownBy w2 (Value.slice p.A p.ws.length p.c).ownBlock) (mv : Moved W p.A A') : Grew w0 w (w2.setCell ⟨p.b, 6, none⟩ (.slice A' (p.ws.length + m) c')) p { p with A := A', c := c', ws := p.ws ++ ys } := by
  subst hm
  have h1 := hp.up E1
  have B2 := h1.blk.beside h1.words (by decide) g
  have V2 := h1.vals.beside h1.words (by decide) (Ext.refl _) g own.ext
  have hnb : w0.heap.size ≤ p.b := hp.new
  refine ⟨⟨?_, hp.new, ?_, ?_, V2.far B2 (by decide) hnb 6 _, hp.each, hp.ok⟩, rfl, rfl, ?_, ?_⟩
  · have := B2.set_ 6 (.slice A' (p.ws.length + ys.length) c')
    simpa [pieceC] using this
  · have := own.far B2 (by decide) hnb 6 (.slice A' (p.ws.length + ys.length) c')
    simpa using this
  · intro x hx
    rcases List.mem_append.1 hx with hx | hx
    · exact hp.small x hx
    · exact hs x hx
  · refine Stays.set (((Stays.of_ext E1).trans (Stays.grown g (fun k hk => ?_)))) (fun h => h (.inl rfl)) _
    intro h
    rw [ownBlock_any p.A _ _ 0 0] at hk
    exact h (.inr (.inl hk))
  · intro b hb
    rcases hb with hb | hb | hb
    · exact .inl (.inl hb)
    · rcases mv with e | e
      · exact .inl (.inr (.inl (e ▸ hb)))
      · refine .inr ?_
        have hb : (Value.slice A' 0 0).ownBlock = some b := hb
        rw [e] at hb
        injection hb with hb
        have := E1.size
        omega
    · exact .inl (.inr (.inr hb))

theorem grew_vals (hp : PieceAt w0 w p) (E1 : Ext w W) {r : BRow} (hr : BytesAt w0 r.A r.n r.c r.bs) (own : Own w0 w2 24 1 A' (p.vs.length + 1) c' (p.vs.map browV ++ [browV r]))
    (g : W.grownBy w2 (Value.slice p.B p.vs.length p.d).ownBlock) (mv : Moved W p.B A') : Grew w0 w (w2.setCell ⟨p.b, 7, none⟩ (.slice A' (p.vs.length + 1) c')) p { p with B := A', d := c', vs := p.vs ++ [r] } := by
  have h1 := hp.up E1
  have B2 := h1.blk.beside h1.vals (by decide) g
  have V2 := h1.words.beside h1.vals (by decide) (Ext.refl _) g own.ext
  have hnb : w0.heap.size ≤ p.b := hp.new
  refine ⟨⟨?_, hp.new, V2.far B2 (by decide) hnb 7 _, hp.small, ?_, ?_, hp.ok⟩, rfl, rfl, ?_, ?_⟩
  · have := B2.set_ 7 (.slice A' (p.vs.length + 1) c')
    simpa [pieceC] using this
  · have := own.far B2 (by decide) hnb 7 (.slice A' (p.vs.length + 1) c')
    simpa using this
  · intro x hx
    rcases List.mem_append.1 hx with hx | hx
    · exact hp.each x hx
    · rw [List.mem_singleton] at hx
      subst hx
      exact hr
  · refine Stays.set (((Stays.of_ext E1).trans (Stays.grown g (fun k hk => ?_)))) (fun h => h (.inl rfl)) _
    intro h
    rw [ownBlock_any p.B _ _ 0 0] at hk
    exact h (.inr (.inr hk))
  · intro b hb
    rcases hb with hb | hb | hb
    · exact .inl (.inl hb)
    · exact .inl (.inr (.inl hb))
    · rcases mv with e | e
      · exact .inl (.inr (.inr (e ▸ hb)))
      · refine .inr ?_
        have hb : (Value.slice A' 0 0).ownBlock = some b := hb
        rw [e] at hb
        injection hb with hb
        have := E1.size
        omega
end

/-- The pieces of the fields that are yet to be told, each in blocks of its own, which are no older than base. -/
structure Held (w0 wr : World) (base : Nat) (fs : List FieldD) (bs : List UInt8) (V : Nat → List ViewD) (E : Nat → Option PieceG) (R : Nat → Prop) : Prop where
  each : ∀ i p, R i → E i = some p → PieceAt w0 wr p ∧ fs[i]? = some p.f ∧ p.ws = (V i).flatMap (wordsO p.f bs) ∧ p.vs.map BRow.bs = (V i).flatMap (piecesO p.f bs)
  apart : ∀ i j p q, R i → R j → i ≠ j → E i = some p → E j = some q → ∀ b, Foot p b → ¬ Foot q b
  new : ∀ i p, R i → E i = some p → ∀ b, Foot p b → base ≤ b

section
variable {w0 wr w' : World} {base : Nat} {fs : List FieldD} {bs : List UInt8} {V V' : Nat → List ViewD} {E : Nat → Option PieceG} {R R' : Nat → Prop} {s : Nat → Prop}

theorem Held.stays (h : Held w0 wr base fs bs V E R) (k : Stays s wr w') (hE : Ext w0 w') (hs : ∀ i p, R i → E i = some p → ∀ b, Foot p b → s b) : Held w0 w' base fs bs V E R :=
  ⟨fun i p hi hp => by
    obtain ⟨h1, h2, h3, h4⟩ := h.each i p hi hp
    exact ⟨h1.stays k hE (hs i p hi hp), h2, h3, h4⟩, h.apart, h.new⟩

theorem Held.less (h : Held w0 wr base fs bs V E R) (hR : ∀ i, R' i → R i) : Held w0 wr base fs bs V E R' :=
  ⟨fun i p hi => h.each i p (hR i hi), fun i j p q hi hj => h.apart i j p q (hR i hi) (hR j hj), fun i p hi => h.new i p (hR i hi)⟩

/-- One field's pieces have changed, or are new. -/
theorem Held.put (h : Held w0 wr base fs bs V E R) {i : Nat} {p' : PieceG} (hk : Stays s wr w') (hs : ∀ j p, R j → j ≠ i → E j = some p → ∀ b, Foot p b → s b) (hat : PieceAt w0 w' p') (hE : Ext w0 w') (hf : fs[i]? = some p'.f) (hw : p'.ws = (V' i).flatMap (wordsO p'.f bs)) (hv : p'.vs.map BRow.bs = (V' i).flatMap (piecesO p'.f bs))
    (hV : ∀ j, j ≠ i → V' j = V j) (hi : R i) (hft : ∀ b, Foot p' b → (∃ p, E i = some p ∧ Foot p b) ∨ wr.heap.size ≤ b) (hbase : base ≤ wr.heap.size) : Held w0 w' base fs bs V' (fun j => if j = i then some p' else E j) R := by
  have hk1 : ∀ j p, R j → j ≠ i → E j = some p → ∀ b, Foot p b → ∀ q, E i = some q → ¬ Foot q b := fun j p hj hne hp b hb q hq => h.apart j i p q hj hi hne hp hq b hb
  have hap : ∀ j p, R j → j ≠ i → E j = some p → ∀ b, Foot p b → ¬ Foot p' b := by
    intro j p hj hne hp b hb hb'
    rcases hft b hb' with ⟨q, hq, hqb⟩ | hlt
    · exact hk1 j p hj hne hp b hb q hq hqb
    · have := ((h.each j p hj hp).1.lt hb).2
      omega
  refine ⟨fun j p hj hp => ?_, fun j1 j2 p q hj1 hj2 hne hp hq b hb hqb => ?_, fun j p hj hp b hb => ?_⟩
  · by_cases hji : j = i
    · subst hji
      simp only [if_true] at hp
      cases hp
      exact ⟨hat, hf, hw, hv⟩
    · rw [if_neg hji] at hp
      obtain ⟨h1, h2, h3, h4⟩ := h.each j p hj hp
      rw [hV j hji]
      exact ⟨h1.stays hk hE (hs j p hj hji hp), h2, h3, h4⟩
  · by_cases h1 : j1 = i
    · rw [if_pos h1] at hp
      cases hp
      have h2 : j2 ≠ i := fun e => hne (h1.trans e.symm)
      rw [if_neg h2] at hq
      exact hap j2 q hj2 h2 hq b hqb hb
    · rw [if_neg h1] at hp
      by_cases h2 : j2 = i
      · rw [if_pos h2] at hq
        cases hq
        exact hap j1 p hj1 h1 hp b hb hqb
      · rw [if_neg h2] at hq
        exact h.apart j1 j2 p q hj1 hj2 hne hp hq b hb hqb
  · by_cases hji : j = i
    · rw [if_pos hji] at hp
      cases hp
      rcases hft b hb with ⟨q, hq, hqb⟩ | hlt
      · exact h.new i q hi hq b hqb
      · omega
    · rw [if_neg hji] at hp
      exact h.new j p hj hp b hb
end

/-- The map of the pieces. -/
def MetAt (w : World) (bm : Nat) (E : Nat → Option PieceG) : Prop :=
  ∃ M, MapV w bm (fun x : Int => Value.int .i64 x) (fun x => (Lit.int .i64 x).wf = true) M ∧ ∀ i : Nat, getV (i : Int) M = (E i).map ptrP

section
variable {w w' : World} {bm : Nat} {E : Nat → Option PieceG} {s : Nat → Prop}

theorem MetAt.stays (h : MetAt w bm E) (k : Stays s w w') (hs : s bm) : MetAt w' bm E := by
  obtain ⟨M, h1, h2⟩ := h
  exact ⟨M, h1.stays k hs, h2⟩

theorem MetAt.lt (h : MetAt w bm E) : bm < w.heap.size := by
  obtain ⟨M, h1, h2⟩ := h
  exact h1.lt

theorem MetAt.made (w : World) : MetAt (w.alloc (.map #[] 0)) w.heap.size (fun _ => none) := ⟨[], MapV.made w _ _, fun i => rfl⟩

/-- A field's pieces stay where they are. -/
theorem MetAt.put (h : MetAt w bm E) {i : Nat} {p p' : PieceG} (hp : E i = some p) (hb : p'.b = p.b) : MetAt w bm (fun j => if j = i then some p' else E j) := by
  obtain ⟨M, h1, h2⟩ := h
  refine ⟨M, h1, fun j => ?_⟩
  by_cases hj : j = i
  · subst hj
    rw [h2, hp]
    simp [ptrP, hb]
  · rw [h2]
    simp [hj]
end

/-- What a loop has made stays where its blocks do. -/
theorem ValsT.stays {w wr w' : World} {b3 : Nat} {A : Option Addr} {old : Nat → Prop} {U : Sl} {us : List ByteArray} {ys : List ValR} {s : Nat → Prop} (h : ValsT w wr b3 A old U us ys) (k : Stays s wr w') (h1 : ∀ y ∈ ys, ∀ b, UsesV y b → s b) (h2 : ∀ b, UsesA U.1 us.length b → s b) : ValsT w w' b3 A old U us ys :=
  ⟨fun y hy => (h.at_ y hy).stays k (h1 y hy), h.unk.stays k h2, h.away, h.awayU, h.from_, Nat.le_trans h.size k.size⟩

theorem Trees.stays {w wr w' : World} {b3 : Nat} {A : Option Addr} {old : Nat → Prop} {ys : List MsgR} {s : Nat → Prop} (h : Trees w wr b3 A old ys) (k : Stays s wr w') (h1 : ∀ y ∈ ys, ∀ b, UsesT y b → s b) : Trees w w' b3 A old ys :=
  ⟨fun y hy => (h.at_ y hy).stays k (h1 y hy), h.away, h.from_, Nat.le_trans h.size k.size⟩

end Go.Proofs.YthnoknheodecgaaGreat
