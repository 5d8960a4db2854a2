/- Words of my own for memory: pieces of fields. -/
import Derived.Test.YtpicpebolghcfaaGreatDoorQjS14o
import Derived.Test.YtpicpebolghcfaaGreatDoorQjW84
import Derived.Test.YtpicpebolghcfaaGreatDoorQjSort
import Derived.Test.YtpicpebolghcfaaGreatDoorQjMap
import Derived.Test.YtpicpebolghcfaaGreatDoorQjW10
import Derived.Test.YtpicpebolghcfaaGreatDoorQjW8

/- Words of my own for memory: a field's pieces, and the map of them. -/
namespace Go.Proofs.YtpicpebolghcfaaGreatDoor
open Go.RowKit
set_option linter.unusedVariables false

section
variable {w0 w w' w'' : World} {s : Nat → Prop}

theorem BlkT.stays {b : Nat} {t : TypeId} {cs : Array Value} (h : BlkT w b t cs) (k : Stays s w w') (hs : s b) : BlkT w' b t cs := (k.block b hs h.lt).trans h

theorem Own.new_lt {e : TypeId} {size n c b : Nat} {A : Option Addr} {xs : List Value} (h : Own w0 w e size A n c xs) (hb : (Value.slice A 0 0).ownBlock = some b) : w0.heap.size ≤ b ∧ b < w.heap.size := h.row.lt b (by rw [ownBlock_any A n c 0 0]; exact hb)
end

structure PieceG where
  b : Nat
  f : FieldD
  A : Option Addr
  c : Nat
  ws : List Nat
  B : Option Addr
  d : Nat
  vs : List BRow

section
variable {w0 w w' : World} {s : Nat → Prop} {p p' : PieceG} {b : Nat}

end

section
variable {w0 w W w2 : World} {p : PieceG} {A' : Option Addr} {c' : Nat}

end

section
variable {w0 wr w' : World} {base : Nat} {fs : List FieldD} {bs : List UInt8} {V V' : Nat → List ViewD} {E : Nat → Option PieceG} {R R' : Nat → Prop} {s : Nat → Prop}

end

section
variable {w w' : World} {bm : Nat} {E : Nat → Option PieceG} {s : Nat → Prop}

end

end Go.Proofs.YtpicpebolghcfaaGreatDoor

/- Words of my own for memory: an elder part of a world; a cut and its block; what stands at the loop over a field's values. -/
namespace Go.Proofs.YtpicpebolghcfaaGreatDoor
open Go.RowKit
set_option linter.unusedVariables false

section
variable {w0 w w' wb w3 : World}

end

theorem Reads.row_uses {w0 w : World} {e : TypeId} {size n c b : Nat} {A : Option Addr} {xs : List Value} (hb : UsesA A n b) (h : Own w0 w e size A n c xs) : (Value.slice A 0 0).ownBlock = some b := by
  obtain ⟨_, p, rfl, rfl⟩ := hb
  rfl

end Go.Proofs.YtpicpebolghcfaaGreatDoor

/- Words of my own for memory: the reference's value of a field, while its views are gone through. -/
namespace Go.Proofs.YtpicpebolghcfaaGreatDoor
open Go.RowKit
set_option linter.unusedVariables false

def rtextsO (f : FieldD) (ps : List (List UInt8)) : List ByteArray := if f.kind = 17 then [] else (ppiecesO f ps).map textO

def rsubsO (sub : Nat → List UInt8 → MsgT) (f : FieldD) (ps : List (List UInt8)) : List MsgT := if f.kind = 17 ∧ f.rep = true then ps.map (sub f.of_.toNat) else []

def rjoinO (f : FieldD) (ps : List (List UInt8)) : List UInt8 := if f.kind = 17 ∧ f.rep = false then ps.flatten else []

structure RIn (w1 wr : World) (f : FieldD) (ws : List Nat) (ts : List ByteArray) (js : List UInt8) (ys : List MsgR) (W : Option Addr) (wn wc : Nat) (T : Option Addr) (tn tc : Nat) (X : Option Addr) (xn xc : Nat) (J : Option Addr) (jn jc : Nat) : Prop where
  fld : BlkT wr w1.heap.size 43 #[.string f.name, .int .i64 f.number, .int .i64 f.kind, .bool f.rep, .bool f.packed, .int .i64 f.of_]
  val : BlkT wr (w1.heap.size + 1) 48 #[.int .i64 f.number, .slice W wn wc, .slice T tn tc, .slice X xn xc]
  words : Own w1 wr 68 1 W wn wc (ws.map uv)
  wordsL : wn = ws.length
  small : ∀ x ∈ ws, x < 18446744073709551616
  texts : Own w1 wr 9 1 T tn tc (ts.map strV)
  textsL : tn = ts.length
  sizes : ∀ t ∈ ts, t.size ≤ maxLen
  subs : Own w1 wr 40 2 X xn xc (ys.flatMap treeC)
  subsL : xn = ys.length
  trees : ∀ y ∈ ys, TreeAt wr y
  away : ∀ y ∈ ys, ∀ b, UsesT y b → w1.heap.size + 2 ≤ b ∧ (Value.slice X 0 0).ownBlock ≠ some b
  join : Own w1 wr 5 1 J jn jc (js.map bv)
  joinL : jn = js.length

section
variable {w1 wr w' w7 W0 : World} {f : FieldD} {ws : List Nat} {ts : List ByteArray} {js : List UInt8} {ys : List MsgR} {W : Option Addr} {wn wc : Nat} {T : Option Addr} {tn tc : Nat} {X : Option Addr} {xn xc : Nat} {J : Option Addr} {jn jc : Nat}

theorem RIn.up (h : RIn w1 wr f ws ts js ys W wn wc T tn tc X xn xc J jn jc) (k : Ext wr w') : RIn w1 w' f ws ts js ys W wn wc T tn tc X xn xc J jn jc :=
  ⟨h.fld.up k, h.val.up k, h.words.up k, h.wordsL, h.small, h.texts.up k, h.textsL, h.sizes, h.subs.up k, h.subsL, fun y hy => (h.trees y hy).up k, h.away, h.join.up k, h.joinL⟩

theorem RIn.reset (h : RIn w1 wr f ws ts js ys W wn wc T tn tc X xn xc J jn jc) (hy : ys = []) :
    RIn w1 ((wr.setCell ⟨w1.heap.size + 1, 1, none⟩ (.slice none 0 0)).setCell ⟨w1.heap.size + 1, 2, none⟩ (.slice none 0 0)) f [] [] js ys none 0 0 none 0 0 X xn xc J jn jc := by
  subst hy
  have hl : w1.heap.size ≤ w1.heap.size + 1 := Nat.le_succ _
  have h2 := h.val.set_ 1 (.slice none 0 0)
  have X1 := (h.words.ext.setCell (p := ⟨w1.heap.size + 1, 1, none⟩) hl (.slice none 0 0)).setCell (p := ⟨w1.heap.size + 1, 2, none⟩) hl (.slice none 0 0)
  refine ⟨(h.fld.set_far 1 (by omega) _).set_far 2 (by omega) _, ?_, Own.nil X1 _ _, rfl, (fun x hx => by cases hx), Own.nil X1 _ _, rfl, (fun x hx => by cases hx), ?_, h.subsL, (fun y hy => by cases hy), (fun y hy => by cases hy), ?_, h.joinL⟩
  · have := h2.set_ 2 (.slice none 0 0)
    simpa using this
  · exact (h.subs.far h.val (by decide) hl 1 _).far h2 (by decide) hl 2 _
  · exact (h.join.far h.val (by decide) hl 1 _).far h2 (by decide) hl 2 _

theorem RIn.more_words (h : RIn w1 wr f ws ts js ys W wn wc T tn tc X xn xc J jn jc) (hy : ys = []) (E0 : Ext wr W0) {l : List Nat} {m : Nat} (hm : l.length = m) (hs : ∀ x ∈ l, x < 18446744073709551616) {A7 : Option Addr} {c7 : Nat}
    (own7 : Own w1 w7 68 1 A7 (wn + m) c7 (ws.map uv ++ l.map uv)) (g7 : W0.grownBy w7 (Value.slice W wn wc).ownBlock) :
    RIn w1 (w7.setCell ⟨w1.heap.size + 1, 1, none⟩ (.slice A7 (wn + m) c7)) f (ws ++ l) ts js ys A7 (wn + m) c7 T tn tc X xn xc J jn jc := by
  subst hy
  subst hm
  have hl : w1.heap.size ≤ w1.heap.size + 1 := Nat.le_succ _
  have h0 := h.up E0
  have hv := h0.val.beside h0.words (by decide) g7
  refine ⟨(h0.fld.beside h0.words (by decide) g7).set_far 1 (by omega) _, ?_, ?_, by rw [List.length_append, h.wordsL], ?_, ?_, h.textsL, h.sizes, ?_, h.subsL, (fun y hy => by cases hy), (fun y hy => by cases hy), ?_, h.joinL⟩
  · have := hv.set_ 1 (.slice A7 (wn + l.length) c7)
    simpa using this
  · rw [List.map_append]
    exact own7.far hv (by decide) hl 1 _
  · intro x hx
    rcases List.mem_append.1 hx with hx | hx
    · exact h.small x hx
    · exact hs x hx
  · exact (h0.texts.beside h0.words (by decide) (Ext.refl _) g7 own7.ext).far hv (by decide) hl 1 _
  · exact (h0.subs.beside h0.words (by decide) (Ext.refl _) g7 own7.ext).far hv (by decide) hl 1 _
  · exact (h0.join.beside h0.words (by decide) (Ext.refl _) g7 own7.ext).far hv (by decide) hl 1 _

theorem RIn.more_text (h : RIn w1 wr f ws ts js ys W wn wc T tn tc X xn xc J jn jc) (hy : ys = []) (E0 : Ext wr W0) {t : ByteArray} (hs : t.size ≤ maxLen) {A7 : Option Addr} {c7 : Nat}
    (own7 : Own w1 w7 9 1 A7 (tn + 1) c7 (ts.map strV ++ [.string t])) (g7 : W0.grownBy w7 (Value.slice T tn tc).ownBlock) :
    RIn w1 (w7.setCell ⟨w1.heap.size + 1, 2, none⟩ (.slice A7 (tn + 1) c7)) f ws (ts ++ [t]) js ys W wn wc A7 (tn + 1) c7 X xn xc J jn jc := by
  subst hy
  have hl : w1.heap.size ≤ w1.heap.size + 1 := Nat.le_succ _
  have h0 := h.up E0
  have hv := h0.val.beside h0.texts (by decide) g7
  refine ⟨(h0.fld.beside h0.texts (by decide) g7).set_far 2 (by omega) _, ?_, ?_, h.wordsL, h.small, ?_, by rw [List.length_append, h.textsL]; rfl, ?_, ?_, h.subsL, (fun y hy => by cases hy), (fun y hy => by cases hy), ?_, h.joinL⟩
  · have := hv.set_ 2 (.slice A7 (tn + 1) c7)
    simpa using this
  · exact (h0.words.beside h0.texts (by decide) (Ext.refl _) g7 own7.ext).far hv (by decide) hl 2 _
  · rw [List.map_append]
    exact own7.far hv (by decide) hl 2 _
  · intro x hx
    rcases List.mem_append.1 hx with hx | hx
    · exact h.sizes x hx
    · rw [List.mem_singleton] at hx
      subst hx
      exact hs
  · exact (h0.subs.beside h0.texts (by decide) (Ext.refl _) g7 own7.ext).far hv (by decide) hl 2 _
  · exact (h0.join.beside h0.texts (by decide) (Ext.refl _) g7 own7.ext).far hv (by decide) hl 2 _

theorem RIn.more_join (h : RIn w1 wr f ws ts js ys W wn wc T tn tc X xn xc J jn jc) (hy : ys = []) {v : List UInt8} {m : Nat} (hm : v.length = m) {A7 : Option Addr} {c7 : Nat}
    (own7 : Own w1 w7 5 1 A7 (jn + m) c7 (js.map bv ++ v.map bv)) (g7 : wr.grownBy w7 (Value.slice J jn jc).ownBlock) :
    RIn w1 w7 f ws ts (js ++ v) ys W wn wc T tn tc X xn xc A7 (jn + m) c7 := by
  subst hy
  subst hm
  refine ⟨h.fld.beside h.join (by decide) g7, h.val.beside h.join (by decide) g7, h.words.beside h.join (by decide) (Ext.refl _) g7 own7.ext, h.wordsL, h.small, h.texts.beside h.join (by decide) (Ext.refl _) g7 own7.ext, h.textsL, h.sizes, h.subs.beside h.join (by decide) (Ext.refl _) g7 own7.ext, h.subsL, (fun y hy => by cases hy), (fun y hy => by cases hy), ?_, by rw [List.length_append, h.joinL]⟩
  rw [List.map_append]
  exact own7

theorem RIn.more_sub (h : RIn w1 wr f ws ts js ys W wn wc T tn tc X xn xc J jn jc) {w5 : World} (E0 : Ext wr w5) {y : MsgR} (hy : TreeAt w5 y) (hu : ∀ b, UsesT y b → wr.heap.size ≤ b) {ob : Obj} {A7 : Option Addr} {c7 : Nat}
    (own7 : Own w1 w7 40 2 A7 (xn + 1) c7 (ys.flatMap treeC ++ treeC y)) (g7 : (w5.alloc ob).grownBy w7 (Value.slice X xn xc).ownBlock) (m7 : Moved (w5.alloc ob) X A7) :
    RIn w1 (w7.setCell ⟨w1.heap.size + 1, 3, none⟩ (.slice A7 (xn + 1) c7)) f ws ts js (ys ++ [y]) W wn wc T tn tc A7 (xn + 1) c7 J jn jc := by
  have hl : w1.heap.size ≤ w1.heap.size + 1 := Nat.le_succ _
  have h0 := h.up (E0.alloc ob)
  have hv := h0.val.beside h0.subs (by decide) g7
  have hvl := h.val.lt
  have hsz : w5.heap.size < (w5.alloc ob).heap.size := by simp
  have hS : Stays (fun b => (Value.slice X 0 0).ownBlock ≠ some b ∧ b ≠ w1.heap.size + 1) (w5.alloc ob) (w7.setCell ⟨w1.heap.size + 1, 3, none⟩ (.slice A7 (xn + 1) c7)) :=
    (Stays.grown g7 (fun b hb q => q.1 (by rw [ownBlock_any X xn xc 0 0] at hb; exact hb))).set (fun q => q.2 rfl) _
  have hall : ∀ z ∈ ys ++ [y], TreeAt w5 z ∧ ∀ b, UsesT z b → w1.heap.size + 2 ≤ b ∧ (Value.slice X 0 0).ownBlock ≠ some b := by
    intro z hz
    rcases List.mem_append.1 hz with hz | hz
    · exact ⟨(h.trees z hz).up E0, h.away z hz⟩
    · rw [List.mem_singleton] at hz
      subst hz
      refine ⟨hy, fun b hb => ?_⟩
      have := hu b hb
      refine ⟨by omega, fun q => ?_⟩
      have := (h.subs.new_lt q).2
      omega
  refine ⟨(h0.fld.beside h0.subs (by decide) g7).set_far 3 (by omega) _, ?_, ?_, h.wordsL, h.small, ?_, h.textsL, h.sizes, ?_, by rw [List.length_append, h.subsL]; rfl, fun z hz => ?_, fun z hz b hb => ?_, ?_, h.joinL⟩
  · have := hv.set_ 3 (.slice A7 (xn + 1) c7)
    simpa using this
  · exact (h0.words.beside h0.subs (by decide) (Ext.refl _) g7 own7.ext).far hv (by decide) hl 3 _
  · exact (h0.texts.beside h0.subs (by decide) (Ext.refl _) g7 own7.ext).far hv (by decide) hl 3 _
  · rw [List.flatMap_append]
    have := own7.far hv (by decide) hl 3 (.slice A7 (xn + 1) c7)
    simpa using this
  · refine ((hall z hz).1.up ((Ext.refl w5).alloc ob)).stays hS (fun b hb => ?_)
    have := (hall z hz).2 b hb
    exact ⟨this.2, by omega⟩
  · have h1 := (hall z hz).2 b hb
    refine ⟨h1.1, ?_⟩
    rcases m7 with q | q
    · rw [q]
      exact h1.2
    · rw [q]
      intro r
      injection r with r
      have := (hall z hz).1.lt hb
      omega
  · exact (h0.join.beside h0.subs (by decide) (Ext.refl _) g7 own7.ext).far hv (by decide) hl 3 _

theorem RIn.one_sub (h : RIn w1 wr f ws ts js [] W wn wc T tn tc X xn xc J jn jc) {w5 : World} (E0 : Ext wr w5) {y : MsgR} (hy : TreeAt w5 y) (hu : ∀ b, UsesT y b → wr.heap.size ≤ b) :
    RIn w1 ((w5.alloc (.cells (treeC y).toArray 40)).setCell ⟨w1.heap.size + 1, 3, none⟩ (.slice (some ⟨w5.heap.size, 0, none⟩) 1 1)) f ws ts js [y] W wn wc T tn tc (some ⟨w5.heap.size, 0, none⟩) 1 1 J jn jc := by
  have hl : w1.heap.size ≤ w1.heap.size + 1 := Nat.le_succ _
  have h5 := h.up E0
  have h0 := h5.up ((Ext.refl w5).alloc (.cells (treeC y).toArray 40))
  have hvl := h.val.lt
  have hv5 := h5.val.lt
  have hsz := E0.size
  have hrow : Own w1 (w5.alloc (.cells (treeC y).toArray 40)) 40 2 (some ⟨w5.heap.size, 0, none⟩) 1 1 (treeC y) := Own.made h5.words.ext _ _ (by unfold maxLen; omega) rfl
  have hfar := hrow.far h0.val (by decide) hl 3 (.slice (some ⟨w5.heap.size, 0, none⟩) 1 1)
  refine ⟨h0.fld.set_far 3 (by omega) _, ?_, h0.words.far h0.val (by decide) hl 3 _, h.wordsL, h.small, h0.texts.far h0.val (by decide) hl 3 _, h.textsL, h.sizes, ?_, rfl, fun z hz => ?_, fun z hz b hb => ?_, h0.join.far h0.val (by decide) hl 3 _, h.joinL⟩
  · have := h0.val.set_ 3 (.slice (some ⟨w5.heap.size, 0, none⟩) 1 1)
    simpa using this
  · simpa using hfar
  · rw [List.mem_singleton] at hz
    subst hz
    refine (hy.up ((Ext.refl w5).alloc _)).stays ((Stays.refl (fun b => b ≠ w1.heap.size + 1) _).set (fun q => q rfl) _) (fun b hb => ?_)
    have := hu b hb
    omega
  · rw [List.mem_singleton] at hz
    subst hz
    have h1 := hu b hb
    have h2 := hy.lt hb
    refine ⟨by omega, fun q => ?_⟩
    injection q with q
    have q' : w5.heap.size = b := q
    omega

theorem RIn.done (h : RIn w1 wr f ws ts js ys W wn wc T tn tc X xn xc J jn jc) (hok : f.Ok) {u : ValR} (hu : u = ⟨(W, wc), (T, tc), (X, xc), f.number, ws, ts, ys⟩) :
    BlkT wr (w1.heap.size + 1) 48 #[.int .i64 u.number, .slice u.a.1 u.words.length u.a.2, .slice u.b.1 u.texts.length u.b.2, .slice u.c.1 u.subs.length u.c.2] ∧ ValAt wr u ∧ ∀ b, UsesV u b → w1.heap.size ≤ b := by
  subst hu
  have hw := h.wordsL
  have ht := h.textsL
  have hx := h.subsL
  subst hw
  subst ht
  subst hx
  refine ⟨h.val, ⟨⟨?_, h.words.reads, h.small, ⟨h.texts.reads, h.sizes⟩, h.subs.reads⟩, h.trees⟩, fun b hb => ?_⟩
  · have := hok.number
    exact ⟨by show -9223372036854775808 ≤ f.number; omega, by show f.number < 9223372036854775808; omega⟩
  · rcases hb with (hb | hb | hb) | ⟨y, hy, hb⟩
    · exact h.words.uses_new hb
    · exact h.texts.uses_new hb
    · exact h.subs.uses_new hb
    · have := (h.away y hy b hb).1
      omega
end

theorem rin_words {f : FieldD} (hr : f.rep = true) (ws l : List Nat) : pwordsO f (ws ++ l) = pwordsO f ws ++ l := by
  unfold pwordsO
  rw [if_pos hr, if_pos hr]

theorem rin_word {f : FieldD} (hr : f.rep = false) (ws : List Nat) (x : Nat) : pwordsO f (ws ++ [x]) = [x] := by
  unfold pwordsO
  rw [if_neg (by simp [hr]), lastO_snoc]

theorem rin_texts {f : FieldD} (hk : f.kind ≠ 17) (hr : f.rep = true) (ps : List (List UInt8)) (v : List UInt8) : rtextsO f (ps ++ [v]) = rtextsO f ps ++ [textO v] := by
  unfold rtextsO ppiecesO
  simp [hk, hr]

theorem rin_text {f : FieldD} (hk : f.kind ≠ 17) (hr : f.rep = false) (ps : List (List UInt8)) (v : List UInt8) : rtextsO f (ps ++ [v]) = [textO v] := by
  unfold rtextsO ppiecesO
  rw [if_neg hk, if_neg (by simp [hr]), if_neg hk, lastO_snoc]
  rfl

theorem rin_text17 {f : FieldD} (hk : f.kind = 17) (ps : List (List UInt8)) : rtextsO f ps = [] := if_pos hk

theorem rin_join17 {f : FieldD} (hk : f.kind = 17) (hr : f.rep = false) (ps : List (List UInt8)) (v : List UInt8) : rjoinO f (ps ++ [v]) = rjoinO f ps ++ v := by
  unfold rjoinO
  rw [if_pos ⟨hk, hr⟩, if_pos ⟨hk, hr⟩, List.flatten_append]
  simp

theorem rin_join {f : FieldD} (h : f.kind ≠ 17 ∨ f.rep = true) (ps : List (List UInt8)) : rjoinO f ps = [] := by
  unfold rjoinO
  rw [if_neg]
  rintro ⟨h1, h2⟩
  rcases h with h | h
  · exact h h1
  · rw [h] at h2
    cases h2

theorem rin_subs17 {sub : Nat → List UInt8 → MsgT} {f : FieldD} (hk : f.kind = 17) (hr : f.rep = true) (ps : List (List UInt8)) (v : List UInt8) : rsubsO sub f (ps ++ [v]) = rsubsO sub f ps ++ [sub f.of_.toNat v] := by
  unfold rsubsO
  rw [if_pos ⟨hk, hr⟩, if_pos ⟨hk, hr⟩, List.map_append]
  rfl

theorem rin_subs {sub : Nat → List UInt8 → MsgT} {f : FieldD} (h : f.kind ≠ 17 ∨ f.rep = false) (ps : List (List UInt8)) : rsubsO sub f ps = [] := by
  unfold rsubsO
  rw [if_neg]
  rintro ⟨h1, h2⟩
  rcases h with h | h
  · exact h h1
  · rw [h] at h2
    cases h2

theorem rin_start (sub : Nat → List UInt8 → MsgT) (f : FieldD) : pwordsO f [] = [] ∧ rtextsO f [] = [] ∧ rjoinO f [] = [] ∧ rsubsO sub f [] = [] := by
  refine ⟨?_, ?_, ?_, ?_⟩
  · unfold pwordsO
    split <;> rfl
  · unfold rtextsO ppiecesO
    split
    · rfl
    · split
      · rfl
      · rfl
  · unfold rjoinO
    split <;> rfl
  · unfold rsubsO
    split <;> rfl

theorem rin_value {sub : Nat → List UInt8 → MsgT} {f : FieldD} {ws : List Nat} {ps : List (List UInt8)} : valueU sub f ws ps = ⟨(), (), (), f.number, pwordsO f ws, rtextsO f ps, if f.kind = 17 ∧ f.rep = false then [sub f.of_.toNat (rjoinO f ps)] else rsubsO sub f ps⟩ := by
  unfold valueU rtextsO rsubsO rjoinO ppiecesO
  by_cases h17 : f.kind = 17
  · rcases hr : f.rep with _ | _
    · simp [h17]
    · simp [h17]
  · simp [h17]

def unkO (bs : List UInt8) (L : List ViewD) : List ByteArray := (L.filter fun v => decide (v.field < 0)).map fun v => textO (spanB bs v.r.f v.r.t)

theorem unkO_yes {bs : List UInt8} {L : List ViewD} {k : Nat} {v : ViewD} (h : L[k]? = some v) (hv : v.field < 0) : unkO bs (L.take (k + 1)) = unkO bs (L.take k) ++ [textO (spanB bs v.r.f v.r.t)] := by
  unfold unkO
  rw [take_snoc _ _ _ h, List.filter_append, List.map_append]
  simp [hv]

theorem unkO_no {bs : List UInt8} {L : List ViewD} {k : Nat} {v : ViewD} (h : L[k]? = some v) (hv : ¬ v.field < 0) : unkO bs (L.take (k + 1)) = unkO bs (L.take k) := by
  unfold unkO
  rw [take_snoc _ _ _ h, List.filter_append, List.map_append]
  simp [hv]

theorem unkO_le (bs : List UInt8) (L : List ViewD) (k : Nat) : (unkO bs (L.take k)).length ≤ L.length := by
  unfold unkO
  rw [List.length_map]
  refine Nat.le_trans (List.length_filter_le _ _) ?_
  rw [List.length_take]
  omega

end Go.Proofs.YtpicpebolghcfaaGreatDoor

/- Contracts of layer 14: a field's pieces. -/




namespace Go.Proofs.YtpicpebolghcfaaGreatDoor
open Go.RowKit
set_option linter.unusedVariables false

theorem wordsV_small (k : Int) (bs : List UInt8) : ∀ x ∈ (wordsV k bs).1, x < 18446744073709551616 := by
  intro x hx
  unfold wordsV at hx
  split at hx
  · obtain ⟨v, _, rfl⟩ := List.mem_map.1 hx
    exact (readS_bd k v.1).1
  · cases hx

end Go.Proofs.YtpicpebolghcfaaGreatDoor
