/- Words of my own for memory: slices of bytes that a call makes one by one. -/
import Derived.Test.YtnnphodgegcddaaGreatQdW16
import Derived.Test.YtnnphodgegcddaaGreatQdW17
import Derived.Test.YtnnphodgegcddaaGreatQdM14p

namespace Go.Proofs.YtnnphodgegcddaaGreat
open Go.RowKit Go.Shelf
set_option linter.unusedVariables false

structure PartsB (w0 w : World) (A : Option Addr) (n c : Nat) (l : List BRow) : Prop where
 own : Own w0 w 24 1 A n c (l.map browV)
 each : ∀ r ∈ l, BytesAt w r.A r.n r.c r.bs
 apart : ∀ r ∈ l, ∀ b, UsesA r.A r.n b → (Value.slice A 0 0).ownBlock ≠ some b

theorem PartsB.nil (w : World) : PartsB w w none 0 0 [] := ⟨Own.nil (Ext.refl _) _ _, fun r h => (by cases h), fun r h => (by cases h)⟩

theorem PartsB.rows {w0 w : World} {A : Option Addr} {n c : Nat} {l : List BRow} (h : PartsB w0 w A n c l) : BRowsAt w A n c l := ⟨h.own.reads, h.each⟩

theorem uses_lt {w : World} {A : Option Addr} {n c : Nat} {bs : List UInt8} (h : BytesAt w A n c bs) {b : Nat} (hu : UsesA A n b) : b < w.heap.size := by
 obtain ⟨h0, p, rfl, rfl⟩ := hu
 obtain ⟨b, off, e, hb, _⟩ := h.at_ h0
 cases e
 exact hb

theorem own_new {w0 w : World} {A : Option Addr} {n c : Nat} {xs : List Value} {e : TypeId} {size : Nat} (h : Own w0 w e size A n c xs) : ∀ b, UsesA A n b → w0.heap.size ≤ b := by
 rintro b ⟨h0, p, rfl, rfl⟩
 have := (h.row.lt p.block (Reads.row_uses (b := p.block) ⟨h0, p, rfl, rfl⟩ h |> fun q => by rw [ownBlock_any _ n c 0 0]; exact q)).1
 exact this

theorem PartsB.more {w0 w w1 w' : World} {A A' : Option Addr} {n c c' : Nat} {l : List BRow} {r : BRow} (h : PartsB w0 w A n c l) (X : Ext w w1) (hr : BytesAt w1 r.A r.n r.c r.bs) (hu : ∀ b, UsesA r.A r.n b → w.heap.size ≤ b)
  (own' : Own w0 w' 24 1 A' (n + 1) c' (l.map browV ++ [browV r])) (g : w1.grownBy w' (Value.slice A n c).ownBlock) (m : Moved w1 A A') : PartsB w0 w' A' (n + 1) c' (l ++ [r]) := by
 have st : Stays (fun b => (Value.slice A 0 0).ownBlock ≠ some b) w1 w' := Stays.grown g (fun k hk q => q (by rw [ownBlock_any A 0 0 n c]; exact hk))
 have hl : ∀ b, (Value.slice A 0 0).ownBlock = some b → b < w.heap.size := fun b hb => by
  have := (h.own.row.lt b (by rw [ownBlock_any A n c 0 0]; exact hb)).2
  exact this
 have ap : ∀ q ∈ l ++ [r], ∀ b, UsesA q.A q.n b → (Value.slice A 0 0).ownBlock ≠ some b ∧ b < w1.heap.size := fun q hq b hb => by
  rcases List.mem_append.1 hq with hq | hq
  · exact ⟨h.apart q hq b hb, Nat.lt_of_lt_of_le (uses_lt (h.each q hq) hb) X.size⟩
  · simp only [List.mem_singleton] at hq
    subst hq
    refine ⟨fun e => ?_, uses_lt hr hb⟩
    have h1 := hl b e
    have h2 := hu b hb
    omega
 have at1 : ∀ q ∈ l ++ [r], BytesAt w1 q.A q.n q.c q.bs := fun q hq => by
  rcases List.mem_append.1 hq with hq | hq
  · exact (h.each q hq).up X
  · simp only [List.mem_singleton] at hq
    subst hq
    exact hr
 refine ⟨by rw [List.map_append]; exact own', fun q hq => Reads.stays (at1 q hq) st (fun b hb => (ap q hq b hb).1), fun q hq b hb e => ?_⟩
 obtain ⟨a1, a2⟩ := ap q hq b hb
 rcases m with m | m
 · rw [m] at e
   exact a1 e
 · rw [m] at e
   injection e with e
   omega

theorem conv_textN (w : World) (t : ByteArray) (ht : t.data.toList.length ≤ maxLen) : ∃ (A : Option Addr) (c : Nat) (W2 : World), (convert 9 24 (.string t)).run Tryz.prog w = .ok (.slice A t.data.toList.length c) W2 ∧ Ext w W2 ∧ BytesAt W2 A t.data.toList.length c t.data.toList ∧ ∀ b, UsesA A t.data.toList.length b → w.heap.size ≤ b := by
 obtain ⟨A, c, W2, h1, h2, h3⟩ := conv_text w t ht
 refine ⟨A, c, W2, h1, h2, h3, ?_⟩
 have hsz : t.size = t.data.toList.length := rfl
 have hr := Go.Lib.run_convert_string_bytes (P := Tryz.prog) w 9 24 5 t Tryz.underlying9 Tryz.underlying24 Tryz.underlying5
 have e := h1.symm.trans hr
 injection e with e _
 injection e with e _ _
 rintro b ⟨_, p, hp, rfl⟩
 rw [e] at hp
 injection hp with hp
 rw [← hp]
 exact Nat.le_refl _

theorem bytes_aside {w0 wr w8 w9 : World} {V A7 : Option Addr} {vn vc L c7 : Nat} {xs : List Value} {T : List UInt8} (own : Own w0 wr 5 1 V vn vc xs) (h : BytesAt w8 A7 L c7 T) (hu : ∀ b, UsesA A7 L b → wr.heap.size ≤ b)
  (g : w8.grownBy w9 (Value.slice V vn vc).ownBlock) : BytesAt w9 A7 L c7 T := by
 have st : Stays (fun b => (Value.slice V vn vc).ownBlock ≠ some b) w8 w9 := Stays.grown g (fun k hk q => q hk)
 refine Reads.stays h st (fun b hb e => ?_)
 have h1 := (own.row.lt b e).2
 have h2 := hu b hb
 omega

end Go.Proofs.YtnnphodgegcddaaGreat
