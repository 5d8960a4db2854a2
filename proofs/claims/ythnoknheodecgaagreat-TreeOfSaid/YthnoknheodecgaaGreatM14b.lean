/- Words of my own for memory: which blocks a meaning uses, and that it stays where these stay. No program is named. -/
import Derived.Test.YthnoknheodecgaaGreatM14
namespace Go.Proofs.YthnoknheodecgaaGreat
open Go.RowKit
set_option linter.unusedVariables false

/-- Block b is used by a slice of so many at A. -/
def UsesA (A : Option Addr) (n : Nat) (b : Nat) : Prop := 0 < n ∧ ∃ p, A = some p ∧ p.block = b

/-- .. by a value's own slices. -/
def UsesL (v : ValR) (b : Nat) : Prop := UsesA v.a.1 v.words.length b ∨ UsesA v.b.1 v.texts.length b ∨ UsesA v.c.1 v.subs.length b

/-- .. by a meaning. -/
inductive UsesT : MsgR → Nat → Prop
  | vals {x : MsgR} {b : Nat} (h : UsesA x.a.1 x.vals.length b) : UsesT x b
  | unk {x : MsgR} {b : Nat} (h : UsesA x.b.1 x.unk.length b) : UsesT x b
  | val {x : MsgR} {b : Nat} {v : ValR} (hv : v ∈ x.vals) (h : UsesL v b) : UsesT x b
  | sub {x : MsgR} {b : Nat} {v : ValR} {y : MsgR} (hv : v ∈ x.vals) (hy : y ∈ v.subs) (h : UsesT y b) : UsesT x b

/-- .. by a value, with its messages. -/
def UsesV (v : ValR) (b : Nat) : Prop := UsesL v b ∨ ∃ y ∈ v.subs, UsesT y b

theorem UsesT.cases' {x : MsgR} {b : Nat} (h : UsesT x b) : UsesA x.a.1 x.vals.length b ∨ UsesA x.b.1 x.unk.length b ∨ ∃ v ∈ x.vals, UsesV v b := by
  cases h with
  | vals h => exact .inl h
  | unk h => exact .inr (.inl h)
  | val hv h => exact .inr (.inr ⟨_, hv, .inl h⟩)
  | sub hv hy h => exact .inr (.inr ⟨_, hv, .inr ⟨_, hy, h⟩⟩)

theorem UsesT.of_val {x : MsgR} {b : Nat} {v : ValR} (hv : v ∈ x.vals) (h : UsesV v b) : UsesT x b := by
  rcases h with h | ⟨y, hy, h⟩
  · exact .val hv h
  · exact .sub hv hy h

/-- The blocks that a property names stay as they are. -/
structure Stays (s : Nat → Prop) (w w' : World) : Prop where
  size : w.heap.size ≤ w'.heap.size
  block : ∀ b, s b → b < w.heap.size → w'.heap[b]? = w.heap[b]?

section
variable {w w' w'' : World} {s : Nat → Prop}

theorem Stays.refl (s : Nat → Prop) (w : World) : Stays s w w := ⟨Nat.le_refl _, fun _ _ _ => rfl⟩

theorem Stays.trans (h : Stays s w w') (k : Stays s w' w'') : Stays s w w'' := ⟨Nat.le_trans h.size k.size, fun b hs hb => (k.block b hs (Nat.lt_of_lt_of_le hb h.size)).trans (h.block b hs hb)⟩

theorem Stays.of_ext (h : Ext w w') : Stays s w w' := ⟨h.size, fun b _ hb => h.block b hb⟩

theorem Stays.less {t : Nat → Prop} (h : Stays s w w') (ht : ∀ b, t b → s b) : Stays t w w' := ⟨h.size, fun b hb => h.block b (ht b hb)⟩

theorem Stays.set (h : Stays s w w') {p : Addr} (hp : ¬ s p.block) (u : Value) : Stays s w (w'.setCell p u) :=
  ⟨by simpa [World.setCell] using h.size, fun b hs hb => (Below.heap_setCell w' p u b (fun e => hp (by rw [← e]; exact hs))).trans (h.block b hs hb)⟩

theorem Stays.grown {g : Option Nat} (h : w.grownBy w' g) (hg : ∀ k, g = some k → ¬ s k) : Stays s w w' :=
  ⟨h.size, fun b hs hb => h.block b hb (fun e => hg b e.symm hs)⟩

theorem Stays.cell (h : Stays s w w') {p : Addr} (hs : s p.block) {v : Value} (hc : w.cell? p = some v) : w'.cell? p = some v := by
  rw [← hc]
  exact World.cell?_of_block (h.block p.block hs (World.block_lt_of_cell? w p hc))

theorem Reads.stays {A : Option Addr} {n c size : Nat} {xs : List Value} (h : Reads w A n c size xs) (k : Stays s w w') (hu : ∀ b, UsesA A n b → s b) : Reads w' A n c size xs :=
  ⟨h.len, h.cap, h.max, fun hn => by
    obtain ⟨b, off, e, hb, hc⟩ := h.at_ hn
    exact ⟨b, off, e, Nat.lt_of_lt_of_le hb k.size, fun j u hj => k.cell (hu b ⟨hn, _, e, rfl⟩) (hc j u hj)⟩⟩

theorem Reads.uses_lt {A : Option Addr} {n c size b : Nat} {xs : List Value} (h : Reads w A n c size xs) (hu : UsesA A n b) : b < w.heap.size := by
  obtain ⟨hn, p, e, rfl⟩ := hu
  obtain ⟨b', off, e', hb, _⟩ := h.at_ hn
  rw [e] at e'
  cases e'
  exact hb

theorem TextsAt.stays {A : Sl} {l : List ByteArray} (h : TextsAt w A l) (k : Stays s w w') (hu : ∀ b, UsesA A.1 l.length b → s b) : TextsAt w' A l := ⟨h.at_.stays k hu, h.size⟩

theorem ValL.stays {v : ValR} (h : ValL w v) (k : Stays s w w') (hu : ∀ b, UsesL v b → s b) : ValL w' v :=
  ⟨h.num, h.words.stays k (fun b hb => hu b (.inl hb)), h.small, h.texts.stays k (fun b hb => hu b (.inr (.inl hb))), h.subs.stays k (fun b hb => hu b (.inr (.inr hb)))⟩

theorem TreeAt.stays {x : MsgR} (h : TreeAt w x) (k : Stays s w w') (hu : ∀ b, UsesT x b → s b) : TreeAt w' x := by
  induction h with
  | mk x vals unk each sub ih =>
    exact .mk x (vals.stays k (fun b hb => hu b (.vals hb))) (unk.stays k (fun b hb => hu b (.unk hb))) (fun v hv => (each v hv).stays k (fun b hb => hu b (.val hv hb))) (fun v hv y hy => ih v hv y hy (fun b hb => hu b (.sub hv hy hb)))

theorem ValAt.stays {v : ValR} (h : ValAt w v) (k : Stays s w w') (hu : ∀ b, UsesV v b → s b) : ValAt w' v :=
  ⟨h.own.stays k (fun b hb => hu b (.inl hb)), fun y hy => (h.sub y hy).stays k (fun b hb => hu b (.inr ⟨y, hy, hb⟩))⟩

theorem ValL.lt {v : ValR} {b : Nat} (h : ValL w v) (hu : UsesL v b) : b < w.heap.size := by
  rcases hu with hu | hu | hu
  · exact h.words.uses_lt hu
  · exact h.texts.at_.uses_lt hu
  · exact h.subs.uses_lt hu

theorem TreeAt.lt {x : MsgR} {b : Nat} (h : TreeAt w x) (hu : UsesT x b) : b < w.heap.size := by
  induction hu with
  | vals hu => exact h.vals.uses_lt hu
  | unk hu => exact h.unk.at_.uses_lt hu
  | val hv hu => exact (h.each _ hv).lt hu
  | sub hv hy _ ih => exact ih (h.sub _ hv _ hy)

theorem ValAt.lt {v : ValR} {b : Nat} (h : ValAt w v) (hu : UsesV v b) : b < w.heap.size := by
  rcases hu with hu | ⟨y, hy, hu⟩
  · exact h.own.lt hu
  · exact (h.sub y hy).lt hu

/-- A row of the call's own lies in new blocks. -/
theorem Own.uses_new {w0 w : World} {e : TypeId} {size n c b : Nat} {A : Option Addr} {xs : List Value} (h : Own w0 w e size A n c xs) (hu : UsesA A n b) : w0.heap.size ≤ b := by
  obtain ⟨hn, p, rfl, rfl⟩ := hu
  rcases h.row.2 with ⟨hv, _⟩ | ⟨g, cap, cur, hv, hg, _⟩
  · cases hv
  · cases hv
    exact hg

theorem Own.block_new {w0 w : World} {e : TypeId} {size n c g : Nat} {A : Option Addr} {xs : List Value} (h : Own w0 w e size A n c xs) (hg : (Value.slice A n c).ownBlock = some g) : w0.heap.size ≤ g ∧ g < w.heap.size := h.row.lt g hg

/-- An append onto a row of the call's own: where the row then lies: in the block where it was, or in a new one. -/
theorem UsesA.block {A : Option Addr} {n c b : Nat} (h : UsesA A n b) (h0 : ∀ p, A = some p → p.off = 0 ∧ p.spot = none) : (Value.slice A n c).ownBlock = some b := by
  obtain ⟨_, p, rfl, rfl⟩ := h
  obtain ⟨b, o, s⟩ := p
  obtain ⟨rfl, rfl⟩ := h0 _ rfl
  rfl
end

/-- So many at most of each thing. -/
inductive FitT {τ : Type} (B : Nat) : MsgX τ → Prop
  | mk (x : MsgX τ) (vals : x.vals.length ≤ B) (unk : x.unk.length ≤ B) (each : ∀ v ∈ x.vals, v.words.length ≤ B ∧ v.texts.length ≤ B ∧ v.subs.length ≤ B) (sub : ∀ v ∈ x.vals, ∀ y ∈ v.subs, FitT B y) : FitT B x

section
variable {τ : Type} {B : Nat} {x : MsgX τ}

theorem FitT.vals (h : FitT B x) : x.vals.length ≤ B := by cases h; assumption

theorem FitT.unk (h : FitT B x) : x.unk.length ≤ B := by cases h; assumption

theorem FitT.each (h : FitT B x) : ∀ v ∈ x.vals, v.words.length ≤ B ∧ v.texts.length ≤ B ∧ v.subs.length ≤ B := by cases h; assumption

theorem FitT.sub (h : FitT B x) : ∀ v ∈ x.vals, ∀ y ∈ v.subs, FitT B y := by cases h; assumption

theorem FitT.of_bare (x : MsgX τ) (h : FitT B (bare x)) : FitT B x := by
  refine MsgX.ind (P := fun x => FitT B (bare x) → FitT B x) (fun x ih h => ?_) x h
  rw [bare_eq] at h
  have hv := h.vals
  have hu := h.unk
  have he := h.each
  have hs := h.sub
  refine .mk x (by simpa [MsgX.vals] using hv) (by simpa [MsgX.unk] using hu) (fun v hv => ?_) (fun v hv y hy => ih v hv y hy ?_)
  · have := he (bareV v) (List.mem_map.2 ⟨v, hv, rfl⟩)
    simpa [bareV] using this
  · exact hs (bareV v) (List.mem_map.2 ⟨v, hv, rfl⟩) (bare y) (List.mem_map.2 ⟨y, hy, rfl⟩)
end

end Go.Proofs.YthnoknheodecgaaGreat
