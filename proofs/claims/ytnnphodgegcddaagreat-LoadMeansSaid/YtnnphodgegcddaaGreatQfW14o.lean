/- Contracts of layer 14: a meaning as the reference has it. -/
import Derived.Test.YtnnphodgegcddaaGreatQfM14
import Derived.Test.YtnnphodgegcddaaGreatQfW10

namespace Go.Proofs.YtnnphodgegcddaaGreat
open Go.RowKit
set_option linter.unusedVariables false

structure Trees (w wr : World) (b3 : Nat) (A : Option Addr) (old : Nat → Prop) (ys : List MsgR) : Prop where
 at_ : ∀ y ∈ ys, TreeAt wr y
 away : ∀ y ∈ ys, ∀ b, UsesT y b → b ≠ b3 ∧ (Value.slice A 0 0).ownBlock ≠ some b
 from_ : ∀ y ∈ ys, ∀ b, UsesT y b → old b ∨ w.heap.size ≤ b
 size : w.heap.size ≤ wr.heap.size

section
variable {w wr w' : World} {b3 : Nat} {A A' : Option Addr} {old : Nat → Prop} {ys : List MsgR}

theorem Trees.nil (h : w.heap.size ≤ wr.heap.size) : Trees w wr b3 A old [] := ⟨(fun y h => by cases h), (fun y h => by cases h), (fun y h => by cases h), h⟩

theorem Trees.up (h : Trees w wr b3 A old ys) (k : Ext wr w') : Trees w w' b3 A old ys := ⟨fun y hy => (h.at_ y hy).up k, h.away, h.from_, Nat.le_trans h.size k.size⟩

theorem Trees.lt (h : Trees w wr b3 A old ys) : ∀ y ∈ ys, ∀ b, UsesT y b → b < wr.heap.size := fun y hy b hb => (h.at_ y hy).lt hb

theorem Trees.snoc (h : Trees w wr b3 A old ys) {y : MsgR} (hy : TreeAt wr y) (ha : ∀ b, UsesT y b → b ≠ b3 ∧ (Value.slice A 0 0).ownBlock ≠ some b) (hf : ∀ b, UsesT y b → old b ∨ w.heap.size ≤ b) : Trees w wr b3 A old (ys ++ [y]) := by
 refine ⟨fun z hz => ?_, fun z hz => ?_, fun z hz => ?_, h.size⟩
 all_goals
  rcases List.mem_append.1 hz with hz | hz
 · exact h.at_ z hz
 · rw [List.mem_singleton] at hz; subst hz; exact hy
 · exact h.away z hz
 · rw [List.mem_singleton] at hz; subst hz; exact ha
 · exact h.from_ z hz
 · rw [List.mem_singleton] at hz; subst hz; exact hf

theorem Trees.grow (h : Trees w wr b3 A old ys) {W : World} (hE : Ext wr W) {n c : Nat} (hg : W.grownBy w' (Value.slice A n c).ownBlock) (hm : Moved W A A') : Trees w w' b3 A' old ys := by
 have hS : Stays (fun b => (Value.slice A 0 0).ownBlock ≠ some b) W w' := Stays.grown hg (fun k hk => by rw [ownBlock_any A n c 0 0] at hk; exact fun q => q hk)
 refine ⟨fun y hy => ((h.at_ y hy).up hE).stays hS (fun b hb => (h.away y hy b hb).2), fun y hy b hb => ⟨(h.away y hy b hb).1, ?_⟩, h.from_, Nat.le_trans h.size (Nat.le_trans hE.size hS.size)⟩
 have hlt := h.lt y hy b hb
 have hsz := hE.size
 rcases hm with e | e
 · rw [e]; exact (h.away y hy b hb).2
 · rw [e]
   intro q
   injection q with q
   omega

theorem Trees.store (h : Trees w wr b3 A old ys) (o : Nat) (u : Value) : Trees w (wr.setCell ⟨b3, o, none⟩ u) b3 A old ys :=
 ⟨fun y hy => (h.at_ y hy).stays ((Stays.refl (fun b => b ≠ b3) wr).set (fun e => e rfl) u) (fun b hb => (h.away y hy b hb).1), h.away, h.from_, by simpa [World.setCell] using h.size⟩
end

theorem BlkT.set_far {w : World} {b : Nat} {t : TypeId} {cs : Array Value} (h : BlkT w b t cs) {b' : Nat} (o : Nat) (hb : b' ≠ b) (u : Value) : BlkT (w.setCell ⟨b', o, none⟩ u) b t cs := h.far (p := ⟨b', o, none⟩) (fun e => hb e.symm) u

theorem elemStr : Elem Tryz.prog 33 9 1 16 := Elem.mk' (z := .string ⟨#[]⟩) Tryz.underlying33 (by kernel_rfl) rfl (by omega)

section
variable {w wr w' : World} {b3 : Nat} {A A' : Option Addr} {old : Nat → Prop} {U : Sl} {us : List ByteArray} {ys : List ValR}

end

end Go.Proofs.YtnnphodgegcddaaGreat
