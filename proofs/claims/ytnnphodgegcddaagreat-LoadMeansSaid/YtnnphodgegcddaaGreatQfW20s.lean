/- Contracts of layer 14: does a value fit a field, as the reference has it? -/
import Derived.Test.YtnnphodgegcddaaGreatQfW20f
import Derived.Test.YtnnphodgegcddaaGreatQfW11
import Derived.Test.YtnnphodgegcddaaGreatQfW14w
import Derived.StillTailTactics
import Derived.Test.YtnnphodgegcddaaGreatQfW20g
import Derived.Test.YtnnphodgegcddaaGreatQfOpenT

namespace Go.Proofs.YtnnphodgegcddaaGreat
open Go.RowKit Go.Shelf
set_option linter.unusedVariables false

end Go.Proofs.YtnnphodgegcddaaGreat

/- A drawn region of the reference's Right, as laws of its own. (Printed by gen_rreg7.py.) -/


namespace Go.Proofs.YtnnphodgegcddaaGreat
open Go.RowKit Go.Shelf
set_option linter.unusedVariables false
set_option linter.unusedSimpArgs false


end Go.Proofs.YtnnphodgegcddaaGreat

/- Contracts of layer 14: is a meaning right, as the reference has it? (Printed by gen_rright.py.) -/



namespace Go.Proofs.YtnnphodgegcddaaGreat
open Go.RowKit Go.Shelf
set_option linter.unusedVariables false

end Go.Proofs.YtnnphodgegcddaaGreat

/- Contracts of layer 14: the reference's Right and Fits, for meanings of any depth. -/


namespace Go.Proofs.YtnnphodgegcddaaGreat
open Go.RowKit Go.Shelf
set_option linter.unusedVariables false

theorem LongT.unkT {τ : Type} {B : Nat} {x : MsgX τ} (h : LongT B x) : TextsT B x := by
 induction h with
 | mk x unk texts sub ih => exact .mk x unk ih

theorem LongT.of_bare {τ : Type} {B : Nat} (x : MsgX τ) (h : LongT B (bare x)) : LongT B x := by
 refine MsgX.ind (P := fun x => LongT B (bare x) → LongT B x) (fun x ih h => ?_) x h
 rw [bare_eq] at h
 refine .mk x h.unk (fun v hv => h.texts (bareV v) (List.mem_map_of_mem hv)) (fun v hv y hy => ih v hv y hy ?_)
 exact h.sub (bareV v) (List.mem_map_of_mem hv) (bare y) (List.mem_map_of_mem hy)

def FitV (B C : Nat) (v : ValT) : Prop := (v.words.length ≤ B ∧ v.texts.length ≤ B ∧ v.subs.length ≤ B) ∧ (∀ t ∈ v.texts, t.data.toList.length ≤ C) ∧ ∀ y ∈ v.subs, FitT B y ∧ LongT C y

theorem FitV.lens {B C : Nat} {v : ValR} (h : FitV B C (bareV v)) : v.words.length ≤ B ∧ v.texts.length ≤ B ∧ v.subs.length ≤ B := by
 obtain ⟨⟨h1, h2, h3⟩, _⟩ := h
 refine ⟨h1, h2, ?_⟩
 have : (v.subs.map bare).length ≤ B := h3
 rwa [List.length_map] at this

theorem FitV.subs {B C : Nat} {v : ValR} (h : FitV B C (bareV v)) : ∀ y ∈ v.subs, FitT B y ∧ LongT C y := fun y hy => by
 have := h.2.2 (bare y) (List.mem_map_of_mem hy)
 exact ⟨FitT.of_bare y this.1, LongT.of_bare y this.2⟩

theorem tFitsT {A : Option Addr} {n c : Nat} {S : List MsgV} {f : FieldD} {v : ValR} {w : World} (hR : rightS (S.map MsgV.d) = true) (hs : SchemaAt w A n c S) (hv : ValAt w v) (h : FitV 1000000000000 1000000000 (bareV v)) :
  Calls Tryz.prog 59 #[fieldV f, .slice A n c, tvalV v] w fun e w' => e = .returned (.bool (eqB (FitP (S.map MsgV.d) f (bareV v)))) ∧ Ext w w' :=
 tFits hs hv h.lens.1 h.lens.2.1 h.lens.2.2 (fun y hy W hW => tRightT hR y (h.subs y hy).1 (h.subs y hy).2.unkT f.of_ W A n c (hs.up hW) ((hv.sub y hy).up hW))

end Go.Proofs.YtnnphodgegcddaaGreat
