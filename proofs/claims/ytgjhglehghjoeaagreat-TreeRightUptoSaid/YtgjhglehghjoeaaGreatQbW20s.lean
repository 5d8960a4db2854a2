/- Contracts of layer 14: the reference's Right and Fits, for meanings of any depth. -/
import Derived.Test.YtgjhglehghjoeaaGreatQbW20q
import Derived.Test.YtgjhglehghjoeaaGreatQbOpen

namespace Go.Proofs.YtgjhglehghjoeaaGreat
open Go.RowKit Go.Shelf
set_option linter.unusedVariables false

theorem LongT.unkT {τ : Type} {B : Nat} {x : MsgX τ} (h : LongT B x) : TextsT B x := by
  induction h with
  | mk x unk texts sub ih => exact .mk x unk ih

theorem FitT.to_bare {τ : Type} {B : Nat} (x : MsgX τ) (h : FitT B x) : FitT B (bare x) := by
  refine MsgX.ind (P := fun x => FitT B x → FitT B (bare x)) (fun x ih h => ?_) x h
  rw [bare_eq]
  refine .mk _ ?_ h.unk (fun v hv => ?_) (fun v hv y hy => ?_)
  · show (x.vals.map bareV).length ≤ B
    rw [List.length_map]
    exact h.vals
  · obtain ⟨u, hu, rfl⟩ := List.mem_map.1 (show v ∈ x.vals.map bareV from hv)
    have := h.each u hu
    refine ⟨this.1, this.2.1, ?_⟩
    show (u.subs.map bare).length ≤ B
    rw [List.length_map]
    exact this.2.2
  · obtain ⟨u, hu, rfl⟩ := List.mem_map.1 (show v ∈ x.vals.map bareV from hv)
    obtain ⟨z, hz, rfl⟩ := List.mem_map.1 (show y ∈ u.subs.map bare from hy)
    exact ih u hu z hz (h.sub u hu z hz)

theorem LongT.to_bare {τ : Type} {B : Nat} (x : MsgX τ) (h : LongT B x) : LongT B (bare x) := by
  refine MsgX.ind (P := fun x => LongT B x → LongT B (bare x)) (fun x ih h => ?_) x h
  rw [bare_eq]
  refine .mk _ h.unk (fun v hv => ?_) (fun v hv y hy => ?_)
  · obtain ⟨u, hu, rfl⟩ := List.mem_map.1 (show v ∈ x.vals.map bareV from hv)
    exact h.texts u hu
  · obtain ⟨u, hu, rfl⟩ := List.mem_map.1 (show v ∈ x.vals.map bareV from hv)
    obtain ⟨z, hz, rfl⟩ := List.mem_map.1 (show y ∈ u.subs.map bare from hy)
    exact ih u hu z hz (h.sub u hu z hz)

theorem LongT.of_bare {τ : Type} {B : Nat} (x : MsgX τ) (h : LongT B (bare x)) : LongT B x := by
  refine MsgX.ind (P := fun x => LongT B (bare x) → LongT B x) (fun x ih h => ?_) x h
  rw [bare_eq] at h
  refine .mk x h.unk (fun v hv => h.texts (bareV v) (List.mem_map_of_mem hv)) (fun v hv y hy => ih v hv y hy ?_)
  exact h.sub (bareV v) (List.mem_map_of_mem hv) (bare y) (List.mem_map_of_mem hy)

def FitV (B C : Nat) (v : ValT) : Prop := (v.words.length ≤ B ∧ v.texts.length ≤ B ∧ v.subs.length ≤ B) ∧ (∀ t ∈ v.texts, t.data.toList.length ≤ C) ∧ ∀ y ∈ v.subs, FitT B y ∧ LongT C y

theorem FitV.mk' {B C : Nat} {v : ValR} (h1 : v.words.length ≤ B ∧ v.texts.length ≤ B ∧ v.subs.length ≤ B) (h2 : ∀ t ∈ v.texts, t.data.toList.length ≤ C) (h3 : ∀ y ∈ v.subs, FitT B y ∧ LongT C y) : FitV B C (bareV v) := by
  refine ⟨⟨h1.1, h1.2.1, ?_⟩, h2, fun y hy => ?_⟩
  · show (v.subs.map bare).length ≤ B
    rw [List.length_map]
    exact h1.2.2
  · obtain ⟨z, hz, rfl⟩ := List.mem_map.1 (show y ∈ v.subs.map bare from hy)
    exact ⟨(h3 z hz).1.to_bare, (h3 z hz).2.to_bare⟩

theorem FitV.texts {B C : Nat} {v : ValR} (h : FitV B C (bareV v)) : ∀ t ∈ v.texts, t.data.toList.length ≤ C := h.2.1

theorem FitV.subs {B C : Nat} {v : ValR} (h : FitV B C (bareV v)) : ∀ y ∈ v.subs, FitT B y ∧ LongT C y := fun y hy => by
  have := h.2.2 (bare y) (List.mem_map_of_mem hy)
  exact ⟨FitT.of_bare y this.1, LongT.of_bare y this.2⟩

def RRight (S : List MsgV) (x : MsgR) : Prop := FitT 1000000000000 x → LongT 1000000000 x → ∀ (root : Int) (w : World) (A : Option Addr) (n c : Nat), SchemaAt w A n c S → TreeAt w x →
  Calls Tryz.prog 20 #[.slice A n c, .int .i64 root, treeV x] w fun e w' => e = .returned (.bool (eqB (RI (S.map MsgV.d) root (bare x)))) ∧ Ext w w'

theorem rRightT {S : List MsgV} (hR : rightS (S.map MsgV.d) = true) (x : MsgR) : RRight S x := by
  refine MsgX.ind (P := RRight S) (fun x ih => ?_) x
  intro hfit htx root w A n c hs hx
  refine rRightM hR hs hx hfit.vals hfit.unk htx.unk (fun v hv f W hW => ?_)
  obtain ⟨l1, l2, l3⟩ := hfit.each v hv
  exact rFitsF (hs.up hW) ((hx.val hv).up hW) l1 l2 l3 (htx.texts v hv) (fun y hy W' hW' => ih v hv y hy (hfit.sub v hv y hy) (htx.sub v hv y hy) f.of_ W' A n c (hs.up (hW.trans hW')) ((hx.sub v hv y hy).up (hW.trans hW')))

end Go.Proofs.YtgjhglehghjoeaaGreat
