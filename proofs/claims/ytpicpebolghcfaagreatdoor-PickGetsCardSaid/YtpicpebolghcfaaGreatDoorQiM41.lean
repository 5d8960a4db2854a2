/- Words of my own for memory: two rows of one element type, the call's own, that lie apart. No program is named. -/
import Derived.Test.YtpicpebolghcfaaGreatDoorQiM14

namespace Go.Proofs.YtpicpebolghcfaaGreatDoor
open Go.RowKit
set_option linter.unusedVariables false

def Apart2 (A B : Option Addr) : Prop := ∀ g, (Value.slice A 0 0).ownBlock = some g → (Value.slice B 0 0).ownBlock = some g → False

theorem Apart2.symm {A B : Option Addr} (h : Apart2 A B) : Apart2 B A := fun g h1 h2 => h g h2 h1

theorem Apart2.nil (B : Option Addr) : Apart2 none B := fun g h1 _ => by simp [Value.ownBlock] at h1

theorem Own.besideB {w0 w W w' : World} {e : TypeId} {size : Nat} {A B : Option Addr} {n c m d : Nat} {xs : List Value} (h : Own w0 w e size A n c xs) (hne : Apart2 A B) (hE : Ext w W)
    (hg : W.grownBy w' (Value.slice B m d).ownBlock) (hx : Ext w0 w') : Own w0 w' e size A n c xs := by
  have hW := h.up hE
  refine ⟨⟨hW.row.1, ?_⟩, hx⟩
  rcases hW.row.2 with h2 | ⟨g, cap, cur, hv, hb, hh, r⟩
  · exact .inl h2
  · refine .inr ⟨g, cap, cur, hv, hb, ?_, r⟩
    have hA : A = some ⟨g, 0, none⟩ := by injection hv
    rw [hg.block g (Array.getElem?_eq_some_iff.1 hh).1 (fun e => hne g (by rw [hA]; rfl) ((ownBlock_any B 0 0 m d).trans e.symm))]
    exact hh

theorem Apart2.moved {w0 w W : World} {e : TypeId} {size : Nat} {A B B' : Option Addr} {n c : Nat} {xs : List Value} (h : Apart2 A B) (own : Own w0 w e size A n c xs) (hE : Ext w W) (hm : Moved W B B') : Apart2 A B' := by
  intro g h1 h2
  rcases hm with hm | hm
  · exact h g h1 (hm.symm.trans h2)
  · rw [hm] at h2
    injection h2 with h2
    have h3 := ((own.up hE).row.lt g ((ownBlock_any A n c 0 0).trans h1)).2
    omega

end Go.Proofs.YtpicpebolghcfaaGreatDoor
