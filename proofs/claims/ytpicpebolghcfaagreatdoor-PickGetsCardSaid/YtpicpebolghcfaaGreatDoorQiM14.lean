/- Words of my own for memory: meanings. No program is named. -/
import Derived.Test.YtpicpebolghcfaaGreatDoorQiLib
import Derived.Test.YtpicpebolghcfaaGreatDoorQiS4
import Derived.Test.YtpicpebolghcfaaGreatDoorQiSort
import Derived.Test.YtpicpebolghcfaaGreatDoorQiWA

/- Words of my own for memory: an append onto a row of the call's own, and where the row lies then. No program is named. -/
namespace Go.Proofs.YtpicpebolghcfaaGreatDoor
open Go.RowKit
set_option linter.unusedVariables false

def Moved (W : World) (A A' : Option Addr) : Prop := (Value.slice A' 0 0).ownBlock = (Value.slice A 0 0).ownBlock ∨ (Value.slice A' 0 0).ownBlock = some W.heap.size

theorem ownBlock_any (A : Option Addr) (n c n' c' : Nat) : (Value.slice A n c).ownBlock = (Value.slice A n' c').ownBlock := by
  rcases A with _ | ⟨b, o, s⟩
  · rfl
  · rfl

section
variable {w0 w w' : World} {e : TypeId} {size : Nat} {A : Option Addr} {n c : Nat} {xs : List Value}
variable {P : Program} {t : TypeId} {bytes : Nat}

theorem run_append_moreW (T : Elem P t e size bytes) (ty : TypeId) (h : Own w0 w e size A n c xs) {B : Option Addr} {m d : Nat} {ys : List Value} (hr : Reads w B m d size ys)
    (h1 : ∀ u ∈ ys, u.oneCell' = true) (hb : (n + m) * bytes ≤ 140737488355328) (h63 : n + m ≤ maxLen) :
    ∃ A' c' w', (Builtin.append_ #[t, t] ty #[.slice A n c, .slice B m d]).run P w = .ok (.slice A' (n + m) c') w' ∧ Own w0 w' e size A' (n + m) c' (xs ++ ys) ∧ w.grownBy w' (Value.slice A n c).ownBlock ∧ Moved w A A' := by
  obtain ⟨i, z, hi, hz, hsz, hby, hzs⟩ := T.info
  have shape : ∀ {v' : Value} {w' : World} {k : Nat} {zs : List Value}, w'.ownsRow w0.heap.size e size v' k zs → ∃ A' c', v' = .slice A' k c' := by
    intro v' w' k zs hrow
    rcases hrow.2 with ⟨rfl, rfl⟩ | ⟨g, cap, cur, rfl, _⟩
    · exact ⟨_, _, rfl⟩
    · exact ⟨_, _, rfl⟩
  have go : ∀ (ad : Addr), B = some ad → (∀ j u, ys[j]? = some u → w.cell? (ad.add j) = some u) →
      ∃ A' c' w', (Builtin.append_ #[t, t] ty #[.slice A n c, .slice B m d]).run P w = .ok (.slice A' (n + m) c') w' ∧ Own w0 w' e size A' (n + m) c' (xs ++ ys) ∧ w.grownBy w' (Value.slice A n c).ownBlock ∧ Moved w A A' := by
    intro ad hB hcells
    subst hB
    obtain ⟨v', w', hrun, h2, h3, _, h5⟩ := run_append_own_at (P := P) w w0.heap.size t ty e i z size bytes T.under hi hz hsz hby hzs T.pos _ n xs h.row ad m d ys hr.len hcells h1 h63 hb h.ext.size
    obtain ⟨A', c', rfl⟩ := shape h2
    refine ⟨A', c', w', hrun, ⟨h2, ?_⟩, h3, ?_⟩
    · exact Below.grown h.ext h3 h.ext.size (fun k hk => (h.row.lt k hk).1)
    · rwa [ownBlock_any A' _ _ 0 0, ownBlock_any A _ _ 0 0] at h5
  by_cases hm : m = 0
  · subst hm
    have hys : ys = [] := List.eq_nil_of_length_eq_zero (by simpa using hr.len)
    subst hys
    rcases B with _ | ad
    · refine ⟨A, c, w, ?_, by simpa using h, World.grownBy.refl w _, .inl rfl⟩
      have := h.reads.cap
      rcases h.row.2 with ⟨hv, rfl⟩ | ⟨g, cap, cur, hv, _, _, hnc, _⟩
      · cases hv
        simp [Builtin.append_, run_underlying T.under, sizeOf, typeInfo, hi, Builtin.lenOf, Builtin.firstCells]
      · cases hv
        simp [Builtin.append_, run_underlying T.under, sizeOf, typeInfo, hi, Builtin.lenOf, Builtin.firstCells, hnc, storeCells]
    · exact go ad rfl (by simp)
  · obtain ⟨b, off, rfl, _, hc⟩ := hr.at_ (by omega)
    exact go _ rfl (fun j u hu => by rw [addr_add]; exact hc j u hu)

theorem wpList_moreW {ops : Array Oper} {rest : List Oper} {o : Oper} {a : Act} {Q : Exit → Act → World → Prop} (T : Elem P t e size bytes) (hgd : Region.wanted o (yielded ops a.tmps) = true) (s x : Operand)
    (ho : o.op = .call { callee := .builtin .append, args := #[s, x], argTypes := #[t, t] })
    (hs : a.eval s = .slice A n c) (h : Own w0 w e size A n c xs) {B : Option Addr} {m d : Nat} {ys : List Value} (hx : a.eval x = .slice B m d) (hr : Reads w B m d size ys)
    (h1 : ∀ u ∈ ys, u.oneCell' = true) (hb : (n + m) * bytes ≤ 140737488355328) (h63 : n + m ≤ maxLen)
    (k : ∀ A' c' w', Own w0 w' e size A' (n + m) c' (xs ++ ys) → w.grownBy w' (Value.slice A n c).ownBlock → Moved w A A' → wpList P ops Q rest (a.put o.dst (.slice A' (n + m) c')) w') : wpList P ops Q (o :: rest) a w := by
  obtain ⟨A', c', w', hrun, h2, h3, h4⟩ := run_append_moreW T o.type h hr h1 hb h63
  refine wpList_step fun _ hK => ?_
  rw [if_pos hgd]
  unfold Oper.wp execOp
  simp only [ho, resolve, invoke, builtin, Sem.run_bind, Sem.run_pure, Result.andThen_ok, List.map_toArray, List.map_cons, List.map_nil, hs, hx, hrun]
  exact hK _ _ (k A' c' w' h2 h3 h4)

theorem step_moreW {ops : Array Oper} {o : Oper} {a : Act} {K : Act → World → Prop} {Q : Exit → Act → World → Prop} {E : Prop} (T : Elem P t e size bytes) (hgd : o.guard = none) (s x : Operand)
    (ho : o.op = .call { callee := .builtin .append, args := #[s, x], argTypes := #[t, t] })
    (hs : a.eval s = .slice A n c) (h : Own w0 w e size A n c xs) {B : Option Addr} {m d : Nat} {ys : List Value} (hx : a.eval x = .slice B m d) (hr : Reads w B m d size ys)
    (h1 : ∀ u ∈ ys, u.oneCell' = true) (hb : (n + m) * bytes ≤ 140737488355328) (h63 : n + m ≤ maxLen)
    (k : ∀ A' c' w', Own w0 w' e size A' (n + m) c' (xs ++ ys) → w.grownBy w' (Value.slice A n c).ownBlock → Moved w A A' → K (a.put o.dst (.slice A' (n + m) c')) w') :
    if Region.wanted o (yielded ops a.tmps) = true then Oper.wp P o a w K Q else E := by
  have hw : Region.wanted o (yielded ops a.tmps) = true := by simp [Region.wanted, hgd]
  rw [if_pos hw]
  obtain ⟨A', c', w', hrun, h2, h3, h4⟩ := run_append_moreW T o.type h hr h1 hb h63
  unfold Oper.wp execOp
  simp only [ho, resolve, invoke, builtin, Sem.run_bind, Sem.run_pure, Result.andThen_ok, List.map_toArray, List.map_cons, List.map_nil, hs, hx, hrun]
  exact k A' c' w' h2 h3 h4
end

end Go.Proofs.YtpicpebolghcfaaGreatDoor

/- Plain words of layer 14: meanings. No program is named. -/
namespace Go.Proofs.YtpicpebolghcfaaGreatDoor
open Go.RowKit
set_option linter.unusedVariables false

structure ValG (τ σ : Type) where
  a : τ
  b : τ
  c : τ
  number : Int
  words : List Nat
  texts : List ByteArray
  subs : List σ

inductive MsgX (τ : Type) where
  | mk (a b : τ) (vals : List (ValG τ (MsgX τ))) (unk : List ByteArray)

namespace MsgX
variable {τ : Type}

def a : MsgX τ → τ
  | .mk a _ _ _ => a

def b : MsgX τ → τ
  | .mk _ b _ _ => b

def vals : MsgX τ → List (ValG τ (MsgX τ))
  | .mk _ _ v _ => v

def unk : MsgX τ → List ByteArray
  | .mk _ _ _ u => u

theorem sub_lt {x : MsgX τ} {v : ValG τ (MsgX τ)} {y : MsgX τ} (hv : v ∈ x.vals) (hy : y ∈ v.subs) : SizeOf.sizeOf y < SizeOf.sizeOf x := by
  obtain ⟨a, b, vs, u⟩ := x
  have h1 := List.sizeOf_lt_of_mem (show v ∈ vs from hv)
  have h2 := List.sizeOf_lt_of_mem hy
  obtain ⟨va, vb, vc, n, ws, ts, ss⟩ := v
  simp only [MsgX.mk.sizeOf_spec]
  simp only [ValG.mk.sizeOf_spec] at h1
  simp only at h2
  omega

theorem ind {P : MsgX τ → Prop} (h : ∀ x : MsgX τ, (∀ v ∈ x.vals, ∀ y ∈ v.subs, P y) → P x) (x : MsgX τ) : P x :=
  h x (fun v hv y hy => ind h y)
termination_by SizeOf.sizeOf x
decreasing_by exact sub_lt hv hy

end MsgX

end Go.Proofs.YtpicpebolghcfaaGreatDoor

/- Words of my own for memory: meanings. No program is named. -/
namespace Go.Proofs.YtpicpebolghcfaaGreatDoor
open Go.RowKit
set_option linter.unusedVariables false

abbrev Sl := Option Addr × Nat

abbrev MsgR := MsgX Sl

abbrev ValR := ValG Sl MsgR

section
variable {w w' : World} {x : MsgR} {v : ValR}

end

end Go.Proofs.YtpicpebolghcfaaGreatDoor

/- Words of my own for memory: which blocks a meaning uses, and that it stays where these stay. No program is named. -/
namespace Go.Proofs.YtpicpebolghcfaaGreatDoor
open Go.RowKit
set_option linter.unusedVariables false

section
variable {w w' w'' : World} {s : Nat → Prop}

end

section
variable {τ : Type} {B : Nat} {x : MsgX τ}

end

end Go.Proofs.YtpicpebolghcfaaGreatDoor
