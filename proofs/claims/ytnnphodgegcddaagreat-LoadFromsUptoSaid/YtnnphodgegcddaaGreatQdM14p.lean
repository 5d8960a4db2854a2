/- Words of my own for memory: pieces of fields. -/
import Derived.Test.YtnnphodgegcddaaGreatQdS14o
import Derived.Test.YtnnphodgegcddaaGreatQdW14o
import Derived.Test.YtnnphodgegcddaaGreatQdW17
import Derived.Test.YtnnphodgegcddaaGreatQdMap

/- Words of my own for memory: a field's pieces, and the map of them. -/
namespace Go.Proofs.YtnnphodgegcddaaGreat
open Go.RowKit
set_option linter.unusedVariables false

section
variable {w0 w w' w'' : World} {s : Nat → Prop}

theorem Own.new_lt {e : TypeId} {size n c b : Nat} {A : Option Addr} {xs : List Value} (h : Own w0 w e size A n c xs) (hb : (Value.slice A 0 0).ownBlock = some b) : w0.heap.size ≤ b ∧ b < w.heap.size := h.row.lt b (by rw [ownBlock_any A n c 0 0]; exact hb)
end

structure PieceG where
 b : Nat
 f : FieldD
 A : Option Addr
 c : Nat
 ws : List Nat
 B : Option Addr
 d : Nat
 vs : List BRow

section
variable {w0 w w' : World} {s : Nat → Prop} {p p' : PieceG} {b : Nat}

end

section
variable {w0 w W w2 : World} {p : PieceG} {A' : Option Addr} {c' : Nat}

end

section
variable {w0 wr w' : World} {base : Nat} {fs : List FieldD} {bs : List UInt8} {V V' : Nat → List ViewD} {E : Nat → Option PieceG} {R R' : Nat → Prop} {s : Nat → Prop}

end

section
variable {w w' : World} {bm : Nat} {E : Nat → Option PieceG} {s : Nat → Prop}

end

end Go.Proofs.YtnnphodgegcddaaGreat

/- Words of my own for memory: an elder part of a world; a cut and its block; what stands at the loop over a field's values. -/
namespace Go.Proofs.YtnnphodgegcddaaGreat
open Go.RowKit
set_option linter.unusedVariables false

theorem results_cell_row2 {P : Program} {fn : Func} {p u : Tmp} {ty : TypeId} (h : fn.results = #[.cell p ty, .tmp u]) (tmps : Array Value) (w : World) (g : Nat) (t : TypeId) (cs : Array Value) (fr : Nat × Nat) (d : TypeDesc)
  (hp : tmps.getD p undef = .pointer (some ⟨g, 0, none⟩)) (hg : w.heap[g]? = some (.cells cs t fr))
  (hu : P.underlying ty = some d) (hd : (match d with | .struct _ | .array _ _ => true | _ => false) = true) (hi : (P.info? ty).map (·.size) = some cs.size) :
  (results fn tmps).run P w = .ok (.tuple #[.agg cs, tmps.getD u undef]) w := by
 have hp' : tmps[p]?.getD undef = .pointer (some ⟨g, 0, none⟩) := by simpa using hp
 simp [results, h, hp', asAddr, run_loadVar_row w g t ty cs fr d hg hu hd hi]

section
variable {w0 w w' wb w3 : World}

end

theorem Reads.row_uses {w0 w : World} {e : TypeId} {size n c b : Nat} {A : Option Addr} {xs : List Value} (hb : UsesA A n b) (h : Own w0 w e size A n c xs) : (Value.slice A 0 0).ownBlock = some b := by
 obtain ⟨_, p, rfl, rfl⟩ := hb
 rfl

end Go.Proofs.YtnnphodgegcddaaGreat

/- Words of my own for memory: the reference's value of a field, while its views are gone through. -/
namespace Go.Proofs.YtnnphodgegcddaaGreat
open Go.RowKit
set_option linter.unusedVariables false

section
variable {w1 wr w' w7 W0 : World} {f : FieldD} {ws : List Nat} {ts : List ByteArray} {js : List UInt8} {ys : List MsgR} {W : Option Addr} {wn wc : Nat} {T : Option Addr} {tn tc : Nat} {X : Option Addr} {xn xc : Nat} {J : Option Addr} {jn jc : Nat}

end

end Go.Proofs.YtnnphodgegcddaaGreat
