/- Contracts of layer 18: a field's numbers as one run; a record put behind the others. -/
import Derived.Test.YtnnphodgegcddaaGreatQfS18
import Derived.Test.YtnnphodgegcddaaGreatQfM14p
import Derived.Test.YtnnphodgegcddaaGreatQfW10
import Derived.Test.YtnnphodgegcddaaGreatQfW8
import Derived.Test.YtnnphodgegcddaaGreatQfW14w
import Derived.Test.YtnnphodgegcddaaGreatQfWSort
import Derived.Test.YtnnphodgegcddaaGreatQfW11
import Derived.Test.YtnnphodgegcddaaGreatQfKSchemaChecks

namespace Go.Proofs.YtnnphodgegcddaaGreat
open Go.RowKit Go.Shelf
set_option linter.unusedVariables false

end Go.Proofs.YtnnphodgegcddaaGreat

/- Contracts of layer 18: a field's records behind others. -/


namespace Go.Proofs.YtnnphodgegcddaaGreat
open Go.RowKit Go.Shelf
set_option linter.unusedVariables false

section
variable {w0 w wr : World} {b0 : Nat} {f : FieldD} {xs : List UInt8} {A : Option Addr} {n c : Nat}

end

theorem wireOr_kind {k : Int} (h : kindB k = true) : wireOr k = wireI k := by
 unfold wireOr
 rw [if_pos h]

section
variable {f : FieldD} {bs : List UInt8} {vs : List ViewD}

end

section
variable {w0 w : World} {SA : Option Addr} {sn sc : Nat} {S : List MsgV} {f : FieldD} {xs : List UInt8} {A : Option Addr} {n c : Nat} {B : Option Addr} {bn bc : Nat} {bs : List UInt8} {V : Option Addr} {vc : Nat} {vs : List ViewD} {se : Nat → MsgT → List UInt8} {sub : Nat → List UInt8 → MsgT}

end

end Go.Proofs.YtnnphodgegcddaaGreat

/- Contracts of layer 18: a field's records behind others. -/

namespace Go.Proofs.YtnnphodgegcddaaGreat
open Go.RowKit Go.Shelf
set_option linter.unusedVariables false

section
variable {w0 w : World} {SA : Option Addr} {sn sc : Nat} {S : List MsgV} {f : FieldD} {xs : List UInt8} {A : Option Addr} {n c : Nat} {B : Option Addr} {bn bc : Nat} {bs : List UInt8} {V : Option Addr} {vc : Nat} {vs : List ViewD} {se : Nat → MsgT → List UInt8} {sub : Nat → List UInt8 → MsgT}

end

end Go.Proofs.YtnnphodgegcddaaGreat

/- Contracts of layer 18: a field's records behind others. -/

namespace Go.Proofs.YtnnphodgegcddaaGreat
open Go.RowKit Go.Shelf
set_option linter.unusedVariables false

section
variable {w0 w : World} {SA : Option Addr} {sn sc : Nat} {S : List MsgV} {f : FieldD} {xs : List UInt8} {A : Option Addr} {n c : Nat} {B : Option Addr} {bn bc : Nat} {bs : List UInt8} {V : Option Addr} {vc : Nat} {vs : List ViewD} {se : Nat → MsgT → List UInt8} {sub : Nat → List UInt8 → MsgT}

end

end Go.Proofs.YtnnphodgegcddaaGreat

/- Contracts of layer 18: a field's records behind others. -/

namespace Go.Proofs.YtnnphodgegcddaaGreat
open Go.RowKit Go.Shelf
set_option linter.unusedVariables false

section
variable {w0 w : World} {SA : Option Addr} {sn sc : Nat} {S : List MsgV} {f : FieldD} {xs : List UInt8} {A : Option Addr} {n c : Nat} {B : Option Addr} {bn bc : Nat} {bs : List UInt8} {V : Option Addr} {vc : Nat} {vs : List ViewD} {se : Nat → MsgT → List UInt8} {sub : Nat → List UInt8 → MsgT}

end

end Go.Proofs.YtnnphodgegcddaaGreat

/- Contracts of layer 18: a field's records behind others. -/

namespace Go.Proofs.YtnnphodgegcddaaGreat
open Go.RowKit Go.Shelf
set_option linter.unusedVariables false

section
variable {w0 w : World} {SA : Option Addr} {sn sc : Nat} {S : List MsgV} {f : FieldD} {xs : List UInt8} {A : Option Addr} {n c : Nat} {B : Option Addr} {bn bc : Nat} {bs : List UInt8} {V : Option Addr} {vc : Nat} {vs : List ViewD} {se : Nat → MsgT → List UInt8} {sub : Nat → List UInt8 → MsgT}

end

end Go.Proofs.YtnnphodgegcddaaGreat

/- Contracts of layer 18: a field's records behind others. -/

namespace Go.Proofs.YtnnphodgegcddaaGreat
open Go.RowKit Go.Shelf
set_option linter.unusedVariables false

section
variable {w0 w : World} {SA : Option Addr} {sn sc : Nat} {S : List MsgV} {f : FieldD} {xs : List UInt8} {A : Option Addr} {n c : Nat} {B : Option Addr} {bn bc : Nat} {bs : List UInt8} {V : Option Addr} {vc : Nat} {vs : List ViewD} {se : Nat → MsgT → List UInt8} {sub : Nat → List UInt8 → MsgT}

end

end Go.Proofs.YtnnphodgegcddaaGreat

/- Contracts of layer 18: a field's records behind others. -/

namespace Go.Proofs.YtnnphodgegcddaaGreat
open Go.RowKit Go.Shelf
set_option linter.unusedVariables false

section
variable {w0 w : World} {SA : Option Addr} {sn sc : Nat} {S : List MsgV} {f : FieldD} {xs : List UInt8} {A : Option Addr} {n c : Nat} {B : Option Addr} {bn bc : Nat} {bs : List UInt8} {V : Option Addr} {vc : Nat} {vs : List ViewD} {se : Nat → MsgT → List UInt8} {sub : Nat → List UInt8 → MsgT}

end

end Go.Proofs.YtnnphodgegcddaaGreat

/- Contracts of layer 18: a field's records behind others. -/






namespace Go.Proofs.YtnnphodgegcddaaGreat
open Go.RowKit Go.Shelf
set_option linter.unusedVariables false

section
variable {w0 w : World} {SA : Option Addr} {sn sc : Nat} {S : List MsgV} {f : FieldD} {xs : List UInt8} {A : Option Addr} {n c : Nat} {B : Option Addr} {bn bc : Nat} {bs : List UInt8} {V : Option Addr} {vc : Nat} {vs : List ViewD} {se : Nat → MsgT → List UInt8} {sub : Nat → List UInt8 → MsgT}

end

end Go.Proofs.YtnnphodgegcddaaGreat

/- Contracts of layer 18: the parts of a message, gathered. -/


namespace Go.Proofs.YtnnphodgegcddaaGreat
open Go.RowKit Go.Shelf
set_option linter.unusedVariables false

structure RowG where
 A : Option Addr
 c : Nat
 vs : List ViewD

section
variable {w w' : World} {bm : Nat} {E : Int → RowG} {s : Nat → Prop}

end

section
variable {w w5 wr : World} {b0 : Nat} {bs : List UInt8} {L : List ViewD} {k : Nat} {E : Int → RowG} {U : Option Addr} {un uc : Nat} {v : ViewD}

end

end Go.Proofs.YtnnphodgegcddaaGreat

/- Plain words of layer 18: a normal form is at most twice as long as the bytes. -/


/- Plain words of layer 18: a normal form is at most twice as long. -/
namespace Go.Proofs.YtnnphodgegcddaaGreat
open Go.RowKit
open Go.Lib (uvarint uvarint_small uvarint_big uvarint_pos)
set_option linter.unusedVariables false

section
variable {se : Nat → MsgT → List UInt8} {sub : Nat → List UInt8 → MsgT} {f : FieldD} {bs : List UInt8} {fs : List FieldD} {S : List MsgD} {m : Nat} {M : MsgD}

end

end Go.Proofs.YtnnphodgegcddaaGreat

/- Contracts of layer 18: the form of valid bytes. -/




namespace Go.Proofs.YtnnphodgegcddaaGreat
open Go.RowKit Go.Shelf
set_option linter.unusedVariables false

section
variable {S : List MsgD} {m : Nat} {M : MsgD} {bs : List UInt8} {se : Nat → MsgT → List UInt8} {sub : Nat → List UInt8 → MsgT}

end

end Go.Proofs.YtnnphodgegcddaaGreat

/- Contracts of layer 18: norm.Form, Same, Is; the chapter's example. -/



namespace Go.Proofs.YtnnphodgegcddaaGreat
open Go.RowKit Go.Shelf
set_option linter.unusedVariables false

end Go.Proofs.YtnnphodgegcddaaGreat

/- Contracts of layer 18: records are struck out of a slice of the call's own, in place. -/

namespace Go.Proofs.YtnnphodgegcddaaGreat
open Go.RowKit Go.Shelf
set_option linter.unusedVariables false

theorem Reads.rec' {w : World} {A : Option Addr} {n c : Nat} {l : List Rec} (h : Reads w A n c 5 (l.flatMap recC)) {k : Nat} (hk : k < n) :
  ∃ b off v, A = some ⟨b, off, none⟩ ∧ l[k]? = some v ∧ b < w.heap.size ∧ w.cell? ⟨b, off + k * 5, none⟩ = some (.int .i64 (v.n : Int)) ∧ w.cell? ⟨b, off + k * 5 + 1, none⟩ = some (.int .i64 (v.w : Int)) ∧
    w.cell? ⟨b, off + k * 5 + 2, none⟩ = some (.int .i64 (v.f : Int)) ∧ w.cell? ⟨b, off + k * 5 + 3, none⟩ = some (.int .i64 (v.a : Int)) ∧ w.cell? ⟨b, off + k * 5 + 4, none⟩ = some (.int .i64 (v.t : Int)) := by
 obtain ⟨b, off, r, e, hx, hb, hj⟩ := h.elem (size := 5) (fun _ => rfl) (by omega) hk
 exact ⟨b, off, r, e, hx, hb, hj 0 _ rfl, hj 1 _ rfl, hj 2 _ rfl, hj 3 _ rfl, hj 4 _ rfl⟩

end Go.Proofs.YtnnphodgegcddaaGreat
