/- Plain words of layer 14: what valid bytes mean. -/
import Derived.Test.YthnoknheodecgaaGreatM14
import Derived.Test.YthnoknheodecgaaGreatW9
import Derived.Test.YthnoknheodecgaaGreatWSortS
namespace Go.Proofs.YthnoknheodecgaaGreat
open Go.RowKit
set_option linter.unusedVariables false


/-- The bytes of a view's value. -/
def valueO (bs : List UInt8) (v : ViewD) : List UInt8 := spanB bs v.r.a v.r.t

/-- The words of a view: a run's, or a number's one. -/
def wordsO (f : FieldD) (bs : List UInt8) (v : ViewD) : List Nat :=
  if v.run = true then (wordsV f.kind (valueO bs v)).1 else if numberB f.kind = true then [(readS f.kind (valueO bs v)).1] else []

/-- The values of a view that are neither run nor number: one or none. -/
def piecesO (f : FieldD) (bs : List UInt8) (v : ViewD) : List (List UInt8) :=
  if v.run = true then [] else if numberB f.kind = true then [] else [valueO bs v]

/-- The last one alone. -/
def lastO {α : Type} (l : List α) : List α := l.drop (l.length - 1)

/-- A field's words of all its views. -/
def fwordsO (f : FieldD) (bs : List UInt8) (vs : List ViewD) : List Nat := if f.rep = true then vs.flatMap (wordsO f bs) else lastO (vs.flatMap (wordsO f bs))

/-- A field's values of all its views; a single message's are joined. -/
def fpiecesO (f : FieldD) (bs : List UInt8) (vs : List ViewD) : List (List UInt8) :=
  if f.rep = true then vs.flatMap (piecesO f bs) else if f.kind = 17 then [(vs.flatMap (piecesO f bs)).flatten] else lastO (vs.flatMap (piecesO f bs))

def textO (b : List UInt8) : ByteArray := ⟨b.toArray⟩

/-- A field's value of its views; none: there is nothing. -/
def fieldO (sub : Nat → List UInt8 → MsgT) (f : FieldD) (bs : List UInt8) (vs : List ViewD) : Option ValT :=
  let ps := fpiecesO f bs vs
  let u : ValT := ⟨(), (), (), f.number, fwordsO f bs vs, if f.kind = 17 then [] else ps.map textO, if f.kind = 17 then ps.map (sub f.of_.toNat) else []⟩
  if u.words.length + u.texts.length + u.subs.length = 0 then none else some u

/-- The views of a field. -/
def viewsO (L : List ViewD) (i : Nat) : List ViewD := L.filter fun v => v.field == (i : Int)

/-- The value of the field at a place, if it has views. -/
def placeO (sub : Nat → List UInt8 → MsgT) (fs : List FieldD) (bs : List UInt8) (L : List ViewD) (i : Nat) : Option ValT :=
  match fs[i]? with
  | none => none
  | some f => if viewsO L i = [] then none else fieldO sub f bs (viewsO L i)

/-- What a message's bytes mean. -/
def ofM (sub : Nat → List UInt8 → MsgT) (S : List MsgD) (m : Nat) (bs : List UInt8) : MsgT := match S[m]? with
  | none => .mk () () [] []
  | some M => .mk () () ((sortK (keyF M.fields) M.fields.length).filterMap (placeO sub M.fields bs (viewsV M.fields bs).1))
      (((viewsV M.fields bs).1.filter fun v => decide (v.field < 0)).map fun v => textO (spanB bs v.r.f v.r.t))

/-- .. so many messages deep at most. -/
def ofV (S : List MsgD) : Nat → Nat → List UInt8 → MsgT
  | 0 => ofM (fun _ _ => .mk () () [] []) S
  | d + 1 => ofM (ofV S d) S

theorem viewsO_yes {L : List ViewD} {i k : Nat} {v : ViewD} (h : L[k]? = some v) (hv : v.field = (i : Int)) : viewsO (L.take (k + 1)) i = viewsO (L.take k) i ++ [v] := by
  unfold viewsO
  rw [take_snoc _ _ _ h, List.filter_append]
  simp [hv]

theorem viewsO_no {L : List ViewD} {i k : Nat} {v : ViewD} (h : L[k]? = some v) (hv : ¬ v.field = (i : Int)) : viewsO (L.take (k + 1)) i = viewsO (L.take k) i := by
  unfold viewsO
  rw [take_snoc _ _ _ h, List.filter_append]
  simp [hv]

theorem lastO_length {α : Type} (l : List α) : (lastO l).length ≤ 1 := by
  unfold lastO
  rw [List.length_drop]
  omega

theorem lastO_snoc {α : Type} (l : List α) (x : α) : lastO (l ++ [x]) = [x] := by
  unfold lastO
  simp

theorem lastO_nil {α : Type} : lastO ([] : List α) = [] := rfl

end Go.Proofs.YthnoknheodecgaaGreat
