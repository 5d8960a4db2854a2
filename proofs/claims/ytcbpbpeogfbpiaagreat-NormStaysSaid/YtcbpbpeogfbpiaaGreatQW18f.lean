/- Contracts of layer 18: a field's records behind others. -/
import Derived.Test.YtcbpbpeogfbpiaaGreatQW18
import Derived.Test.YtcbpbpeogfbpiaaGreatQS18

namespace Go.Proofs.YtcbpbpeogfbpiaaGreat
open Go.RowKit Go.Shelf
set_option linter.unusedVariables false

/-- What norm.form does with bytes of fewer than so many. -/
def NormP (S : List MsgV) (d : Nat) (se : Nat → MsgT → List UInt8) (sub : Nat → List UInt8 → MsgT) : Prop := ∀ (w : World) (SA : Option Addr) (sn sc m : Nat) (A : Option Addr) (n c : Nat) (bs : List UInt8), SchemaAt w SA sn sc S → m < S.length → BytesAt w A n c bs → n < d →
  Calls Tryz.prog 48 #[.slice SA sn sc, .int .i64 (m : Int), .slice A n c] w fun e w' => ∃ A' c', e = .returned (.slice A' (se m (sub m bs)).length c') ∧ Own w w' 5 1 A' (se m (sub m bs)).length c' ((se m (sub m bs)).map bv)

/-- The records that are put, and where the next goes. -/
structure PutS (w0 w wr : World) (b0 : Nat) (f : FieldD) (xs : List UInt8) (A : Option Addr) (n c : Nat) : Prop where
  o : BlkT wr b0 24 #[.slice A n c]
  own : Own w0 wr 5 1 A n c (xs.map bv)
  nL : n = xs.length
  ext : Ext w wr
  f : BlkT wr (b0 + 1) 54 #[.string f.name, .int .i64 f.number, .int .i64 f.kind, .bool f.rep, .bool f.packed, .int .i64 f.of_]

section
variable {w0 w wr : World} {b0 : Nat} {f : FieldD} {xs : List UInt8} {A : Option Addr} {n c : Nat}

theorem PutS.up (h : PutS w0 w wr b0 f xs A n c) {w' : World} (X : Ext wr w') : PutS w0 w w' b0 f xs A n c := ⟨h.o.up X, h.own.up X, h.nL, h.ext.trans X, h.f.up X⟩

/-- One more record is put. -/
theorem PutS.put (h : PutS w0 w wr b0 f xs A n c) (h0 : w0.heap.size ≤ b0) (hw : w.heap.size ≤ b0) {B : Option Addr} {m d : Nat} {wire : Int} {vs : List UInt8} (hv : BytesAt wr B m d vs) (hn : n ≤ 1000000000) (hm : m ≤ 1000000000) (hr : (rightB f.number wire && fitsV wire vs) = true) :
    Calls Tryz.prog 139 #[.int .i64 wire, .slice B m d, .pointer (some ⟨b0, 0, none⟩), .pointer (some ⟨b0 + 1, 0, none⟩)] wr fun e w' => e = .returned (.tuple #[]) ∧ ∃ A' n' c', PutS w0 w w' b0 f (xs ++ putB f.number wire vs) A' n' c' := by
  refine (nPut h.o (h.f.cell 1) h.own.bytes hn hv hm hr).mono ?_
  rintro e w' ⟨rfl, w1, A', c', rfl, own1⟩
  have B1 := h.o.up own1.ext
  have own2 := own1.since h.own.ext
  have hfar := own2.far B1 (by decide) h0 0 (.slice A' (n + (putB f.number wire vs).length) c')
  exact ⟨rfl, A', n + (putB f.number wire vs).length, c', ⟨B1.set_ 0 _, hfar, by rw [List.length_append, ← h.nL], (h.ext.trans own1.ext).setCell hw _, (h.f.up own1.ext).set_far 0 (by omega) _⟩⟩
end

theorem wireOr_kind {k : Int} (h : kindB k = true) : wireOr k = wireI k := by
  unfold wireOr
  rw [if_pos h]

section
variable {f : FieldD} {bs : List UInt8} {vs : List ViewD}

theorem pieces_map (hn : numberB f.kind = false) (hr : ∀ v ∈ vs, v.run = false) : vs.flatMap (piecesO f bs) = vs.map (valueO bs) := by
  induction vs with
  | nil => rfl
  | cons v l ih =>
    have h1 : piecesO f bs v = [valueO bs v] := by
      unfold piecesO
      rw [hr v List.mem_cons_self, hn]
      rfl
    rw [List.flatMap_cons, List.map_cons, ih (fun u hu => hr u (List.mem_cons_of_mem _ hu)), h1]
    rfl

theorem words_none (hn : numberB f.kind = false) (hr : ∀ v ∈ vs, v.run = false) : vs.flatMap (wordsO f bs) = [] := by
  rw [List.flatMap_eq_nil_iff]
  intro v hv
  unfold wordsO
  rw [hr v hv, hn]
  rfl

/-- The records of the first values. -/
def gputs (g : List UInt8 → List UInt8) (n : Int) (bs : List UInt8) (vs : List ViewD) (k : Nat) : List UInt8 := ((vs.take k).map fun v => putB n 2 (g (valueO bs v))).flatten

theorem gputs_step {g : List UInt8 → List UInt8} {n : Int} {k : Nat} {v : ViewD} (h : vs[k]? = some v) : gputs g n bs vs (k + 1) = gputs g n bs vs k ++ putB n 2 (g (valueO bs v)) := by
  unfold gputs
  rw [List.take_add_one, h, List.map_append, List.flatten_append]
  simp

theorem gputs_all {g : List UInt8 → List UInt8} {n : Int} : gputs g n bs vs vs.length = ((vs.map (valueO bs)).map fun x => putB n 2 (g x)).flatten := by
  unfold gputs
  rw [List.take_length, List.map_map]
  rfl

theorem values_weigh (hbd : ∀ v ∈ vs, v.r.t ≤ bs.length) : vs.length + (vs.map (valueO bs)).flatten.length ≤ weighL vs := by
  induction vs with
  | nil => exact Nat.zero_le _
  | cons v l ih =>
    have := ih (fun u hu => hbd u (List.mem_cons_of_mem _ hu))
    have h1 := hbd v List.mem_cons_self
    have h2 : (valueO bs v).length = v.r.t - v.r.a := by
      unfold valueO spanB
      rw [List.length_drop, List.length_take]
      omega
    rw [List.map_cons, List.flatten_cons, List.length_append, weighL_cons, List.length_cons]
    unfold weighV
    omega

theorem gputs_le {g : List UInt8 → List UInt8} {n : Int} (hr : rightB n 2 = true) (hbd : ∀ v ∈ vs, v.r.t ≤ bs.length) (hw : weighL vs ≤ 100000) (hg : ∀ v ∈ vs, (g (valueO bs v)).length ≤ 32 * (valueO bs v).length) (k : Nat) : (gputs g n bs vs k).length ≤ 4700000 := by
  have h1 := values_weigh (vs := vs.take k) (bs := bs) (fun v hv => hbd v (List.mem_of_mem_take hv))
  have h2 := weighL_take vs k
  have h3 := flat_put hr (c := 32) (g := g) (ps := (vs.take k).map (valueO bs)) (fun x hx => by
    obtain ⟨v, hv, rfl⟩ := List.mem_map.1 hx
    have h4 := hg v (List.mem_of_mem_take hv)
    have h5 : (valueO bs v).length ≤ ((vs.take k).map (valueO bs)).flatten.length := mem_flatten_le hx
    exact ⟨h4, by omega⟩) (by omega)
  rw [List.length_map] at h3
  unfold gputs
  have h6 : ((vs.take k).map fun v => putB n 2 (g (valueO bs v))) = ((vs.take k).map (valueO bs)).map fun x => putB n 2 (g x) := by
    rw [List.map_map]
    rfl
  rw [h6]
  omega

theorem pack_pos {k : Int} {ws : List Nat} (h : ∀ x ∈ ws, x < 18446744073709551616) (hne : ws ≠ []) : 1 ≤ (packW k ws).length := by
  rcases ws with _ | ⟨x, l⟩
  · exact absurd rfl hne
  · have := (putS_length (k := k) (h x List.mem_cons_self)).1
    simp [packW]
    omega
end

/-- The code ahead of a field's ways. -/
def FieldPre (w0 w : World) (SA : Option Addr) (sn sc : Nat) (S : List MsgV) (f : FieldD) (xs : List UInt8) (A : Option Addr) (n c : Nat) (B : Option Addr) (bn bc : Nat) (bs : List UInt8) (V : Option Addr) (vc : Nat) (vs : List ViewD) : Prop :=
  Own w0 w 5 1 A n c (xs.map bv) ∧ n = xs.length ∧ n ≤ 100000000 ∧ SchemaAt w SA sn sc S ∧ BytesAt w B bn bc bs ∧ bn ≤ 100000 ∧ Reads w V vs.length vc 7 (vs.flatMap viewC) ∧ vs ≠ [] ∧ (∀ v ∈ vs, v.r.a ≤ v.r.t ∧ v.r.t ≤ bs.length) ∧ weighL vs ≤ bs.length ∧
    kindB f.kind = true ∧ rightB f.number 2 = true ∧ rightB f.number (wireI f.kind) = true ∧ (numberB f.kind = false → ∀ v ∈ vs, v.run = false) ∧ (f.rep = false → ∀ v ∈ vs, v.run = false)

/-- What comes of it. -/
def FieldPost (w0 w : World) (ys : List UInt8) (e : Ending) (w' : World) : Prop := ∃ A' c', e = .returned (.slice A' ys.length c') ∧ Own w0 w' 5 1 A' ys.length c' (ys.map bv) ∧ Ext w w'

section
variable {w0 w : World} {SA : Option Addr} {sn sc : Nat} {S : List MsgV} {f : FieldD} {xs : List UInt8} {A : Option Addr} {n c : Nat} {B : Option Addr} {bn bc : Nat} {bs : List UInt8} {V : Option Addr} {vc : Nat} {vs : List ViewD} {se : Nat → MsgT → List UInt8} {sub : Nat → List UInt8 → MsgT}

/-- The code ahead of the ways leaves a world where the way begins. -/
structure FieldMid (w0 w w2 : World) (f : FieldD) (xs : List UInt8) (A : Option Addr) (n c : Nat) (v : ViewD) : Prop where
  put : PutS w0 w w2 w.heap.size f xs A n c
  last : BlkT w2 (w.heap.size + 2) 169 #[.int .i64 (v.r.n : Int), .int .i64 (v.r.w : Int), .int .i64 (v.r.f : Int), .int .i64 (v.r.a : Int), .int .i64 (v.r.t : Int), .int .i64 v.field, .bool v.run]

theorem FieldMid.made (own : Own w0 w 5 1 A n c (xs.map bv)) (hn : n = xs.length) {v : ViewD} {w2 : World}
    (E : Ext (((w.alloc (.cells #[.slice A n c] 24)).alloc (.cells #[.string f.name, .int .i64 f.number, .int .i64 f.kind, .bool f.rep, .bool f.packed, .int .i64 f.of_] 54)).alloc (.cells #[.int .i64 (v.r.n : Int), .int .i64 (v.r.w : Int), .int .i64 (v.r.f : Int), .int .i64 (v.r.a : Int), .int .i64 (v.r.t : Int), .int .i64 v.field, .bool v.run] 169)) w2) : FieldMid w0 w w2 f xs A n c v := by
  have X1 : Ext w w2 := ((((Ext.refl w).alloc _).alloc _).alloc _).trans E
  refine ⟨⟨?_, own.up X1, hn, X1, ?_⟩, ?_⟩
  · exact (((BlkT.new w 24 #[.slice A n c] rfl).alloc _).alloc _).up E
  · exact ((BlkT.new (w.alloc (.cells #[.slice A n c] 24)) 54 #[.string f.name, .int .i64 f.number, .int .i64 f.kind, .bool f.rep, .bool f.packed, .int .i64 f.of_] (show w.heap.size + 1 = _ by simp)).alloc _).up E
  · exact (BlkT.new ((w.alloc (.cells #[.slice A n c] 24)).alloc (.cells #[.string f.name, .int .i64 f.number, .int .i64 f.kind, .bool f.rep, .bool f.packed, .int .i64 f.of_] 54)) 169 #[.int .i64 (v.r.n : Int), .int .i64 (v.r.w : Int), .int .i64 (v.r.f : Int), .int .i64 (v.r.a : Int), .int .i64 (v.r.t : Int), .int .i64 v.field, .bool v.run] (show w.heap.size + 2 = _ by simp)).up E

theorem FieldMid.made' (own : Own w0 w 5 1 A n c (xs.map bv)) (hn : n = xs.length) {v : ViewD} {w2 : World} {fk fo : Int} {fr : Bool} (e1 : f.kind = fk) (e2 : f.rep = fr) (e3 : f.of_ = fo)
    (E : Ext (((w.alloc (.cells #[.slice A n c] 24)).alloc (.cells #[.string f.name, .int .i64 f.number, .int .i64 fk, .bool fr, .bool f.packed, .int .i64 fo] 54)).alloc (.cells #[.int .i64 (v.r.n : Int), .int .i64 (v.r.w : Int), .int .i64 (v.r.f : Int), .int .i64 (v.r.a : Int), .int .i64 (v.r.t : Int), .int .i64 v.field, .bool v.run] 169)) w2) : FieldMid w0 w w2 f xs A n c v := by
  subst e1
  subst e2
  subst e3
  exact FieldMid.made own hn E

theorem FieldMid.up {w2 w3 : World} {v : ViewD} (h : FieldMid w0 w w2 f xs A n c v) (X : Ext w2 w3) : FieldMid w0 w w3 f xs A n c v := ⟨h.put.up X, h.last.up X⟩

/-- The cells of a field, and of the view. -/
theorem FieldMid.cells {w2 : World} {v : ViewD} (h : FieldMid w0 w w2 f xs A n c v) :
    (w2.cell? ⟨w.heap.size, 0, none⟩ = some (.slice A n c) ∧ w.heap.size < w2.heap.size ∧ w.heap.size + 1 < w2.heap.size ∧ w.heap.size + 2 < w2.heap.size) ∧
    (w2.cell? ⟨w.heap.size + 1, 0, none⟩ = some (.string f.name) ∧ w2.cell? ⟨w.heap.size + 1, 1, none⟩ = some (.int .i64 f.number) ∧ w2.cell? ⟨w.heap.size + 1, 2, none⟩ = some (.int .i64 f.kind) ∧ w2.cell? ⟨w.heap.size + 1, 3, none⟩ = some (.bool f.rep) ∧ w2.cell? ⟨w.heap.size + 1, 4, none⟩ = some (.bool f.packed) ∧ w2.cell? ⟨w.heap.size + 1, 5, none⟩ = some (.int .i64 f.of_)) ∧
    (w2.cell? ⟨w.heap.size + 2, 3, none⟩ = some (.int .i64 (v.r.a : Int)) ∧ w2.cell? ⟨w.heap.size + 2, 4, none⟩ = some (.int .i64 (v.r.t : Int))) :=
  ⟨⟨h.put.o.cell 0, h.put.o.lt, h.put.f.lt, h.last.lt⟩, ⟨h.put.f.cell 0, h.put.f.cell 1, h.put.f.cell 2, h.put.f.cell 3, h.put.f.cell 4, h.put.f.cell 5⟩, ⟨h.last.cell 3, h.last.cell 4⟩⟩

theorem FieldMid.done {w2 : World} {v : ViewD} (h : FieldMid w0 w w2 f xs A n c v) : FieldPost w0 w xs (.returned (.slice A n c)) w2 := by
  obtain rfl := h.put.nL
  exact ⟨A, c, rfl, h.put.own, h.put.ext⟩

theorem PutS.done {w2 : World} {b0 : Nat} (h : PutS w0 w w2 b0 f xs A n c) : FieldPost w0 w xs (.returned (.slice A n c)) w2 := by
  obtain rfl := h.nL
  exact ⟨A, c, rfl, h.own, h.ext⟩

theorem last_split {α : Type} {l : List α} (h : l ≠ []) : ∃ k x, l = k ++ [x] := ⟨_, _, (List.dropLast_concat_getLast h).symm⟩

end

end Go.Proofs.YtcbpbpeogfbpiaaGreat
