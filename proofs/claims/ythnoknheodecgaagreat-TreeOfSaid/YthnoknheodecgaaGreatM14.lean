/- Words of my own for memory: meanings. No program is named. -/
import Derived.Test.YthnoknheodecgaaGreatS14
import Derived.Test.YthnoknheodecgaaGreatWA
namespace Go.Proofs.YthnoknheodecgaaGreat
open Go.RowKit
set_option linter.unusedVariables false

/-- Where a slice lies, and its capacity. -/
abbrev Sl := Option Addr × Nat

abbrev MsgR := MsgX Sl

abbrev ValR := ValG Sl MsgR

def strV (s : ByteArray) : Value := .string s

theorem strV_one (l : List ByteArray) : ∀ u ∈ l.map strV, u.oneCell' = true := by
  intro u hu
  obtain ⟨b, _, rfl⟩ := List.mem_map.1 hu
  rfl

/-- The cells of a value, and of a meaning. -/
def tvalC (v : ValR) : List Value := [.int .i64 v.number, .slice v.a.1 v.words.length v.a.2, .slice v.b.1 v.texts.length v.b.2, .slice v.c.1 v.subs.length v.c.2]

def tvalV (v : ValR) : Value := .agg #[.int .i64 v.number, .slice v.a.1 v.words.length v.a.2, .slice v.b.1 v.texts.length v.b.2, .slice v.c.1 v.subs.length v.c.2]

def treeC (x : MsgR) : List Value := [.slice x.a.1 x.vals.length x.a.2, .slice x.b.1 x.unk.length x.b.2]

def treeV (x : MsgR) : Value := .agg #[.slice x.a.1 x.vals.length x.a.2, .slice x.b.1 x.unk.length x.b.2]

theorem tvalC_one (l : List ValR) : ∀ u ∈ l.flatMap tvalC, u.oneCell' = true := by
  intro u hu
  obtain ⟨f, _, hf⟩ := List.mem_flatMap.1 hu
  simp only [tvalC, List.mem_cons, List.not_mem_nil, or_false] at hf
  rcases hf with rfl | rfl | rfl | rfl <;> rfl

theorem treeC_one (l : List MsgR) : ∀ u ∈ l.flatMap treeC, u.oneCell' = true := by
  intro u hu
  obtain ⟨f, _, hf⟩ := List.mem_flatMap.1 hu
  simp only [treeC, List.mem_cons, List.not_mem_nil, or_false] at hf
  rcases hf with rfl | rfl <;> rfl

/-- A slice of texts. -/
structure TextsAt (w : World) (A : Sl) (l : List ByteArray) : Prop where
  at_ : Reads w A.1 l.length A.2 1 (l.map strV)
  size : ∀ t ∈ l, t.size ≤ maxLen

/-- A value's own slices. -/
structure ValL (w : World) (v : ValR) : Prop where
  num : -9223372036854775808 ≤ v.number ∧ v.number < 9223372036854775808
  words : Reads w v.a.1 v.words.length v.a.2 1 (v.words.map uv)
  small : ∀ x ∈ v.words, x < 18446744073709551616
  texts : TextsAt w v.b v.texts
  subs : Reads w v.c.1 v.subs.length v.c.2 2 (v.subs.flatMap treeC)

/-- A meaning lies in memory. -/
inductive TreeAt (w : World) : MsgR → Prop
  | mk (x : MsgR) (vals : Reads w x.a.1 x.vals.length x.a.2 4 (x.vals.flatMap tvalC)) (unk : TextsAt w x.b x.unk) (each : ∀ v ∈ x.vals, ValL w v) (sub : ∀ v ∈ x.vals, ∀ y ∈ v.subs, TreeAt w y) : TreeAt w x

section
variable {w w' : World} {x : MsgR} {v : ValR}

theorem TextsAt.up {A : Sl} {l : List ByteArray} (h : TextsAt w A l) (k : Ext w w') : TextsAt w' A l := ⟨h.at_.ext k, h.size⟩

theorem ValL.up (h : ValL w v) (k : Ext w w') : ValL w' v := ⟨h.num, h.words.ext k, h.small, h.texts.up k, h.subs.ext k⟩

theorem TreeAt.up (h : TreeAt w x) (k : Ext w w') : TreeAt w' x := by
  induction h with
  | mk x vals unk each sub ih => exact .mk x (vals.ext k) (unk.up k) (fun v hv => (each v hv).up k) (fun v hv y hy => ih v hv y hy)

theorem TreeAt.vals (h : TreeAt w x) : Reads w x.a.1 x.vals.length x.a.2 4 (x.vals.flatMap tvalC) := by cases h; assumption

theorem TreeAt.unk (h : TreeAt w x) : TextsAt w x.b x.unk := by cases h; assumption

theorem TreeAt.each (h : TreeAt w x) : ∀ v ∈ x.vals, ValL w v := by cases h; assumption

theorem TreeAt.sub (h : TreeAt w x) : ∀ v ∈ x.vals, ∀ y ∈ v.subs, TreeAt w y := by cases h; assumption

/-- A value with its messages. -/
structure ValAt (w : World) (v : ValR) : Prop where
  own : ValL w v
  sub : ∀ y ∈ v.subs, TreeAt w y

theorem ValAt.up (h : ValAt w v) (k : Ext w w') : ValAt w' v := ⟨h.own.up k, fun y hy => (h.sub y hy).up k⟩

theorem TreeAt.val (h : TreeAt w x) (hv : v ∈ x.vals) : ValAt w v := ⟨h.each v hv, h.sub v hv⟩

theorem TreeAt.of (vals : Reads w x.a.1 x.vals.length x.a.2 4 (x.vals.flatMap tvalC)) (unk : TextsAt w x.b x.unk) (each : ∀ v ∈ x.vals, ValAt w v) : TreeAt w x :=
  .mk x vals unk (fun v hv => (each v hv).own) (fun v hv => (each v hv).sub)

/-- The cells of a value in a slice of values. -/
theorem valCells {A : Option Addr} {n c k : Nat} {l : List ValR} (h : Reads w A n c 4 (l.flatMap tvalC)) (hk : k < n) :
    ∃ b off v, A = some ⟨b, off, none⟩ ∧ l[k]? = some v ∧ b < w.heap.size ∧ w.cell? ⟨b, off + k * 4, none⟩ = some (.int .i64 v.number) ∧ w.cell? ⟨b, off + k * 4 + 1, none⟩ = some (.slice v.a.1 v.words.length v.a.2) ∧
      w.cell? ⟨b, off + k * 4 + 2, none⟩ = some (.slice v.b.1 v.texts.length v.b.2) ∧ w.cell? ⟨b, off + k * 4 + 3, none⟩ = some (.slice v.c.1 v.subs.length v.c.2) := by
  obtain ⟨b, off, v, e, hx, hb, hj⟩ := h.elem (size := 4) (fun _ => rfl) (by omega) hk
  exact ⟨b, off, v, e, hx, hb, hj 0 _ rfl, hj 1 _ rfl, hj 2 _ rfl, hj 3 _ rfl⟩

/-- The cells of a meaning in a slice of meanings. -/
theorem treeCells {A : Option Addr} {n c k : Nat} {l : List MsgR} (h : Reads w A n c 2 (l.flatMap treeC)) (hk : k < n) :
    ∃ b off x, A = some ⟨b, off, none⟩ ∧ l[k]? = some x ∧ b < w.heap.size ∧ w.cell? ⟨b, off + k * 2, none⟩ = some (.slice x.a.1 x.vals.length x.a.2) ∧ w.cell? ⟨b, off + k * 2 + 1, none⟩ = some (.slice x.b.1 x.unk.length x.b.2) := by
  obtain ⟨b, off, v, e, hx, hb, hj⟩ := h.elem (size := 2) (fun _ => rfl) (by omega) hk
  exact ⟨b, off, v, e, hx, hb, hj 0 _ rfl, hj 1 _ rfl⟩

theorem TextsAt.text {A : Sl} {l : List ByteArray} {k : Nat} (h : TextsAt w A l) (hk : k < l.length) :
    ∃ b off t, A.1 = some ⟨b, off, none⟩ ∧ l[k]? = some t ∧ b < w.heap.size ∧ t.size ≤ maxLen ∧ w.cell? ⟨b, off + k, none⟩ = some (.string t) := by
  obtain ⟨b, off, e, hb, hc⟩ := h.at_.at_ (by omega)
  have hx : l[k]? = some (l[k]'hk) := List.getElem?_eq_getElem hk
  exact ⟨b, off, _, e, hx, hb, h.size _ (List.mem_of_getElem? hx), hc k _ (by rw [List.getElem?_map, hx]; rfl)⟩
end

/-- How deep a meaning is, as a machine's whole number. -/
def depthI {τ : Type} (x : MsgX τ) : Int :=
  x.vals.attach.foldl (fun d v => v.1.subs.attach.foldl (fun d y => max d (wrap64 (depthI y.1 + 1))) d) 0
termination_by SizeOf.sizeOf x
decreasing_by exact MsgX.sub_lt v.2 y.2

def depthS {τ : Type} (d : Int) (l : List (MsgX τ)) : Int := l.foldl (fun d y => max d (wrap64 (depthI y + 1))) d

def depthU {τ : Type} (d : Int) (l : List (ValG τ (MsgX τ))) : Int := l.foldl (fun d v => depthS d v.subs) d

theorem attach_foldl {α β : Type} (l : List α) (g : β → α → β) (b : β) : l.attach.foldl (fun d x => g d x.1) b = l.foldl g b := by
  have h : l.attach.foldl (fun d x => g d x.1) b = (l.attach.map Subtype.val).foldl g b := by rw [List.foldl_map]
  rw [h, List.attach_map_subtype_val]

theorem depthI_eq {τ : Type} (x : MsgX τ) : depthI x = depthU 0 x.vals := by
  rw [depthI]
  rw [attach_foldl x.vals (fun d v => v.subs.attach.foldl (fun d y => max d (wrap64 (depthI y.1 + 1))) d) 0]
  unfold depthU depthS
  congr 1
  funext d v
  rw [attach_foldl v.subs (fun d y => max d (wrap64 (depthI y + 1))) d]

theorem depthU_snoc {τ : Type} (d : Int) {l : List (ValG τ (MsgX τ))} {k : Nat} {v : ValG τ (MsgX τ)} (h : l[k]? = some v) : depthU d (l.take (k + 1)) = depthS (depthU d (l.take k)) v.subs := by
  unfold depthU
  rw [take_snoc _ _ _ h, List.foldl_append]
  rfl

theorem depthS_snoc {τ : Type} (d : Int) {l : List (MsgX τ)} {k : Nat} {y : MsgX τ} (h : l[k]? = some y) : depthS d (l.take (k + 1)) = max (depthS d (l.take k)) (wrap64 (depthI y + 1)) := by
  unfold depthS
  rw [take_snoc _ _ _ h, List.foldl_append]
  rfl

theorem depth_bare {τ : Type} (x : MsgX τ) : depthI (bare x) = depthI x := by
  refine MsgX.ind (P := fun x => depthI (bare x) = depthI x) (fun x ih => ?_) x
  rw [depthI_eq, depthI_eq, bare_eq]
  show depthU 0 (x.vals.map bareV) = _
  have hs : ∀ (l : List (MsgX τ)) (d : Int), (∀ y ∈ l, depthI (bare y) = depthI y) → depthS d (l.map bare) = depthS d l := by
    intro l
    induction l with
    | nil => intro d _; rfl
    | cons y l ihl =>
      intro d h
      have h1 := h y List.mem_cons_self
      have h2 := ihl (max d (wrap64 (depthI y + 1))) (fun z hz => h z (List.mem_cons_of_mem _ hz))
      simp only [depthS, List.map_cons, List.foldl_cons] at h2 ⊢
      rw [h1]
      exact h2
  have hv : ∀ (l : List (ValG τ (MsgX τ))) (d : Int), (∀ v ∈ l, ∀ y ∈ v.subs, depthI (bare y) = depthI y) → depthU d (l.map bareV) = depthU d l := by
    intro l
    induction l with
    | nil => intro d _; rfl
    | cons v l ihl =>
      intro d h
      have h1 := hs v.subs d (h v List.mem_cons_self)
      have h2 := ihl (depthS d v.subs) (fun z hz => h z (List.mem_cons_of_mem _ hz))
      simp only [depthU, List.map_cons, List.foldl_cons] at h2 ⊢
      show List.foldl _ (depthS d (v.subs.map bare)) _ = _
      rw [h1]
      exact h2
  exact hv x.vals 0 ih

end Go.Proofs.YthnoknheodecgaaGreat
