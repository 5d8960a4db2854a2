/- Words of my own for a map with whole numbers as keys, as the list of its entries. No program is named. -/
import Derived.Test.YtlmmlmmadgcmcaaLib
import Derived.MapKept
import Derived.Carry
import Derived.ChangeMaps4
namespace Go.Proofs.Ytlmmlmmadgcmcaa
open Go.RowKit Go.MapKept
open Go.ChangeMaps (setBlock)
set_option linter.unusedVariables false

/-- Block b of w is a map of these entries. -/
def MapI (w : World) (b : Nat) (q : IntKind) (M : List (Int × Value)) : Prop :=
  ∃ es clock, w.heap[b]? = some (.map es clock) ∧ es.toList.map (fun e => (e.key, e.val)) = M.map (fun p => (Value.int q p.1, p.2))

/-- The entry of a key: its place, its value. -/
def findI (k : Int) : List (Int × Value) → Nat → Option (Nat × Value)
  | [], _ => none
  | p :: r, i => if k = p.1 then some (i, p.2) else findI k r (i + 1)

/-- The value of a key. -/
def valI (k : Int) : List (Int × Value) → Option Value
  | [] => none
  | p :: r => if k = p.1 then some p.2 else valI k r

theorem findI_val (k : Int) : ∀ (M : List (Int × Value)) (i : Nat), (findI k M i).map (·.2) = valI k M
  | [], _ => rfl
  | p :: r, i => by
    unfold findI valI
    split
    · rfl
    · exact findI_val k r (i + 1)

theorem findNow_int (q : IntKind) (k : Int) : ∀ (es : List MapEntry) (M : List (Int × Value)) (i : Nat), es.map (fun e => (e.key, e.val)) = M.map (fun p => (Value.int q p.1, p.2)) →
    Instr.findNow (.int q) (.int q k) es i = some (findI k M i)
  | [], [], _, _ => rfl
  | [], _ :: _, _, h => by simp at h
  | _ :: _, [], _, h => by simp at h
  | e :: es, p :: M, i, h => by
    simp only [List.map_cons, List.cons.injEq, Prod.mk.injEq] at h
    obtain ⟨⟨h1, h2⟩, h3⟩ := h
    have ih := findNow_int q k es M (i + 1) h3
    unfold Instr.findNow
    rw [h1]
    simp only [Instr.sameNow, if_true]
    unfold findI
    by_cases hk : k = p.1
    · rw [if_pos hk, show (k == p.1) = true from by simpa using hk, h2]
    · rw [if_neg hk, show (k == p.1) = false from by simpa using hk]
      exact ih

section
variable {P : Program} {w w' : World} {b : Nat} {q : IntKind} {M : List (Int × Value)} {t k e : TypeId}

theorem MapI.lt (h : MapI w b q M) : b < w.heap.size := by
  obtain ⟨es, clock, hb, _⟩ := h
  exact (Array.getElem?_eq_some_iff.1 hb).1

theorem MapI.ext (h : MapI w b q M) (hE : Ext w w') : MapI w' b q M := by
  have hlt := h.lt
  obtain ⟨es, clock, hb, hm⟩ := h
  exact ⟨es, clock, (hE.block b hlt).trans hb, hm⟩

theorem MapI.made (w : World) (q : IntKind) : MapI (w.alloc (.map #[] 0)) w.heap.size q [] := ⟨#[], 0, (heap_alloc w _).1, rfl⟩

theorem MapI.look (h : MapI w b q M) (ht : P.underlying t = some (.map k e)) (hk : P.underlying k = some (.int q)) {z : Value} (hz : (zeroValue e).run P w = .ok z w) (x : Int) :
    (Instr.lookup t (.map (some b)) (.int q x) false).run P w = .ok ((valI x M).getD z) w ∧
    (Instr.lookup t (.map (some b)) (.int q x) true).run P w = .ok (.tuple #[(valI x M).getD z, .bool (valI x M).isSome]) w := by
  obtain ⟨es, clock, hb, hm⟩ := h
  have hf := findNow_int q x es.toList M 0 hm
  have hr := run_findKey (P := P) (w := w) (kt := k) hk hf
  have hv := findI_val x M 0
  have hc : (Instr.checkKey es.isEmpty 10000 k (.int q x)).run P w = .ok () w := run_checkKey hk (by simp [IsKey]) _ _
  rcases hfi : findI x M 0 with _ | ⟨i, v⟩
  · rw [hfi] at hv hr
    simp only [Option.map_none] at hv
    rw [← hv]
    constructor <;> simp [Instr.lookup, run_underlying ht, Go.MapKept.run_getObj_map hb, hc, hr, hz, Result.andThen]
  · rw [hfi] at hv hr
    simp only [Option.map_some] at hv
    rw [← hv]
    constructor <;> simp [Instr.lookup, run_underlying ht, Go.MapKept.run_getObj_map hb, hc, hr, Result.andThen]

/-- A new key. -/
theorem MapI.put (h : MapI w b q M) (ht : P.underlying t = some (.map k e)) (hk : P.underlying k = some (.int q)) {x : Int} (hx : valI x M = none) (v : Value) :
    ∃ w', (Instr.mapUpdate t (.map (some b)) (.int q x) v).run P w = .ok () w' ∧ MapI w' b q (M ++ [(x, v)]) ∧ w.grownBy w' (some b) := by
  obtain ⟨es, clock, hb, hm⟩ := h
  have hf := findNow_int q x es.toList M 0 hm
  have hv := findI_val x M 0
  rw [hx] at hv
  have hn : findI x M 0 = none := by
    rcases hfi : findI x M 0 with _ | ⟨i, v⟩
    · rfl
    · rw [hfi] at hv; simp at hv
  rw [hn] at hf
  have hr := run_findKey (P := P) (w := w) (kt := k) hk hf
  have hc : (Instr.checkKey false 10000 k (.int q x)).run P w = .ok () w := run_checkKey hk (by simp [IsKey]) _ _
  refine ⟨setBlock w b (.map (es.push { key := .int q x, val := v, born := clock }) (clock + 1)), ?_, ?_, ?_⟩
  · simp [Instr.mapUpdate, run_underlying ht, Go.MapKept.run_getObj_map hb, hc, hr, Go.MapKept.run_setObj_map _ hb, Result.andThen, setBlock]
  · refine ⟨_, _, (heap_set hb).1, ?_⟩
    simp [hm]
  · exact ⟨rfl, rfl, rfl, by simp [setBlock], fun r _ hr => (heap_set hb).2 r (fun e => hr (by rw [e]))⟩

theorem Ext.put {w0 : World} (h : Ext w0 w) (hg : w.grownBy w' (some b)) (hb : w0.heap.size ≤ b) : Ext w0 w' :=
  Below.grown h hg h.size (fun k hk => by cases hk; exact hb)

/-- 'm[x] = v' in a literal, x a new key. -/
theorem wpList_insert {ops : Array Oper} {rest : List Oper} {o : Oper} {a : Act} {Q : Exit → Act → World → Prop} (hgd : o.guard = none) (m x v : Operand)
    (ho : o.op = .insert t m x v) (ht : P.underlying t = some (.map k e)) (hk : P.underlying k = some (.int q)) (hm : a.eval m = .map (some b)) (h : MapI w b q M) {n : Int} {val : Value} (hx : a.eval x = .int q n) (hv : a.eval v = val)
    (hn : valI n M = none) (kk : ∀ w', MapI w' b q (M ++ [(n, val)]) → w.grownBy w' (some b) → wpList P ops Q rest (a.put o.dst undef) w') : wpList P ops Q (o :: rest) a w := by
  refine wpList_plain hgd fun K' hK' => ?_
  obtain ⟨w', hrun, r1, r2⟩ := h.put ht hk hn val
  unfold Oper.wp
  simp [execOp, ho, hm, hx, hv, hrun, Result.andThen]
  exact hK' _ _ (kk w' r1 r2)
end

end Go.Proofs.Ytlmmlmmadgcmcaa
