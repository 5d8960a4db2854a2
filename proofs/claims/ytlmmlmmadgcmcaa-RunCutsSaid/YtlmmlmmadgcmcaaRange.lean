/- A range over a function whose iterator keeps its state in a cell of its own: the iterator's contract, and what the caller owes. No program is named. -/
import Derived.RangeFuncNested
import Derived.RangeFuncBound
import Derived.RangeFuncCalls
import Derived.RangeFuncLeaves
import Derived.Test.YtlmmlmmadgcmcaaLib6
namespace Go.Proofs.Ytlmmlmmadgcmcaa
open Go.RowKit
set_option linter.unusedVariables false

/-- The blocks s lie as they lay. -/
def Same (s : Nat → Prop) (W W' : World) : Prop := ∀ b, s b → W'.heap[b]? = W.heap[b]?

theorem Same.refl (s : Nat → Prop) (W : World) : Same s W W := fun _ _ => rfl

theorem Same.trans {s : Nat → Prop} {A B C : World} (h : Same s A B) (k : Same s B C) : Same s A C := fun b hb => (k b hb).trans (h b hb)

/-- The iterator's contract: it yields the values vs one by one, and between two of them it writes the block B of its own alone, and lays new ones; a round keeps the blocks s. -/
def IterK {β : Type} (P : Program) (gf : Nat) (lb : Array Value) (encs : β → Array Value) (vs : List β) (s : Nat → Prop) (B : Nat) (w : World) : Prop :=
  ∀ (l : Nat) (J : Nat → World → Prop) (Jx : World → Prop) (W : World), w.heap.size ≤ W.heap.size → Same s w W → (∀ k W W', J k W → Only B W W' → J k W') → (∀ W W', Jx W → Only B W W' → Jx W') → (∀ k W, J k W → w.heap.size ≤ W.heap.size) →
    (∀ k x W1, J k W1 → vs[k]? = some x → YieldAt Fence.wide 1 P l (encs x) W1 fun e W' => (e = .returned (.bool true) ∧ J (k + 1) W' ∧ Same s W1 W') ∨ (e = .returned (.bool false) ∧ Jx W')) →
    J 0 W → CallsIn Fence.wide 2 P gf (#[.func (.yield l) #[] #[]] ++ lb) W fun e W' => (∃ v, e = .returned v) ∧ (J vs.length W' ∨ Jx W')

/-- How the body of a round is left. -/
def roundEnd (s : Nat → Prop) (I : Nat → World → Prop) (Ix : Code → World → Prop) (k : Nat) (W : World) : Exit → Act → World → Prop
  | .normal, _, W' => KeepsOthers W W' ∧ Same s W W' ∧ I (k + 1) W'
  | .ret, _, W' => KeepsOthers W W' ∧ Ix .ret W'
  | .exit id, _, W' => KeepsOthers W W' ∧ Ix (.exit id) W'
  | _, _, _ => False

/-- Another block's turn, no cells, is no matter. -/
def Besides (N : Nat) (I : World → Prop) : Prop := ∀ W W' b o, I W → N ≤ b → W.heap[b]? = some o → o.isCells = false → Only b W W' → I W'

theorem BlkT.besides {W W' : World} {b r : Nat} {t : TypeId} {cs : Array Value} {o : Obj} (h : BlkT W r t cs) (hb : W.heap[b]? = some o) (hc : o.isCells = false) (g : Only b W W') : BlkT W' r t cs := by
  refine (g.block r h.lt (fun e => ?_)).trans h
  injection e with e
  subst e
  unfold BlkT at h
  rw [h] at hb
  injection hb with hb
  subst hb
  cases hc

theorem BlkT.onlyB {W W' : World} {B r : Nat} {t : TypeId} {cs : Array Value} (h : BlkT W r t cs) (g : Only B W W') (hne : r ≠ B) : BlkT W' r t cs := (g.block r h.lt (fun e => hne (by injection e))).trans h

theorem BlkT.putObj {W : World} {r D : Nat} {t : TypeId} {cs : Array Value} (h : BlkT W r t cs) (hne : r ≠ D) (o : Obj) : BlkT (W.putObj D o) r t cs := (World.putObj_heap_other hne).trans h

theorem only_putObj (W : World) (l : Nat) (o : Obj) : Only l W (W.putObj l o) := grownBy_putObj' W l o

theorem heap_other {W W' : World} {B b : Nat} (h : Only B W W') {o : Obj} (hb : W.heap[b]? = some o) (hne : b ≠ B) : W'.heap[b]? = some o :=
  (h.block b (Array.getElem?_eq_some_iff.1 hb).1 (fun e => hne (by injection e))).trans hb

section
variable {P : Program}

theorem wp_range {β : Type} {g : Operand} {ps : Array Tmp} {assign body : Code} {Q : Exit → Act → World → Prop} {a : Act} {w : World} {gf : Nat} {lb : Array Value} (hg : a.eval g = .func (.func gf) #[] lb)
    (eg : ∀ args w, (callFunc gf args).run P w = .ok (.enter gf args) w) {encs : β → Array Value} {vs : List β} {s : Nat → Prop} {B : Nat} (hit : IterK P gf lb encs vs s B w) (hs : ∀ b, s b → b < w.heap.size) (hB : B < w.heap.size) (hps : ∀ x, (encs x).size = ps.size)
    (I : Nat → World → Prop) (Ix : Code → World → Prop) (A : Nat → β → Act → World → Prop) (hsz : ∀ k W, I k W → w.heap.size ≤ W.heap.size)
    (hI : ∀ k, Besides w.heap.size (I k)) (hIB : ∀ k W W', I k W → Only B W W' → I k W') (hIx : ∀ c, Besides w.heap.size (Ix c)) (hIxB : ∀ c W W', Ix c W → Only B W W' → Ix c W') (hA : ∀ k x a₁, Besides w.heap.size (A k x a₁))
    (h0 : I 0 w)
    (hassign : ∀ (l k : Nat) (x : β) (W : World) (K : Act → World → Prop), I k W → vs[k]? = some x → (∀ a₁ w₁, A k x a₁ w₁ → Ext W w₁ → K a₁ w₁) →
      assign.wpIn (Fence.wide.inRound l) 1 P (Exit.then K (fun _ _ _ => False)) { tmps := (ps.zip (encs x)).foldl (fun t (p, v) => t.setIfInBounds p v) a.tmps, defers := [] } W)
    (hbody : ∀ (l k : Nat) (x : β) (a₁ : Act) (W : World), A k x a₁ W → vs[k]? = some x → body.wpIn (Fence.wide.inRound l) 1 P (roundEnd s I Ix k W) a₁ W)
    (hdone : ∀ (D : Nat) (W : World), w.heap.size ≤ D → I vs.length W → W.heap[D]? = some (.deferred (some [])) → Q .normal { a with defers := { target := .collected D, args := #[] } :: a.defers } W)
    (hstop : ∀ (D : Nat) (c : Code) (W : World), w.heap.size ≤ D → Ix c W → W.heap[D]? = some (.deferred (some [])) → c.wpIn Fence.wide 3 P Q { a with defers := { target := .collected D, args := #[] } :: a.defers } W) :
    (Code.rangeFunc g ps assign body).wpIn Fence.wide 3 P Q a w := by
  refine wpIn_rangeFunc ?_
  intro fn hfn
  obtain ⟨rc, hrc⟩ : ∃ rc : LoopState → Option Code → Loop, rc = fun st pe => { state := st, pending := pe, fn, tmps := a.tmps, params := ps, assign, body, defers := w.heap.size } := ⟨_, rfl⟩
  have hD0 : ∀ W1, W1 = (w.alloc (.deferred (some []))).alloc (.loop (rc .ready none)) → W1.heap[w.heap.size]? = some (.deferred (some [])) ∧ W1.heap[w.heap.size + 1]? = some (.loop (rc .ready none)) ∧ Ext w W1 := by
    rintro W1 rfl
    refine ⟨(Below.heap_alloc _ _ _ (by simp)).trans (World.alloc_heap_new w _), ?_, Ext.alloc (Ext.alloc (Ext.refl w) _) _⟩
    have := World.alloc_heap_new (w.alloc (.deferred (some []))) (.loop (rc .ready none))
    rwa [World.size_alloc] at this
  obtain ⟨W1, hW1⟩ : ∃ W1, W1 = (w.alloc (.deferred (some []))).alloc (.loop (rc .ready none)) := ⟨_, rfl⟩
  obtain ⟨hK1, hL1, hE1⟩ := hD0 W1 hW1
  have hO1 : Only B w W1 := (Only.refl B w).ext hE1
  refine ⟨w.heap.size + 1, [{ target := .collected w.heap.size, args := #[] }], W1, { target := .fn (.func gf) lb, args := #[.func (.yield (w.heap.size + 1)) #[] #[]] }, W1, gf,
    #[.func (.yield (w.heap.size + 1)) #[] #[]] ++ lb, W1, ?_, ?_, fun _ _ => trivial, ?_, fun _ => by omega, ?_⟩
  · rw [hW1, hrc]; exact run_enterLoop_outer _ _ _ _ _
  · simp only [resolve, hg]
    simp [go_sem]
  · simp [invoke, go_sem, eg]
  · have book : ∀ {W W' : World} {l' : Nat} {o o' : Obj}, W.heap[l']? = some o → Only B W W' → l' ≠ B → W'.heap[l']? = some o := fun h k hne => heap_other k h hne
    refine (hit (w.heap.size + 1) (fun k W => I k W ∧ W.heap[w.heap.size + 1]? = some (.loop (rc .ready none)) ∧ W.heap[w.heap.size]? = some (.deferred (some [])))
      (fun W => ∃ c, Ix c W ∧ W.heap[w.heap.size + 1]? = some (.loop (rc .done (some c))) ∧ W.heap[w.heap.size]? = some (.deferred (some []))) W1 hE1.size (fun b hb => hE1.block b (hs b hb))
      (fun k W W' h ho => ⟨hIB k W W' h.1 ho, heap_other ho h.2.1 (by omega), heap_other ho h.2.2 (by omega)⟩)
      (fun W W' h ho => by
        obtain ⟨c, h1, h2, h3⟩ := h
        exact ⟨c, hIxB c W W' h1 ho, heap_other ho h2 (by omega), heap_other ho h3 (by omega)⟩)
      (fun k W h => hsz k W h.1) ?_ ⟨hIB 0 w W1 h0 hO1, hL1, hK1⟩).mono ?_
    · -- one round
      rintro k x W ⟨hi, hl, hk⟩ hx
      have hlt : w.heap.size + 1 < W.heap.size := (Array.getElem?_eq_some_iff.1 hl).1
      have hy := run_yield (P := P) (args := encs x) hl (by rw [hrc]; exact hps x)
      rw [hrc] at hy
      refine ⟨fn, _, assign, body, hy, roundIn_of_wpIn hfn (hassign _ k x W _ hi hx fun a₁ w₁ hA1 hEa => ?_)⟩
      have hl1 : w₁.heap[w.heap.size + 1]? = some (.loop (rc .ready none)) := (hEa.block _ hlt).trans hl
      have hk1 : w₁.heap[w.heap.size]? = some (.deferred (some [])) := (hEa.block _ (by omega)).trans hk
      have hlt1 : w.heap.size + 1 < w₁.heap.size := (Array.getElem?_eq_some_iff.1 hl1).1
      refine ⟨_, run_beginRound hl1 (by rw [hrc]), ?_⟩
      obtain ⟨W2, hW2⟩ : ∃ W2, W2 = w₁.putObj (w.heap.size + 1) (.loop { rc .ready none with state := .busy }) := ⟨_, rfl⟩
      rw [← hW2]
      have hl2 : W2.heap[w.heap.size + 1]? = some (.loop { rc .ready none with state := .busy }) := by rw [hW2]; exact World.putObj_heap_same hlt1
      have hk2 : W2.heap[w.heap.size]? = some (.deferred (some [])) := by rw [hW2]; exact (World.putObj_heap_other (by omega)).trans hk1
      have hA2 : A k x a₁ W2 := hA k x a₁ w₁ W2 _ _ hA1 (Nat.le_succ _) hl1 rfl (by rw [hW2]; exact only_putObj _ _ _)
      have hs2 : Same s W W2 := fun b hb => by
        have := hs b hb
        rw [hW2, World.putObj_heap_other (by omega)]
        exact hEa.block b (by omega)
      refine wpIn_mono (hbody _ k x a₁ W2 hA2 hx) ?_
      have fin : ∀ (jump : Option Code) (W3 : World), KeepsOthers W2 W3 →
          (Instr.endRound (w.heap.size + 1) jump).run P W3 = .ok (.bool jump.isNone) (W3.putObj (w.heap.size + 1) (.loop (rc (if jump.isNone then .ready else .done) jump))) ∧
          W3.heap[w.heap.size + 1]? = some (.loop { rc .ready none with state := .busy }) ∧
          (W3.putObj (w.heap.size + 1) (.loop (rc (if jump.isNone then .ready else .done) jump))).heap[w.heap.size + 1]? = some (.loop (rc (if jump.isNone then .ready else .done) jump)) ∧
          (W3.putObj (w.heap.size + 1) (.loop (rc (if jump.isNone then .ready else .done) jump))).heap[w.heap.size]? = some (.deferred (some [])) := fun jump W3 h3 => by
        have hl3 := h3.same _ _ hl2 rfl
        have hr := run_endRound (P := P) jump hl3
        rw [hrc] at hr ⊢
        exact ⟨hr, by rw [hrc] at hl3; exact hl3, World.putObj_heap_same (Array.getElem?_eq_some_iff.1 hl3).1, (World.putObj_heap_other (by omega)).trans (h3.same _ _ hk2 rfl)⟩
      rintro e a3 W3 hp
      cases e with
      | normal =>
        obtain ⟨h3, hs3, hi3⟩ := hp
        obtain ⟨hr, hl3, hl4, hk4⟩ := fin none W3 h3
        refine ⟨_, _, hr, .inl ⟨rfl, ⟨hI _ _ _ _ _ hi3 (Nat.le_succ _) hl3 rfl (only_putObj _ _ _), hl4, hk4⟩, (hs2.trans hs3).trans fun b hb => ?_⟩⟩
        have := hs b hb
        exact World.putObj_heap_other (by omega)
      | ret =>
        obtain ⟨h3, hi3⟩ := hp
        obtain ⟨hr, hl3, hl4, hk4⟩ := fin (some .ret) W3 h3
        exact ⟨_, _, hr, .inr ⟨rfl, .ret, hIx _ _ _ _ _ hi3 (Nat.le_succ _) hl3 rfl (only_putObj _ _ _), hl4, hk4⟩⟩
      | exit id =>
        obtain ⟨h3, hi3⟩ := hp
        obtain ⟨hr, hl3, hl4, hk4⟩ := fin (some (.exit id)) W3 h3
        exact ⟨_, _, hr, .inr ⟨rfl, .exit id, hIx _ _ _ _ _ hi3 (Nat.le_succ _) hl3 rfl (only_putObj _ _ _), hl4, hk4⟩⟩
      | goto t => exact hp.elim
      | panic ch => exact hp.elim
      | outgrown => exact hp.elim
    · -- behind the iterator
      rintro e W2 ⟨⟨v, rfl⟩, ⟨hi, hl, hk⟩ | ⟨c, hi, hl, hk⟩⟩
      · have hr := run_endLoop (P := P) hl (by rw [hrc]; simp)
        have hr2 : (Instr.endLoop (w.heap.size + 1)).run P W2 = .ok none (W2.putObj (w.heap.size + 1) (.loop { rc .ready none with state := .exhausted })) := by rw [hr, hrc]
        exact ⟨none, _, hr2, hdone _ _ (Nat.le_refl _) (hI _ _ _ _ _ hi (Nat.le_succ _) hl rfl (only_putObj _ _ _)) ((World.putObj_heap_other (by omega)).trans hk)⟩
      · have hr := run_endLoop (P := P) hl (by rw [hrc]; simp)
        have hr2 : (Instr.endLoop (w.heap.size + 1)).run P W2 = .ok (some c) (W2.putObj (w.heap.size + 1) (.loop { rc .done (some c) with state := .exhausted })) := by rw [hr, hrc]
        exact ⟨some c, _, hr2, hstop _ c _ (Nat.le_refl _) (hIx _ _ _ _ _ hi (Nat.le_succ _) hl rfl (only_putObj _ _ _)) ((World.putObj_heap_other (by omega)).trans hk)⟩
end

end Go.Proofs.Ytlmmlmmadgcmcaa
