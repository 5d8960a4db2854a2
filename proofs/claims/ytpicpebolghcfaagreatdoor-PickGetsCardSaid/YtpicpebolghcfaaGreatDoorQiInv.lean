/- A drawn region by an invariant: each operation once, in whatever order. No program is named. -/
import Derived.Test.YtpicpebolghcfaaGreatDoorQiLib
import Derived.Orders

namespace Go.Proofs.YtpicpebolghcfaaGreatDoor
open Go.RowKit
set_option linter.unusedVariables false

theorem ff {b : Bool} {p : Prop} (h : b = false) (k : b = true) : p := absurd (h.symm.trans k) (by decide)

section
variable {P : Program} {md : Region.Mode} {ops : Array Oper} {Q : Exit → Act → World → Prop}

theorem ready_spec {listed : Array Bool} {i : Nat} (h : i ∈ Region.ready md ops listed) : i < ops.size ∧ listed.getD i true = false ∧ ∀ o, ops[i]? = some o → o.after.all (fun e => !Region.binds md e || listed.getD e.on false) = true := by
  unfold Region.ready at h
  rw [List.mem_filter, List.mem_range] at h
  obtain ⟨h1, h2⟩ := h
  rw [Bool.and_eq_true] at h2
  refine ⟨h1, by simpa using h2.1, fun o ho => ?_⟩
  have h3 := h2.2
  rw [ho] at h3
  simpa using h3

theorem countB_set : ∀ {l : List Bool} {i : Nat}, l[i]? = some false → (l.set i true).count false + 1 = l.count false
  | [], i, h => by simp at h
  | b :: l, 0, h => by
    simp at h
    subst h
    simp
  | b :: l, i + 1, h => by
    simp at h
    have := countB_set (l := l) (i := i) h
    simp only [List.set_cons_succ, List.count_cons]
    omega

theorem wpAny_inv {I : Array Bool → Act → World → Prop} (hstep : ∀ (i : Nat) (listed : Array Bool) (a : Act) (w : World), I listed a w → i ∈ Region.ready md ops listed → wpOp P ops Q i (I (listed.setIfInBounds i true)) a w)
    (hfin : ∀ (listed : Array Bool) (a : Act) (w : World), I listed a w → Region.ready md ops listed = [] → Q .normal a w) :
    ∀ (fuel : Nat) (listed : Array Bool) (a : Act) (w : World), listed.size = ops.size → listed.toList.count false ≤ fuel → I listed a w → wpAny P md ops Q fuel listed a w := by
  intro fuel
  induction fuel with
  | zero =>
    intro listed a w hsz hc hI
    have hr : Region.ready md ops listed = [] := by
      rcases h : Region.ready md ops listed with _ | ⟨i, l⟩
      · rfl
      · obtain ⟨h1, h2, _⟩ := ready_spec (md := md) (ops := ops) (listed := listed) (i := i) (by rw [h]; simp)
        have h3 : listed.toList[i]? = some false := by
          rw [Array.getElem?_toList]
          rw [Array.getD_eq_getD_getElem?] at h2
          rcases h4 : listed[i]? with _ | b
          · rw [h4] at h2
            cases h2
          · rw [h4] at h2
            simp at h2
            rw [h2]
        have := countB_set h3
        omega
    exact ⟨hr, hfin _ _ _ hI hr⟩
  | succ fuel ih =>
    intro listed a w hsz hc hI
    refine ⟨fun hr => hfin _ _ _ hI hr, fun i hi => wpOp_mono (fun a w h => ih _ a w (by simpa using hsz) ?_ h) (hstep i listed a w hI hi)⟩
    obtain ⟨h1, h2, _⟩ := ready_spec hi
    have h3 : listed.toList[i]? = some false := by
      rw [Array.getElem?_toList]
      rw [Array.getD_eq_getD_getElem?] at h2
      rcases h4 : listed[i]? with _ | b
      · rw [h4] at h2
        cases h2
      · rw [h4] at h2
        simp at h2
        rw [h2]
    have := countB_set h3
    rw [Array.toList_setIfInBounds]
    omega

theorem wp_region_inv {I : Array Bool → Act → World → Prop} {id : Nat} {a : Act} {w : World} (hm : P.follows .mixedOrders = true)
    (hstep : ∀ (i : Nat) (listed : Array Bool) (a : Act) (w : World), I listed a w → i ∈ Region.ready .any ops listed → wpOp P ops Q i (I (listed.setIfInBounds i true)) a w)
    (hfin : ∀ (listed : Array Bool) (a : Act) (w : World), I listed a w → Region.ready .any ops listed = [] → Q .normal a w)
    (h0 : I (Array.replicate ops.size false) a w.drew) : (Code.region id ops true).wp P Q a w :=
  wp_region_any hm (wpAny_inv hstep hfin ops.size _ a _ (by simp) (by simp) h0)

theorem ready_none {listed : Array Bool} {i : Nat} {o : Oper} (hr : Region.ready md ops listed = []) (ho : ops[i]? = some o) (hd : o.after.all (fun e => !Region.binds md e || listed.getD e.on false) = true) (hi : i < listed.size) : listed.getD i true = true := by
  rcases h : listed.getD i true with _ | _
  · have hlt : i < ops.size := (Array.getElem?_eq_some_iff.1 ho).1
    have : i ∈ Region.ready md ops listed := by
      unfold Region.ready
      rw [List.mem_filter, List.mem_range, h, ho]
      exact ⟨hlt, by simpa using hd⟩
    rw [hr] at this
    cases this
  · rfl

theorem wpOp_run {i : Nat} {o : Oper} {K2 : Act → World → Prop} {a : Act} {w : World} (ho : ops[i]? = some o) (hw : Region.wanted o (yielded ops a.tmps) = true) (h : ∀ K : Act → World → Prop, (∀ a w, K2 a w → K a w) → o.wp P a w K Q) : wpOp P ops Q i K2 a w := by
  unfold wpOp
  rw [ho]
  simp only
  rw [if_pos hw]
  exact .inl (h K2 (fun _ _ h => h))
end

end Go.Proofs.YtpicpebolghcfaaGreatDoor
