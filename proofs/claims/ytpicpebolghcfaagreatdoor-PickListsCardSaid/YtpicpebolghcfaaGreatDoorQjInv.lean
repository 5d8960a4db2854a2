/- Plain words of layer 22: what lies at a way. -/
import Derived.Test.YtpicpebolghcfaaGreatDoorQjS51
import Derived.Test.YtpicpebolghcfaaGreatDoorQjS4
import Derived.Test.YtpicpebolghcfaaGreatDoorQjLib
import Derived.Orders

namespace Go.Proofs.YtpicpebolghcfaaGreatDoor
open Go.RowKit Go.Shelf
set_option linter.unusedVariables false

def runP (f : FieldD) : Bool := f.rep && numberB f.kind

def thereP (f : FieldD) (ps : List (List UInt8)) : Bool := if runP f = true then decide (0 < ps.flatten.length) else decide (0 < ps.length)

def lastP (ps : List (List UInt8)) : List UInt8 := (ps.getLast?).getD []

def toldP (ps : List (List UInt8)) : List UInt8 := ps.flatMap fun b => Lib.uvarint b.length ++ b

def loadP (f : FieldD) (ps : List (List UInt8)) : List UInt8 :=
  if runP f = true ∨ (f.kind = 17 ∧ f.rep = false) then ps.flatten else if f.rep = false then lastP ps else toldP ps

def thingsP (f : FieldD) (ps : List (List UInt8)) : Nat :=
  if thereP f ps = false then 0 else if runP f = true then countV f.kind (loadP f ps) else if f.rep = true then ps.length else 1

theorem toldP_snoc {ps : List (List UInt8)} {k : Nat} {b : List UInt8} (h : ps[k]? = some b) : toldP (ps.take (k + 1)) = toldP (ps.take k) ++ (Lib.uvarint b.length ++ b) := by
  unfold toldP
  rw [List.take_add_one, h]
  simp

theorem uvarint_ten (x : Nat) (h : x < 18446744073709551616) : (Lib.uvarint x).length ≤ 10 := Lib.uvarint_length64 h

theorem vals_sum (bs : List UInt8) (q : ViewD → Bool) : ∀ (L : List ViewD) (p e : Nat), LinkV p L e → e ≤ bs.length → (∀ v ∈ L, v.r.f ≤ v.r.a ∧ v.r.a ≤ v.r.t) → ((L.filter q).map (valueO bs)).flatten.length ≤ e - p
  | [], p, e, _, _, _ => by simp
  | v :: L, p, e, h, he, hv => by
    obtain ⟨h1, h2, h3⟩ := h
    have ih := vals_sum bs q L v.r.t e h3 he (fun u hu => hv u (List.mem_cons_of_mem _ hu))
    have hle := LinkV.le h3
    have hb := hv v List.mem_cons_self
    have hl := spanB_length bs (a := v.r.a) (t := v.r.t) (by omega)
    by_cases hq : q v = true
    · rw [List.filter_cons_of_pos hq, List.map_cons, List.flatten_cons, List.length_append, show valueO bs v = spanB bs v.r.a v.r.t from rfl]
      omega
    · rw [List.filter_cons_of_neg hq]
      omega

theorem pieces_le_len (fs : List FieldD) (bs : List UInt8) (n : Int) : (piecesN fs bs n).flatten.length ≤ bs.length := by
  unfold piecesN
  by_cases h : (viewsV fs bs).2.2 = 0
  · have hl := viewsV_link fs bs bs.length 0 (by omega) (Nat.zero_le _) h
    have := vals_sum bs (ofP n) (viewsV fs bs).1 0 bs.length hl (Nat.le_refl _) (fun v hv => by have := view_bd hv; omega)
    omega
  · rw [(viewsV_bd fs bs).2.2.1 h]
    simp

theorem pieces_few (fs : List FieldD) (bs : List UInt8) (n : Int) : (piecesN fs bs n).length ≤ bs.length := by
  unfold piecesN
  rw [List.length_map]
  exact Nat.le_trans (List.length_filter_le _ _) (viewsV_bd fs bs).2.1

theorem piecesW_le (S : List MsgD) : ∀ (way : List Int) (m : Nat) (bs : List UInt8), (piecesW S m bs way).flatten.length ≤ bs.length ∧ (piecesW S m bs way).length ≤ bs.length
  | [], m, bs => by simp [piecesW]
  | n :: l, m, bs => by
    unfold piecesW
    split
    · exact ⟨pieces_le_len _ _ _, pieces_few _ _ _⟩
    · split
      · simp
      · have ih := piecesW_le S l (by assumption : FieldD).of_.toNat (piecesN (fieldsOf S m) bs n).flatten
        have := pieces_le_len (fieldsOf S m) bs n
        exact ⟨by omega, by omega⟩

theorem piece_le {ps : List (List UInt8)} {b : List UInt8} (h : b ∈ ps) : b.length ≤ ps.flatten.length := by
  induction ps with
  | nil => cases h
  | cons a l ih =>
    rw [List.flatten_cons, List.length_append]
    rcases List.mem_cons.1 h with rfl | h
    · omega
    · have := ih h
      omega

theorem told_len : ∀ (ps : List (List UInt8)), (∀ b ∈ ps, b.length < 18446744073709551616) → (toldP ps).length ≤ 10 * ps.length + ps.flatten.length
  | [], _ => by simp [toldP]
  | b :: l, h => by
    have ih := told_len l (fun x hx => h x (List.mem_cons_of_mem _ hx))
    have := uvarint_ten b.length (h b List.mem_cons_self)
    unfold toldP at ih ⊢
    rw [List.flatMap_cons, List.length_append, List.length_append, List.length_cons, List.flatten_cons, List.length_append]
    omega

end Go.Proofs.YtpicpebolghcfaaGreatDoor

/- A drawn region by an invariant: each operation once, in whatever order. No program is named. -/



namespace Go.Proofs.YtpicpebolghcfaaGreatDoor
open Go.RowKit
set_option linter.unusedVariables false

theorem ff {b : Bool} {p : Prop} (h : b = false) (k : b = true) : p := absurd (h.symm.trans k) (by decide)

section
variable {P : Program} {md : Region.Mode} {ops : Array Oper} {Q : Exit → Act → World → Prop}

theorem ready_spec {listed : Array Bool} {i : Nat} (h : i ∈ Region.ready md ops listed) : i < ops.size ∧ listed.getD i true = false ∧ ∀ o, ops[i]? = some o → o.after.all (fun e => !Region.binds md e || listed.getD e.on false) = true := by
  unfold Region.ready at h
  rw [List.mem_filter, List.mem_range] at h
  obtain ⟨h1, h2⟩ := h
  rw [Bool.and_eq_true] at h2
  refine ⟨h1, by simpa using h2.1, fun o ho => ?_⟩
  have h3 := h2.2
  rw [ho] at h3
  simpa using h3

theorem countB_set : ∀ {l : List Bool} {i : Nat}, l[i]? = some false → (l.set i true).count false + 1 = l.count false
  | [], i, h => by simp at h
  | b :: l, 0, h => by
    simp at h
    subst h
    simp
  | b :: l, i + 1, h => by
    simp at h
    have := countB_set (l := l) (i := i) h
    simp only [List.set_cons_succ, List.count_cons]
    omega

theorem wpAny_inv {I : Array Bool → Act → World → Prop} (hstep : ∀ (i : Nat) (listed : Array Bool) (a : Act) (w : World), I listed a w → i ∈ Region.ready md ops listed → wpOp P ops Q i (I (listed.setIfInBounds i true)) a w)
    (hfin : ∀ (listed : Array Bool) (a : Act) (w : World), I listed a w → Region.ready md ops listed = [] → Q .normal a w) :
    ∀ (fuel : Nat) (listed : Array Bool) (a : Act) (w : World), listed.size = ops.size → listed.toList.count false ≤ fuel → I listed a w → wpAny P md ops Q fuel listed a w := by
  intro fuel
  induction fuel with
  | zero =>
    intro listed a w hsz hc hI
    have hr : Region.ready md ops listed = [] := by
      rcases h : Region.ready md ops listed with _ | ⟨i, l⟩
      · rfl
      · obtain ⟨h1, h2, _⟩ := ready_spec (md := md) (ops := ops) (listed := listed) (i := i) (by rw [h]; simp)
        have h3 : listed.toList[i]? = some false := by
          rw [Array.getElem?_toList]
          rw [Array.getD_eq_getD_getElem?] at h2
          rcases h4 : listed[i]? with _ | b
          · rw [h4] at h2
            cases h2
          · rw [h4] at h2
            simp at h2
            rw [h2]
        have := countB_set h3
        omega
    exact ⟨hr, hfin _ _ _ hI hr⟩
  | succ fuel ih =>
    intro listed a w hsz hc hI
    refine ⟨fun hr => hfin _ _ _ hI hr, fun i hi => wpOp_mono (fun a w h => ih _ a w (by simpa using hsz) ?_ h) (hstep i listed a w hI hi)⟩
    obtain ⟨h1, h2, _⟩ := ready_spec hi
    have h3 : listed.toList[i]? = some false := by
      rw [Array.getElem?_toList]
      rw [Array.getD_eq_getD_getElem?] at h2
      rcases h4 : listed[i]? with _ | b
      · rw [h4] at h2
        cases h2
      · rw [h4] at h2
        simp at h2
        rw [h2]
    have := countB_set h3
    rw [Array.toList_setIfInBounds]
    omega

theorem wp_region_inv {I : Array Bool → Act → World → Prop} {id : Nat} {a : Act} {w : World} (hm : P.follows .mixedOrders = true)
    (hstep : ∀ (i : Nat) (listed : Array Bool) (a : Act) (w : World), I listed a w → i ∈ Region.ready .any ops listed → wpOp P ops Q i (I (listed.setIfInBounds i true)) a w)
    (hfin : ∀ (listed : Array Bool) (a : Act) (w : World), I listed a w → Region.ready .any ops listed = [] → Q .normal a w)
    (h0 : I (Array.replicate ops.size false) a w.drew) : (Code.region id ops true).wp P Q a w :=
  wp_region_any hm (wpAny_inv hstep hfin ops.size _ a _ (by simp) (by simp) h0)

theorem ready_none {listed : Array Bool} {i : Nat} {o : Oper} (hr : Region.ready md ops listed = []) (ho : ops[i]? = some o) (hd : o.after.all (fun e => !Region.binds md e || listed.getD e.on false) = true) (hi : i < listed.size) : listed.getD i true = true := by
  rcases h : listed.getD i true with _ | _
  · have hlt : i < ops.size := (Array.getElem?_eq_some_iff.1 ho).1
    have : i ∈ Region.ready md ops listed := by
      unfold Region.ready
      rw [List.mem_filter, List.mem_range, h, ho]
      exact ⟨hlt, by simpa using hd⟩
    rw [hr] at this
    cases this
  · rfl

theorem wpOp_run {i : Nat} {o : Oper} {K2 : Act → World → Prop} {a : Act} {w : World} (ho : ops[i]? = some o) (hw : Region.wanted o (yielded ops a.tmps) = true) (h : ∀ K : Act → World → Prop, (∀ a w, K2 a w → K a w) → o.wp P a w K Q) : wpOp P ops Q i K2 a w := by
  unfold wpOp
  rw [ho]
  simp only
  rw [if_pos hw]
  exact .inl (h K2 (fun _ _ h => h))
end

end Go.Proofs.YtpicpebolghcfaaGreatDoor
