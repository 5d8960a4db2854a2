/- Plain words of layer 17: where a message may be cut. No program is named. -/
import Derived.Test.YtpgbhgimjpbhoaaS11
namespace Go.Proofs.Ytpgbhgimjpbhoaa
open Go.RowKit
set_option linter.unusedVariables false

section
variable {S : List MsgD} {d m : Nat} {M : MsgD}

theorem look_first {fs : List FieldD} {bs : List UInt8} {v : ViewD} (h : lookV fs bs 0 = (v, 0)) : headV bs = (v.r.n, v.r.w, v.r.a, v.r.t, 0) ∧ v.r.f = 0 ∧ 0 < v.r.a ∧ v.r.a ≤ v.r.t ∧ v.r.t ≤ bs.length ∧ v.r = ⟨v.r.n, v.r.w, 0, v.r.a, v.r.t⟩ := by
  obtain ⟨h1, h2, h3, h4, h5⟩ := nextV_ok (lookV_of h).1
  rw [List.drop_zero] at h1
  refine ⟨h1, h2, h3, h4, h5, ?_⟩
  obtain ⟨⟨a1, a2, a3, a4, a5⟩, _, _⟩ := v
  simp only at h2
  subst h2
  rfl

theorem firstV_nil (S : List MsgD) (d m : Nat) : (firstV S d m []).2 = 0 := by
  rw [firstV_eq]
  unfold checkM
  rcases S[m]? with _ | M
  · rfl
  · simp only
    rw [fromC_end (by simp)]

/-- A valid message that isn't empty: its first record alone is valid, and the rest is; nothing shorter is. -/
theorem valid_head (hm : S[m]? = some M) {bs : List UInt8} (h : (firstV S d m bs).2 = 0) (hne : bs ≠ []) :
    ∃ v, lookV M.fields bs 0 = (v, 0) ∧ 0 < v.r.t ∧ v.r.t ≤ bs.length ∧ (firstV S d m (bs.take v.r.t)).2 = 0 ∧ (firstV S d m (bs.drop v.r.t)).2 = 0 ∧ (∀ s, 0 < s → s < v.r.t → (firstV S d m (bs.take s)).2 ≠ 0) ∧
      (viewsV M.fields bs).1 = v :: (viewsV M.fields (bs.drop v.r.t)).1.map (ViewD.shift v.r.t) := by
  have hpos : 0 < bs.length := by cases bs with | nil => exact absurd rfl hne | cons a l => simp
  have h0 := h
  rw [firstV_eq, checkM_valid hm] at h
  rcases hl : lookV M.fields bs 0 with ⟨v, C⟩
  have hC : C = 0 := by
    by_cases e : C = 0
    · exact e
    · have := h.1
      unfold viewsV at this
      rw [scan_fail hpos hl e] at this
      exact this
  subst hC
  obtain ⟨g1, g2, g3, g4, g5, g6⟩ := look_first hl
  have hsplit : bs = bs.take v.r.t ++ bs.drop v.r.t := (List.take_append_drop _ _).symm
  have htl : (bs.take v.r.t).length = v.r.t := by rw [List.length_take]; omega
  have hone : viewsV M.fields (bs.take v.r.t) = ([v], 0, 0) := by
    refine viewsV_one (T := v.r.n) (V := v.r.w) (a := v.r.a) ?_ ?_
    · rw [htl]; exact headV_prefix g1 (Nat.le_refl _)
    · rw [htl, ← g6]; exact (lookV_of hl).2
  have hv1 : v ∈ (viewsV M.fields bs).1 := by
    unfold viewsV
    have hh := h.1
    unfold viewsV at hh
    rw [scan_ok (lookV_onward M.fields bs) hpos hl] at hh ⊢
    unfold pre at hh ⊢
    split
    · simp
    · rw [if_neg ‹_›] at hh; exact absurd hh ‹_›
  have hval := h.2 v hv1
  have hleft : (firstV S d m (bs.take v.r.t)).2 = 0 := by
    rw [firstV_eq, checkM_valid hm, hone]
    refine ⟨rfl, fun u hu => ?_⟩
    simp only [List.mem_singleton] at hu
    subst hu
    rw [← valueC_left (a := bs.take u.r.t) _ (bs.drop u.r.t) (by rw [htl]; exact Nat.le_refl _), ← hsplit]
    exact hval
  have hright : (firstV S d m (bs.drop v.r.t)).2 = 0 := by
    have := (firstV_append (bs.drop v.r.t) hleft).1
    rw [← hsplit] at this
    exact this.1 h0
  refine ⟨v, rfl, by omega, g5, hleft, hright, fun s hs hst hbad => ?_, ?_⟩
  · rw [firstV_eq, checkM_valid hm] at hbad
    have hsl : (bs.take s).length = s := by rw [List.length_take]; omega
    rcases hl2 : lookV M.fields (bs.take s) 0 with ⟨u, K⟩
    have hK : K = 0 := by
      by_cases e : K = 0
      · exact e
      · have := hbad.1
        unfold viewsV at this
        rw [scan_fail (by omega) hl2 e] at this
        exact this
    subst hK
    obtain ⟨f1, _, _, _, f5, _⟩ := look_first hl2
    have f6 := headV_append f1 (bs.drop s)
    rw [List.take_append_drop, g1] at f6
    simp only [Prod.mk.injEq] at f6
    omega
  · have hr2 := hright
    rw [firstV_eq, checkM_valid hm] at hr2
    have ha := viewsV_append (l := M.fields) (a := bs.take v.r.t) (b := bs.drop v.r.t) (by rw [hone])
    rw [← hsplit, if_pos hr2.1, hone, htl] at ha
    rw [ha]
    rfl

/-- The ends of the records from a place on. -/
def endsM (fs : List FieldD) (bs : List UInt8) (p : Nat) : List Nat := (viewsV fs (bs.drop p)).1.map fun v => p + v.r.t

theorem endsM_zero (fs : List FieldD) (bs : List UInt8) : endsM fs bs 0 = (viewsV fs bs).1.map fun v => v.r.t := by
  unfold endsM
  rw [List.drop_zero]
  simp

theorem endsM_end (fs : List FieldD) {bs : List UInt8} {p : Nat} (h : bs.length ≤ p) : endsM fs bs p = [] := by
  unfold endsM
  rw [List.drop_of_length_le h, viewsV_nil]
  rfl

/-- From a place where a valid message may be cut, the next one. -/
theorem valid_next (hm : S[m]? = some M) {bs : List UInt8} {p : Nat} (hp : p < bs.length) (h1 : (firstV S d m (bs.take p)).2 = 0) (h2 : (firstV S d m (bs.drop p)).2 = 0) :
    ∃ q, p < q ∧ q ≤ bs.length ∧ (firstV S d m (spanB bs p q)).2 = 0 ∧ (∀ s, p < s → s < q → (firstV S d m (spanB bs p s)).2 ≠ 0) ∧ (firstV S d m (bs.take q)).2 = 0 ∧ (firstV S d m (bs.drop q)).2 = 0 ∧ endsM M.fields bs p = q :: endsM M.fields bs q := by
  have hdl : (bs.drop p).length = bs.length - p := List.length_drop
  obtain ⟨v, g1, g2, g3, g4, g5, g6, g7⟩ := valid_head hm h2 (by intro e; rw [e] at hdl; simp at hdl; omega)
  have hsp : ∀ k, spanB bs p (p + k) = (bs.drop p).take k := fun k => by unfold spanB; rw [List.drop_take, Nat.add_sub_cancel_left]
  rw [List.drop_drop] at g5 g7
  refine ⟨p + v.r.t, by omega, by omega, by rw [hsp]; exact g4, fun s hs hst => ?_, ?_, g5, ?_⟩
  · have := hsp (s - p)
    rw [show p + (s - p) = s by omega] at this
    rw [this]
    exact g6 (s - p) (by omega) (by omega)
  · have e : bs.take (p + v.r.t) = bs.take p ++ (bs.drop p).take v.r.t := List.take_add
    rw [e]
    exact (firstV_append _ h1).1.2 g4
  · unfold endsM
    rw [g7, List.map_cons, List.map_map]
    congr 1
    refine List.map_congr_left fun u _ => ?_
    unfold ViewD.shift Rec.shift
    simp only [Function.comp_apply]
    omega

/-- At each end a valid message may be cut. -/
theorem valid_ends (hm : S[m]? = some M) {bs : List UInt8} : ∀ (k p : Nat), bs.length - p ≤ k → (firstV S d m (bs.take p)).2 = 0 → (firstV S d m (bs.drop p)).2 = 0 → ∀ q ∈ endsM M.fields bs p, q ≤ bs.length ∧ (firstV S d m (bs.take q)).2 = 0 ∧ (firstV S d m (bs.drop q)).2 = 0
  | 0, p, hk, _, _, q, hq => by rw [endsM_end _ (by omega)] at hq; cases hq
  | k + 1, p, hk, h1, h2, q, hq => by
    by_cases hp : p < bs.length
    · obtain ⟨r, r1, r2, _, _, r5, r6, r7⟩ := valid_next hm hp h1 h2
      rw [r7] at hq
      rcases List.mem_cons.1 hq with rfl | hq
      · exact ⟨r2, r5, r6⟩
      · exact valid_ends hm k r (by omega) r5 r6 q hq
    · rw [endsM_end _ (by omega)] at hq; cases hq
end

end Go.Proofs.Ytpgbhgimjpbhoaa
