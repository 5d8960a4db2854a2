/- Plain words of layer 15: the value at a way, in memory. -/
import Derived.Test.YtpicpebolghcfaaGreatDoorQjS55
import Derived.Test.YtpicpebolghcfaaGreatDoorQjWSortS

namespace Go.Proofs.YtpicpebolghcfaaGreatDoor
open Go.RowKit Go.Shelf
set_option linter.unusedVariables false
set_option linter.unusedSimpArgs false

def atR : List Int → MsgR → Option ValR
  | [], _ => none
  | n :: l, x => match x.vals.find? (fun v => v.number == n) with
    | none => none
    | some v => if l = [] then some v else match v.subs with
      | [] => none
      | y :: _ => atR l y

theorem bare_find (n : Int) : ∀ l : List ValR, (l.find? fun v => v.number == n).map bareV = (l.map bareV).find? fun v => v.number == n
  | [] => rfl
  | v :: l => by
    have ih := bare_find n l
    rw [List.map_cons, List.find?_cons, List.find?_cons]
    have : (bareV v).number = v.number := rfl
    rw [this]
    split
    · rfl
    · exact ih

theorem atR_bare : ∀ (l : List Int) (x : MsgR), (atR l x).map bareV = atM l (bare x)
  | [], x => rfl
  | n :: l, x => by
    have hb := bare_find n x.vals
    unfold atR atM getM
    rw [bare_eq]
    show _ = (match (x.vals.map bareV).find? (fun v => v.number == n) with
      | none => none
      | some v => if l = [] then some v else match v.subs with
        | [] => none
        | y :: _ => atM l y)
    rw [← hb]
    rcases hf : x.vals.find? (fun v => v.number == n) with _ | v
    · rw [hf]
      rfl
    · rw [hf]
      simp only [Option.map_some]
      by_cases hl : l = []
      · rw [if_pos hl, if_pos hl]
        rfl
      · rw [if_neg hl, if_neg hl]
        have hs : (bareV v).subs = v.subs.map bare := rfl
        rw [hs]
        rcases v.subs with _ | ⟨y, ys⟩
        · rfl
        · exact atR_bare l y

theorem atR_at {w : World} : ∀ (l : List Int) {x : MsgR} {v : ValR}, TreeAt w x → atR l x = some v → ValAt w v
  | [], x, v, _, h => by cases h
  | n :: l, x, v, hx, h => by
    unfold atR at h
    rcases hf : x.vals.find? (fun v => v.number == n) with _ | u
    · rw [hf] at h
      cases h
    · rw [hf] at h
      simp only at h
      have hm := List.mem_of_find?_eq_some hf
      by_cases hl : l = []
      · rw [if_pos hl] at h
        injection h with h
        rw [← h]
        exact hx.val hm
      · rw [if_neg hl] at h
        rcases hs : u.subs with _ | ⟨y, ys⟩
        · rw [hs] at h
          cases h
        · rw [hs] at h
          exact atR_at l (hx.sub u hm y (by rw [hs]; exact List.mem_cons_self)) h

theorem solid_sub {n : Int} {l : List Int} {x : MsgR} {v : ValR} (h : solidM (n :: l) (bare x)) (hl : l ≠ []) (hf : x.vals.find? (fun v => v.number == n) = some v) : ∃ y ys, v.subs = y :: ys ∧ solidM l (bare y) := by
  unfold solidM at h
  have hg : getM (bare x) n = some (bareV v) := by
    unfold getM
    rw [bare_eq]
    show (x.vals.map bareV).find? (fun v => v.number == n) = _
    rw [← bare_find, hf]
    rfl
  obtain ⟨y, ys, h1, h2⟩ := h hl _ hg
  have hs : (bareV v).subs = v.subs.map bare := rfl
  rw [hs] at h1
  rcases hv : v.subs with _ | ⟨z, zs⟩
  · rw [hv] at h1
    cases h1
  · rw [hv] at h1
    injection h1 with h3 h4
    exact ⟨z, zs, rfl, by rw [h3]; exact h2⟩

end Go.Proofs.YtpicpebolghcfaaGreatDoor

/- Layer 22: region 10 of the reference's Pieces. -/


namespace Go.Proofs.YtpicpebolghcfaaGreatDoor
open Go.RowKit Go.Shelf
set_option linter.unusedVariables false
set_option linter.unusedSimpArgs false

def store6 (w : World) (b : Nat) (f : FieldD) : World :=
  (((((w.setCell ⟨b, 0, none⟩ (.string f.name)).setCell ⟨b, 1, none⟩ (.int .i64 f.number)).setCell ⟨b, 2, none⟩ (.int .i64 f.kind)).setCell ⟨b, 3, none⟩ (.bool f.rep)).setCell ⟨b, 4, none⟩ (.bool f.packed)).setCell ⟨b, 5, none⟩ (.int .i64 f.of_)

theorem store6_ext {w0 w : World} {b : Nat} {f : FieldD} (h : Ext w0 w) (hb : w0.heap.size ≤ b) : Ext w0 (store6 w b f) := by
  unfold store6
  exact (((((h.setCell (p := ⟨b, 0, none⟩) hb _).setCell (p := ⟨b, 1, none⟩) hb _).setCell (p := ⟨b, 2, none⟩) hb _).setCell (p := ⟨b, 3, none⟩) hb _).setCell (p := ⟨b, 4, none⟩) hb _).setCell (p := ⟨b, 5, none⟩) hb _

theorem store6_blk {w : World} {b : Nat} {t : TypeId} {f : FieldD} (h : BlkT w b t #[.string ⟨#[]⟩, .int .i64 0, .int .i64 0, .bool false, .bool false, .int .i64 0]) : BlkT (store6 w b f) b t #[.string f.name, .int .i64 f.number, .int .i64 f.kind, .bool f.rep, .bool f.packed, .int .i64 f.of_] := by
  unfold store6
  have := (((((h.set_ 0 (.string f.name)).set_ 1 (.int .i64 f.number)).set_ 2 (.int .i64 f.kind)).set_ 3 (.bool f.rep)).set_ 4 (.bool f.packed)).set_ 5 (.int .i64 f.of_)
  simpa using this

end Go.Proofs.YtpicpebolghcfaaGreatDoor
