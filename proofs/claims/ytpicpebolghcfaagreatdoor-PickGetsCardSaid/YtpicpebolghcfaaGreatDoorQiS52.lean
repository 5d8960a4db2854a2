/- Plain words of layer 22: what lies at a way. -/
import Derived.Test.YtpicpebolghcfaaGreatDoorQiS51
import Derived.Test.YtpicpebolghcfaaGreatDoorQiS4

namespace Go.Proofs.YtpicpebolghcfaaGreatDoor
open Go.RowKit Go.Shelf
set_option linter.unusedVariables false

def runP (f : FieldD) : Bool := f.rep && numberB f.kind

def thereP (f : FieldD) (ps : List (List UInt8)) : Bool := if runP f = true then decide (0 < ps.flatten.length) else decide (0 < ps.length)

def lastP (ps : List (List UInt8)) : List UInt8 := (ps.getLast?).getD []

def toldP (ps : List (List UInt8)) : List UInt8 := ps.flatMap fun b => Lib.uvarint b.length ++ b

def loadP (f : FieldD) (ps : List (List UInt8)) : List UInt8 :=
  if runP f = true ∨ (f.kind = 17 ∧ f.rep = false) then ps.flatten else if f.rep = false then lastP ps else toldP ps

def thingsP (f : FieldD) (ps : List (List UInt8)) : Nat :=
  if thereP f ps = false then 0 else if runP f = true then countV f.kind (loadP f ps) else if f.rep = true then ps.length else 1

theorem toldP_snoc {ps : List (List UInt8)} {k : Nat} {b : List UInt8} (h : ps[k]? = some b) : toldP (ps.take (k + 1)) = toldP (ps.take k) ++ (Lib.uvarint b.length ++ b) := by
  unfold toldP
  rw [List.take_add_one, h]
  simp

theorem uvarint_ten (x : Nat) (h : x < 18446744073709551616) : (Lib.uvarint x).length ≤ 10 := Lib.uvarint_length64 h

theorem vals_sum (bs : List UInt8) (q : ViewD → Bool) : ∀ (L : List ViewD) (p e : Nat), LinkV p L e → e ≤ bs.length → (∀ v ∈ L, v.r.f ≤ v.r.a ∧ v.r.a ≤ v.r.t) → ((L.filter q).map (valueO bs)).flatten.length ≤ e - p
  | [], p, e, _, _, _ => by simp
  | v :: L, p, e, h, he, hv => by
    obtain ⟨h1, h2, h3⟩ := h
    have ih := vals_sum bs q L v.r.t e h3 he (fun u hu => hv u (List.mem_cons_of_mem _ hu))
    have hle := LinkV.le h3
    have hb := hv v List.mem_cons_self
    have hl := spanB_length bs (a := v.r.a) (t := v.r.t) (by omega)
    by_cases hq : q v = true
    · rw [List.filter_cons_of_pos hq, List.map_cons, List.flatten_cons, List.length_append, show valueO bs v = spanB bs v.r.a v.r.t from rfl]
      omega
    · rw [List.filter_cons_of_neg hq]
      omega

theorem pieces_le_len (fs : List FieldD) (bs : List UInt8) (n : Int) : (piecesN fs bs n).flatten.length ≤ bs.length := by
  unfold piecesN
  by_cases h : (viewsV fs bs).2.2 = 0
  · have hl := viewsV_link fs bs bs.length 0 (by omega) (Nat.zero_le _) h
    have := vals_sum bs (ofP n) (viewsV fs bs).1 0 bs.length hl (Nat.le_refl _) (fun v hv => by have := view_bd hv; omega)
    omega
  · rw [(viewsV_bd fs bs).2.2.1 h]
    simp

theorem pieces_few (fs : List FieldD) (bs : List UInt8) (n : Int) : (piecesN fs bs n).length ≤ bs.length := by
  unfold piecesN
  rw [List.length_map]
  exact Nat.le_trans (List.length_filter_le _ _) (viewsV_bd fs bs).2.1

theorem piecesW_le (S : List MsgD) : ∀ (way : List Int) (m : Nat) (bs : List UInt8), (piecesW S m bs way).flatten.length ≤ bs.length ∧ (piecesW S m bs way).length ≤ bs.length
  | [], m, bs => by simp [piecesW]
  | n :: l, m, bs => by
    unfold piecesW
    split
    · exact ⟨pieces_le_len _ _ _, pieces_few _ _ _⟩
    · split
      · simp
      · have ih := piecesW_le S l (by assumption : FieldD).of_.toNat (piecesN (fieldsOf S m) bs n).flatten
        have := pieces_le_len (fieldsOf S m) bs n
        exact ⟨by omega, by omega⟩

theorem piece_le {ps : List (List UInt8)} {b : List UInt8} (h : b ∈ ps) : b.length ≤ ps.flatten.length := by
  induction ps with
  | nil => cases h
  | cons a l ih =>
    rw [List.flatten_cons, List.length_append]
    rcases List.mem_cons.1 h with rfl | h
    · omega
    · have := ih h
      omega

theorem told_len : ∀ (ps : List (List UInt8)), (∀ b ∈ ps, b.length < 18446744073709551616) → (toldP ps).length ≤ 10 * ps.length + ps.flatten.length
  | [], _ => by simp [toldP]
  | b :: l, h => by
    have ih := told_len l (fun x hx => h x (List.mem_cons_of_mem _ hx))
    have := uvarint_ten b.length (h b List.mem_cons_self)
    unfold toldP at ih ⊢
    rw [List.flatMap_cons, List.length_append, List.length_append, List.length_cons, List.flatten_cons, List.length_append]
    omega

end Go.Proofs.YtpicpebolghcfaaGreatDoor
