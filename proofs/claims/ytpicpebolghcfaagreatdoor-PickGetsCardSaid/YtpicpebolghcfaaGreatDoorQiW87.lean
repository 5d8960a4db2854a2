/- Layer 22: the reference's pieces, loads, things. -/
import Derived.Test.YtpicpebolghcfaaGreatDoorQiW84

namespace Go.Proofs.YtpicpebolghcfaaGreatDoor
open Go.RowKit Go.Shelf
set_option linter.unusedVariables false
set_option linter.unusedSimpArgs false

theorem rPieces {S : List MsgV} (hR : rightS (S.map MsgV.d) = true) : ∀ (way : List Int) (m : Nat) (g : FieldD) (bs : List UInt8) {A B C : Option Addr} {n c nb cb kc : Nat} {w : World}, OnWay (S.map MsgV.d) m way g → SchemaAt w A n c S → m < n → BytesAt w B nb cb bs → nb ≤ 1000000000 →
    Reads w C way.length kc 1 (way.map wyV) → way.length ≤ 1000 → Calls Tryz.prog 19 #[.slice A n c, .int .i64 (m : Int), .slice B nb cb, .slice C way.length kc] w (PiecesPost g (piecesW (S.map MsgV.d) m bs way) w)
  | [], m, g, bs, A, B, C, n, c, nb, cb, kc, w, h, _, _, _, _, _, _ => absurd rfl h.ne
  | x :: rest, m, g, bs, A, B, C, n, c, nb, cb, kc, w, h, hs, hm, hb, hnb, hw, hk => by
    have ih := fun m' bs' {A B C : Option Addr} {n c nb cb kc : Nat} {w : World} a b c1 d e f1 g1 => rPieces hR rest m' g bs' (A := A) (B := B) (C := C) (n := n) (c := c) (nb := nb) (cb := cb) (kc := kc) (w := w) a b c1 d e f1 g1
    have hSl := hs.length
    cases h with
    | last hf =>
      exact rPiecesS hs hR hm hf hb hnb rfl hw hk (fun _ => ⟨rfl, piecesW_one⟩) (fun h => absurd rfl h)
    | @step _ _ f _ _ hf h17 hrep t =>
      have hne := t.ne
      rw [piecesW_step hne hf]
      refine rPiecesS hs hR hm hf hb hnb rfl hw hk (fun h => absurd h hne) (fun _ W A2 C2 m2 c2 k2 hX hb2 hw2 => ?_)
      obtain ⟨M, hM⟩ : ∃ M, (S.map MsgV.d)[m]? = some M := ⟨_, List.getElem?_eq_getElem (by rw [List.length_map]; omega)⟩
      obtain ⟨j, hj, _⟩ := find_idx hM hf
      obtain ⟨o, ho, ho2⟩ := right_of hR hM hj h17
      rw [List.length_map, hSl] at ho2
      rw [ho, Int.toNat_natCast] at t ⊢
      have hlen := pieces_le_len (fieldsOf (S.map MsgV.d) m) bs x
      have e1 := hb.length
      have e2 := hb2.length
      exact ih o _ t (hs.up hX) ho2 hb2 (by omega) (by simpa using hw2) (by simp at hk; omega)

end Go.Proofs.YtpicpebolghcfaaGreatDoor
