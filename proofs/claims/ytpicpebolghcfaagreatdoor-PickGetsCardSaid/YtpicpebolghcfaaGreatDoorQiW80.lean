/- Contracts of layer 22: a field of some kinds, with its load; Words and Texts. -/
import Derived.Test.YtpicpebolghcfaaGreatDoorQiW79

namespace Go.Proofs.YtpicpebolghcfaaGreatDoor
open Go.RowKit Go.Shelf
set_option linter.unusedVariables false
set_option linter.unusedSimpArgs false

theorem rows_same {A : Option Addr} {n c : Nat} {l : List BRow} {w W : World} {b : Nat} (hb : BRowsAt w A n c l) (hS : Same (fun q => q ≠ b) w W) (hA : 0 < n → InS (fun q => q ≠ b) A) (hB : ∀ r ∈ l, BytesAt W r.A r.n r.c r.bs) : BRowsAt W A n c l := by
  refine ⟨⟨hb.1.len, hb.1.cap, hb.1.max, fun hn => ?_⟩, hB⟩
  obtain ⟨q, off, e, h1, h2⟩ := hb.1.at_ hn
  have hq := hA hn _ e
  have hs := hS q hq
  refine ⟨q, off, e, ?_, fun j u hj => ?_⟩
  · rw [Array.getElem?_eq_getElem h1] at hs
    exact (Array.getElem?_eq_some_iff.1 hs).1
  · exact (World.cell?_of_block (a := ⟨q, off + j, none⟩) hs).trans (h2 j u hj)

section
variable {A B : Option Addr} {n c m k : Nat} {S : List MsgV} {root d : Int} {p : ByteArray} {bs : List UInt8} {w : World}

end

end Go.Proofs.YtpicpebolghcfaaGreatDoor
