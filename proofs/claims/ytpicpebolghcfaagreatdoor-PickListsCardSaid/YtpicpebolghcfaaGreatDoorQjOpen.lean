/- What a law is handed, in my own words for memory. No program is named. -/
import Derived.Test.YtpicpebolghcfaaGreatDoorQjLib
import Derived.ProofKit
import Derived.OpenShut
import Derived.ShutString
import Derived.ChangeOld

namespace Go.Proofs.YtpicpebolghcfaaGreatDoor
open Go.ChangeShapes Go.WideShapes Go.ChangeAt Go.RowKit
set_option linter.unusedVariables false

theorem reads_of_ints {w : World} {x : Addr} {n c : Nat} {zs : List Int} {k : IntKind} (hl : n ≤ c) (hm : c ≤ maxLen) (hz : zs.length = c)
    (hcell : ∀ i, i < zs.length → w.cell? (x.add i) = some (.int k (zs.getD i 0))) : Reads w (some x) n c 1 ((zs.take n).map (Value.int k)) := by
  refine ⟨by simp; omega, hl, hm, fun hn => ?_⟩
  obtain ⟨b, off, spot⟩ := x
  have h0 := hcell 0 (by omega)
  have hspot : spot = none := by simpa [Addr.add] using World.cell?_spot h0
  subst hspot
  have hb := World.block_lt_of_cell? w _ h0
  refine ⟨b, off, rfl, by simpa [Addr.add] using hb, fun j u hu => ?_⟩
  have hj : j < zs.length := by
    rcases Nat.lt_or_ge j zs.length with h | h
    · exact h
    · rw [List.getElem?_eq_none (by simp; omega)] at hu; cases hu
  have hjn : j < n := by
    rcases Nat.lt_or_ge j n with h | h
    · exact h
    · rw [List.getElem?_eq_none (by simp; omega)] at hu; cases hu
  have := hcell j hj
  rw [addr_add] at this
  rw [this]
  rw [List.getElem?_map, List.getElem?_take_of_lt hjn, List.getElem?_eq_getElem hj] at hu
  simp only [Option.map_some, Option.some.injEq] at hu
  rw [← hu]
  simp [List.getD, List.getElem?_eq_getElem hj]

theorem bytes_of_ints {w : World} {x : Addr} {n c : Nat} {zs : List Int} (hl : n ≤ c) (hm : c ≤ maxLen) (hz : zs.length = c)
    (hcell : ∀ i, i < zs.length → w.cell? (x.add i) = some (.int .u8 (zs.getD i 0))) (hw : ∀ z ∈ zs, (Lit.int .u8 z).wf = true) :
    BytesAt w (some x) n c ((zs.take n).map fun z => z.toNat.toUInt8) := by
  have h := reads_of_ints hl hm hz hcell
  unfold BytesAt
  have e : ((zs.take n).map fun z => z.toNat.toUInt8).map bv = (zs.take n).map (Value.int .u8) := by
    rw [List.map_map]
    apply List.map_congr_left
    intro z hz'
    have hz2 := hw z (List.mem_of_mem_take hz')
    have hb := bounds_u8 hz2
    simp only [Function.comp_apply]
    rw [bv_of _ (by omega)]
    congr 1
    omega
  rw [e]
  exact h

theorem bytes_nil (w : World) : BytesAt w none 0 0 [] := Reads.nil w 1

end Go.Proofs.YtpicpebolghcfaaGreatDoor
