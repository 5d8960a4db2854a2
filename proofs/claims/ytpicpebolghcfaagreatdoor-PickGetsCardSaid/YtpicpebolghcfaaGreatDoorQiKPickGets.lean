/- The walk of the law PickGets. -/
import Derived.Test.YtpicpebolghcfaaGreatDoorQiW88
import Derived.Test.YtpicpebolghcfaaGreatDoorQiW91
import Derived.Test.YtpicpebolghcfaaGreatDoorQiW87

namespace Go.Proofs.YtpicpebolghcfaaGreatDoor
open Go.RowKit Go.Shelf
set_option linter.unusedVariables false

theorem pickGets_walk {A B : Option Addr} {n c m k : Nat} {S : List MsgV} {root d i : Int} {p : ByteArray} {bs : List UInt8} {w : World} (hs : SchemaAt w A n c S) (hroot : -9223372036854775808 ≤ root ∧ root < 9223372036854775808) (hb : BytesAt w B m k bs) (hd : -9223372036854775808 ≤ d ∧ d < 9223372036854775808) (hp : p.size ≤ maxLen) (hi : -9223372036854775808 ≤ i ∧ i < 9223372036854775808) :
    Calls Tryz.prog 4 #[.slice A n c, .int .i64 root, .slice B m k, .int .i64 d, .string p, .int .i64 i] w fun e w' => e = .returned (.bool true) ∧ Ext w w' := by
  by_cases hm : m ≤ 1500
  · by_cases hp5 : p.size ≤ 5000
    · have hm9 : m ≤ 1000000000 := by omega
      have hp9 : p.size ≤ 1000000000 := by omega
      by_cases hK : (wayAtV (S.map MsgV.d) root d p bs).2 = 0
      · obtain ⟨hRS, hr0, hr1, f, hf, hwl⟩ := at_on hK
        have hpl := piecesW_le (S.map MsgV.d) (wayAtV (S.map MsgV.d) root d p bs).1 root.toNat bs
        have hbl := hb.length
        have hSl := hs.length
        have hN : thingsP f (atP (S.map MsgV.d) root d p bs) ≤ 1000000000 := by
          have := thingsP_few (f := f) (ps := atP (S.map MsgV.d) root d p bs) (M := 1500) (by unfold atP; omega) (by unfold atP; omega)
          omega
        have hload : (loadP f (atP (S.map MsgV.d) root d p bs)).length ≤ 1000000000 := by
          have := load_few (f := f) (ps := atP (S.map MsgV.d) root d p bs) (M := 1500) (by unfold atP; omega) (by unfold atP; omega) (by omega)
          omega
        have hG := fun W (a : SchemaAt W A n c S) (b : BytesAt W B m k bs) => pGet_ok (root := root) (d := d) a b hm9 hp hK hf
        have hC := fun W (a : SchemaAt W A n c S) (b : BytesAt W B m k bs) => pCount_ok (root := root) (d := d) a b hm9 hp hK hf
        have hI := fun W (a : SchemaAt W A n c S) (b : BytesAt W B m k bs) => pItem_ok (root := root) (d := d) (i := i) a b hm9 hp hK hf
        have hR : ∀ W, SchemaAt W A n c S → BytesAt W B m k bs → Calls Tryz.prog 10 #[.slice A n c, .int .i64 root, .slice B m k, .int .i64 d, .string p] W fun e W' => ∃ A' c', e = .returned (.tuple #[.slice A' (wayAtV (S.map MsgV.d) root d p bs).1.length c', .int .i64 0]) ∧ Reads W' A' (wayAtV (S.map MsgV.d) root d p bs).1.length c' 1 ((wayAtV (S.map MsgV.d) root d p bs).1.map wyV) ∧ Ext W W' := by
          intro W a b
          have h := rResolve21 (root := root) (d := d) a b hm9 hp9
          rw [hK] at h
          refine h.mono ?_
          rintro e w' ⟨A', c', h1, h2⟩
          exact ⟨A', c', h1, h2.reads, h2.ext⟩
        have hP : ∀ W A' c', SchemaAt W A n c S → BytesAt W B m k bs → Reads W A' (wayAtV (S.map MsgV.d) root d p bs).1.length c' 1 ((wayAtV (S.map MsgV.d) root d p bs).1.map wyV) → Calls Tryz.prog 19 #[.slice A n c, .int .i64 root, .slice B m k, .slice A' (wayAtV (S.map MsgV.d) root d p bs).1.length c'] W (PiecesPost f (atP (S.map MsgV.d) root d p bs) W) := by
          intro W A' c' a b h
          have := rPieces hRS _ root.toNat f bs hf a (by rw [List.length_map] at hr1; omega) b hm9 h hwl
          rw [Int.toNat_of_nonneg hr0] at this
          exact this
        have hle : ∀ {A' : Option Addr} {n' c' : Nat} {l : List BRow} {W : World}, BRowsAt W A' n' c' l → bytesR l = atP (S.map MsgV.d) root d p bs → (flatR l).length ≤ 1000000000 ∧ n' ≤ 1000000000 := fun h1 h2 => atP_le h2 (by omega) h1.length
        have hL : ∀ W A' n' c' l, BRowsAt W A' n' c' l → bytesR l = atP (S.map MsgV.d) root d p bs → Calls Tryz.prog 20 #[.slice A' n' c', fieldV f] W fun e W' => ∃ A2 c2, e = .returned (.tuple #[.slice A2 (gotV f (atP (S.map MsgV.d) root d p bs)).1.length c2, .bool (thereP f (atP (S.map MsgV.d) root d p bs))]) ∧ BytesAt W' A2 (gotV f (atP (S.map MsgV.d) root d p bs)).1.length c2 (gotV f (atP (S.map MsgV.d) root d p bs)).1 ∧ Ext W W' := by
          intro W A' n' c' l h1 h2
          have := rLoad (f := f) h1 (hle h1 h2).1 (hle h1 h2).2
          rw [h2] at this
          exact this
        have hT : ∀ W A' n' c' l, BRowsAt W A' n' c' l → bytesR l = atP (S.map MsgV.d) root d p bs → Calls Tryz.prog 21 #[.slice A' n' c', fieldV f] W fun e W' => e = .returned (.int .i64 (thingsP f (atP (S.map MsgV.d) root d p bs) : Nat)) ∧ Ext W W' := by
          intro W A' n' c' l h1 h2
          have := rThings (f := f) h1 (hle h1 h2).1 (hle h1 h2).2
          rw [h2] at this
          exact this
        have hgen : ∀ {X : List UInt8} {C : Nat}, gotV f (atP (S.map MsgV.d) root d p bs) = (X, C) → ∀ W, SchemaAt W A n c S → BytesAt W B m k bs → Calls Tryz.prog 16 #[.slice A n c, .int .i64 root, .slice B m k, .int .i64 d, .string p] W fun e W' => ∃ A' c', e = .returned (.tuple #[.slice A' X.length c', .int .u8 (C : Int)]) ∧ BytesAt W' A' X.length c' X ∧ Ext W W' := by
          intro X C h W a b
          have q := hG W a b
          rw [h] at q
          refine q.mono ?_
          rintro e w' ⟨A', c', h1, h2⟩
          exact ⟨A', c', h1, h2.bytes, h2.ext⟩
        have hite : ∀ {Y : List UInt8} {C : Nat}, itemV f (atP (S.map MsgV.d) root d p bs) i = (Y, C) → ∀ W, SchemaAt W A n c S → BytesAt W B m k bs → Calls Tryz.prog 18 #[.slice A n c, .int .i64 root, .slice B m k, .int .i64 d, .string p, .int .i64 i] W fun e W' => ∃ A' c', e = .returned (.tuple #[.slice A' Y.length c', .int .u8 (C : Int)]) ∧ BytesAt W' A' Y.length c' Y ∧ Ext W W' := by
          intro Y C h W a b
          have q := hI W a b
          rw [h] at q
          refine q.mono ?_
          rintro e w' ⟨A', c', h1, h2⟩
          exact ⟨A', c', h1, h2.bytes, h2.ext⟩
        by_cases hio : i < 0 ∨ (thingsP f (atP (S.map MsgV.d) root d p bs) : Int) ≤ i
        · have hy := hite (item_out hio)
          rcases ht : thereP f (atP (S.map MsgV.d) root d p bs) with _ | _
          · rw [ht, got_no ht] at hL
            exact gets_no alive22 hs hb hm hp5 hio hN (hgen (got_no ht)) hC hy hR hP hL hT
          · rw [ht, got_there ht] at hL
            exact gets_out alive22 hs hb hm hp5 hio hN (hgen (got_there ht)) hC hy hR hP hL hT
        · obtain ⟨q, rfl⟩ : ∃ q : Nat, i = (q : Nat) := ⟨i.toNat, by omega⟩
          have hq : q < thingsP f (atP (S.map MsgV.d) root d p bs) := by omega
          have ht := things_there hq
          rw [ht, got_there ht] at hL
          rcases hn : numberB f.kind with _ | _
          · rcases hr : f.rep with _ | _
            · exact gets_one alive22 hs hb hm hp5 rfl hq hN hn hr rfl (hgen (got_there ht)) hC (hite (item_one hn hr hq)) hR hP hL hT
            · obtain ⟨Y, hY, hy⟩ := item_rep hn hr hq
              exact gets_rep alive22 hs hb hm hp5 rfl hq hN hn hr hY (hgen (got_there ht)) hC (hite hy) hR hP hL hT
          · obtain ⟨v, hv1, hv2, hv3⟩ := item_num hf hn hq
            exact gets_num alive22 hs hb hm hp5 rfl hq hN hn hload hv1 hv2 rfl (hgen (got_there ht)) hC (hite hv3) hR hP hL hT
      · refine gets_bad (way := []) (wl := (wayAtV (S.map MsgV.d) root d p bs).1.length) alive22 hs hb hm hp5 hK (at_le _ _ _ _ _) (fun W a b => pGet_bad (root := root) (d := d) a b hm9 hp rfl hK) (fun W a b => pCount_bad (root := root) (d := d) a b hm9 hp rfl hK) (fun W a b => pItem_bad (root := root) (d := d) a b hm9 hp rfl hK) (fun W a b => ?_)
        refine (rResolve21 (root := root) (d := d) a b hm9 hp9).mono ?_
        rintro e w' ⟨A', c', h1, h2⟩
        exact ⟨A', c', h1, h2.ext⟩
    · exact gets_long alive22 hs hb hm hp (by omega)
  · exact gets_great alive22 hs hb (by omega) hp

end Go.Proofs.YtpicpebolghcfaaGreatDoor
