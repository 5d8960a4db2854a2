/- The chapter's example of layer 20. -/
import Derived.Test.YtnnphodgegcddaaQeW41

namespace Go.Proofs.Ytnnphodgegcddaa
open Go.RowKit Go.Shelf
set_option linter.unusedVariables false

theorem lValue_plain {SA B : Option Addr} {sn sc m k : Nat} {S : List MsgV} {f : FieldD} {d : Int} {bs : List UInt8} {w : World} (hs : SchemaAt w SA sn sc S) (hb : BytesAt w B m k bs) (hm : m ≤ 1000000000) (h0 : codeL (S.map MsgV.d) f bs d = 0) (hr : runL f = false) (hk : numberB f.kind = false) (h17 : f.kind ≠ 17) (hnum : -9223372036854775808 ≤ f.number ∧ f.number < 9223372036854775808) {l : List (List UInt8)} (hl : (itemsL f.rep bs).map (fun x => x.1) = l) :
    Calls Try.prog 6 #[.slice SA sn sc, fieldV f, .slice B m k, .int .i64 d] w (ValTold (S.map MsgV.d) ⟨(), (), (), f.number, [], l.map (fun b => (⟨b.toArray⟩ : ByteArray)), []⟩ 0 w) := by
  have h := lValue_texts hs hb hm h0 hr hk h17 hnum
  rw [← hl, List.map_map]
  exact h

theorem load_a : codeL [⟨⟨#[109]⟩, []⟩] ⟨⟨#[]⟩, 1, 15, true, false, 0⟩ [1, 97, 0] 0 = 0 ∧ (itemsL true [1, 97, 0]).map (fun x => x.1) = [[97], []] := by decide +kernel

set_option maxRecDepth 100000 in
set_option maxHeartbeats 4000000 in
theorem alive20 (w : World) : Calls Try.prog 4 #[] w fun e w' => e = .returned (.bool true) ∧ Ext w w' := by
  have hs : SchemaAt (w.alloc (.cells #[.string ⟨#[109]⟩, .slice none 0 0] 45)) (some ⟨w.heap.size, 0, none⟩) 1 1 [⟨⟨⟨#[109]⟩, []⟩, none, 0, 0⟩] := by
    refine ⟨(Own.made (Ext.refl w) 45 2 (cs := msgC ⟨⟨⟨#[109]⟩, []⟩, none, 0, 0⟩) (n := 1) (by simp [maxLen]) rfl).reads, fun m hm => ?_⟩
    simp only [List.mem_singleton] at hm
    subst hm
    exact ⟨⟨reads_nil _ _, fun g hg => by cases hg⟩, by simp; decide⟩
  have hv := fun (W : World) (A B : Option Addr) (h : SchemaAt W A 1 1 [⟨⟨⟨#[109]⟩, []⟩, none, 0, 0⟩]) (hb : BytesAt W B 3 3 [1, 97, 0]) => lValue_plain (f := ⟨⟨#[]⟩, 1, 15, true, false, 0⟩) (d := 0) h hb (by omega) load_a.1 (by decide) (by decide) (by decide) ⟨by decide, by decide⟩ load_a.2
  have Hs := Lib.hid hs
  have Hv := Lib.hid hv
  clear hs hv
  go_enter Try.func4, Try.ntmps4
  go_wp2_with fail
  refine (Hv.out _ _ _ (Hs.out.up (by repeat with_reducible (first | exact Ext.refl _ | refine Ext.alloc ?_ _ | refine Ext.drew ?_ | refine Ext.drewN ?_ _ | refine Ext.setCell ?_ (by first | exact Nat.le_refl _ | omega | (simp; done) | (simp; omega)) _))) (bytes_lit _ _ _ [1, 97, 0] 3 (by simp) (by simp [bv]) rfl (by simp [maxLen]))).mono ?_
  rintro e w1 ⟨y, rfl, hy, hat, hu, E1⟩
  obtain ⟨ya, ⟨yb1, yb2⟩, yc, yn, yw, yt, ys⟩ := y
  obtain rfl : yn = 1 := congrArg ValG.number hy
  obtain rfl : yw = [] := congrArg ValG.words hy
  obtain rfl : yt = [⟨#[97]⟩, ⟨#[]⟩] := congrArg ValG.texts hy
  obtain rfl : ys = [] := by
    have := congrArg ValG.subs hy
    exact List.map_eq_nil_iff.1 this
  obtain ⟨b, off, t0, hA, ht0, hb, _, c0⟩ := hat.own.texts.text (k := 0) (by simp)
  obtain ⟨b', off', t1, hA', ht1, hb', _, c1⟩ := hat.own.texts.text (k := 1) (by simp)
  have hA1 : yb1 = some ⟨b, off, none⟩ := hA
  have hA2 : yb1 = some ⟨b', off', none⟩ := hA'
  rw [hA1] at hA2
  cases hA2
  subst hA1
  simp only [List.getElem?_cons_zero, List.getElem?_cons_succ, Option.some.injEq] at ht0 ht1
  subst ht0 ht1
  rw [Nat.add_zero] at c0
  have X1 : Ext w w1 := Ext.trans (by repeat with_reducible (first | exact Ext.refl _ | refine Ext.alloc ?_ _ | refine Ext.drew ?_ | refine Ext.drewN ?_ _ | refine Ext.setCell ?_ (by first | exact Nat.le_refl _ | omega | (simp; done) | (simp; omega)) _)) E1
  clear hy hat hu hA hA' Hs Hv
  unfold tvalV
  go_wp2
  go_ret
  exact ⟨rfl, Ext.trans X1 (by repeat with_reducible (first | exact Ext.refl _ | refine Ext.alloc ?_ _ | refine Ext.drew ?_ | refine Ext.drewN ?_ _ | refine Ext.setCell ?_ (by first | exact Nat.le_refl _ | omega | (simp; done) | (simp; omega)) _))⟩

end Go.Proofs.Ytnnphodgegcddaa
