/- The walk of the law RecordMore, out of its callees' contracts. -/
import Derived.Test.YtcipokmklkognaaKRecordSplits
import Derived.Test.YtcipokmklkognaaS5b
namespace Go.Proofs.Ytcipokmklkognaa
open Go.RowKit
set_option linter.unusedVariables false

set_option maxRecDepth 100000 in
set_option maxHeartbeats 2000000 in
theorem recordMore_walk {A B : Option Addr} {n c m d : Nat} {xs bs : List UInt8} {w : World} (ha : BytesAt w A n c xs) (sa : c * 1 ≤ 140737488351232) (hb : BytesAt w B m d bs) (sb : d * 1 ≤ 140737488351232) :
    Calls Try.prog 12 #[.slice A n c, .slice B m d] w fun e w' => e = .returned (.bool true) ∧ Ext w w' := by
  have hca := Reads.cap ha
  have hcb := Reads.cap hb
  have hE := Ext.refl w
  by_cases hn : (3000 : Int) < (n : Int) + m
  · go_enter Try.func12, Try.ntmps12
    go_wp2_with (go_at_call 46; refine (alive05 _).mono ?_; rintro e w1 ⟨rfl, E1⟩; have X_ : Ext w w1 := Ext.trans (by repeat with_reducible (first | exact Ext.refl _ | refine Ext.alloc ?_ _ | refine Ext.drew ?_ | refine Ext.drewN ?_ _ | refine Ext.setCell ?_ (by first | exact Nat.le_refl _ | omega | (simp; done) | (simp; omega)) _)) E1; replace hE := hE.up X_; clear X_)
    go_ret
    exact ⟨rfl, hE⟩
  · rcases hX : splitV xs with ⟨X, px, ex⟩
    rcases hY : splitV bs with ⟨Y, py, ey⟩
    rcases hZ : splitV (xs ++ bs) with ⟨Z, pz, ez⟩
    have bX := splitV_le xs
    have bY := splitV_le bs
    have bZ := splitV_le (xs ++ bs)
    have cX := (splitV_bd xs).2.1
    have cY := splitV_bd bs
    have cZ := (splitV_bd (xs ++ bs)).2.1
    rw [hX] at bX cX
    rw [hY] at bY cY
    rw [hZ, List.length_append] at cZ
    rw [hZ] at bZ
    rw [ha.length] at cX cZ
    rw [hb.length] at cY cZ
    simp only at bX bY bZ cX cY cZ
    have cY1 := cY.1
    have cY2 := cY.2.1
    clear cY
    have HX := Lib.hid hX
    have HY := Lib.hid hY
    have HZ := Lib.hid hZ
    by_cases hex : ex = 0
    · subst hex
      have key := splitV_append (a := xs) (b := bs) (by rw [hX])
      rw [hX, hY, hZ, ha.length] at key
      clear hX hY hZ
      by_cases hey : ey = 0
      · subst hey
        simp at key
        obtain ⟨rfl, rfl, rfl⟩ := key
        have hall := splitV_all bs
        rw [HY.out] at hall
        simp only [hb.length] at hall
        have Hall := Lib.hid hall
        clear hall
        go_enter Try.func12, Try.ntmps12
        go_wp2_with (first | (go_at_call 46; refine (alive05 _).mono ?_; rintro e w1 ⟨rfl, E1⟩; have X_ : Ext w w1 := Ext.trans (by repeat with_reducible (first | exact Ext.refl _ | refine Ext.alloc ?_ _ | refine Ext.drew ?_ | refine Ext.drewN ?_ _ | refine Ext.setCell ?_ (by first | exact Nat.le_refl _ | omega | (simp; done) | (simp; omega)) _)) E1; replace ha := ha.up X_; replace hb := hb.up X_; replace hE := hE.up X_; clear X_) | (go_at_call 49; refine (rSplitE ha (by omega) HX.out).mono ?_; rintro e w2 ⟨A2, c2, rfl, own2⟩; have X_ : Ext w1 w2 := Ext.trans (by repeat with_reducible (first | exact Ext.refl _ | refine Ext.alloc ?_ _ | refine Ext.drew ?_ | refine Ext.drewN ?_ _ | refine Ext.setCell ?_ (by first | exact Nat.le_refl _ | omega | (simp; done) | (simp; omega)) _)) own2.ext; replace hb := hb.up X_; replace ha := ha.up X_; replace hE := hE.up X_; clear X_; clear HX) | (go_at_call 49; refine (rSplitE hb (by omega) HY.out).mono ?_; rintro e w3 ⟨A3, c3, rfl, own3⟩; have X_ : Ext w2 w3 := Ext.trans (by repeat with_reducible (first | exact Ext.refl _ | refine Ext.alloc ?_ _ | refine Ext.drew ?_ | refine Ext.drewN ?_ _ | refine Ext.setCell ?_ (by first | exact Nat.le_refl _ | omega | (simp; done) | (simp; omega)) _)) own3.ext; replace ha := ha.up X_; replace hb := hb.up X_; replace hE := hE.up X_; replace own2 := own2.up X_; clear X_; clear HY) | (at_builtin; refine wpList_more elemB rfl (.tmp 37) (.tmp 38) rfl rfl (Own.empty (Ext.refl _) 5 1) rfl (ha.ext (by repeat with_reducible (first | exact Ext.refl _ | refine Ext.alloc ?_ _ | refine Ext.drew ?_ | refine Ext.drewN ?_ _ | refine Ext.setCell ?_ (by first | exact Nat.le_refl _ | omega | (simp; done) | (simp; omega)) _))) (bv_one _) (by omega) (by unfold maxLen; omega) ?_; intro A4 c4 w4 own4 _; simp only [Nat.zero_add, List.nil_append] at own4; replace hb := hb.up own4.ext) | (at_builtin; refine wpList_more elemB rfl (.tmp 39) (.tmp 40) rfl rfl own4 rfl hb (bv_one _) (by omega) (by unfold maxLen; omega) ?_; intro A5 c5 w5 own5 g5; rw [← List.map_append] at own5; replace hE := hE.up own5.ext; replace own2 := own2.up own5.ext; replace own3 := own3.up own5.ext) | (go_at_call 49; refine (rSplitE own5.bytes (by omega) HZ.out).mono ?_; rintro e w6 ⟨A6, c6, rfl, own6⟩; have X_ : Ext w5 w6 := Ext.trans (by repeat with_reducible (first | exact Ext.refl _ | refine Ext.alloc ?_ _ | refine Ext.drew ?_ | refine Ext.drewN ?_ _ | refine Ext.setCell ?_ (by first | exact Nat.le_refl _ | omega | (simp; done) | (simp; omega)) _)) own6.ext; replace hE := hE.up X_; replace own2 := own2.up X_; replace own3 := own3.up X_; clear X_))
        have hXY : (X ++ List.map (Rec.shift n) Y).length = X.length + Y.length := by simp
        have HXY := Lib.hid hXY
        clear hXY
        go_loopw [14, 15] (fun i _ wr => ∃ k : Nat, k ≤ X.length + Y.length ∧ i = .int .i64 k ∧ Ext w6 wr) (fun i _ _ => X.length + Y.length - (intOf i).toNat)
        case atStart => exact ⟨0, Nat.zero_le _, rfl, (by repeat with_reducible (first | exact Ext.refl _ | refine Ext.alloc ?_ _ | refine Ext.drew ?_ | refine Ext.drewN ?_ _ | refine Ext.setCell ?_ (by first | exact Nat.le_refl _ | omega | (simp; done) | (simp; omega)) _))⟩
        case round =>
          obtain ⟨k, hk, rfl, hW⟩ := hrel
          by_cases hlt : k < X.length + Y.length
          · obtain ⟨b6, o6, r6, rfl, hr6, hb6, z0, z1, z2, z3, z4⟩ := (own6.up hW).reads.record (k := k) (by have := HXY.out; omega)
            have Hk := Lib.hid HXY.out
            by_cases hx : k < X.length
            · obtain ⟨b2, o2, r2, rfl, hr2, hb2, x0, x1, x2, x3, x4⟩ := (own2.up hW).reads.record hx
              rw [List.getElem?_append_left hx, hr2] at hr6
              cases hr6
              have Hr := Lib.hid hr2
              have hd : decide (k < X.length) = true := by simp [hx]
              have hx' : (k : Int) < X.length := by omega
              clear hr2 own2 own3 own6 hx hlt
              go_wp2
              go_quiet (fail)
              go_wp2
              go_roundw
              case rel => exact ⟨k + 1, by omega, by go_num, (by repeat with_reducible (first | exact hW | exact Ext.refl _ | refine Ext.alloc ?_ _ | refine Ext.drew ?_ | refine Ext.drewN ?_ _ | refine Ext.setCell ?_ (by first | exact Nat.le_refl _ | omega | (simp; done) | (simp; omega)) _))⟩
              case measure => simp [intOf]; omega
            · obtain ⟨j, hkj⟩ : ∃ j, k = X.length + j := ⟨k - X.length, by omega⟩
              obtain ⟨b3, o3, r3, rfl, hr3, hb3, y0, y1, y2, y3, y4⟩ := (own3.up hW).reads.record (k := j) (by omega)
              rw [List.getElem?_append_right (by omega), hkj, Nat.add_sub_cancel_left, List.getElem?_map, hr3] at hr6
              cases hr6
              have hR := Hall.out r3 (List.mem_of_getElem? hr3)
              simp only [Rec.shift] at z0 z1 z2 z3 z4
              have Hr := Lib.hid hr3
              have hd : decide (k < X.length) = false := by simp [hx]
              have hj : (j : Int) < Y.length := by omega
              have hj2 : j < Y.length := by omega
              have hkj2 : (k : Int) - X.length = j := by omega
              clear hkj
              clear hr3 own2 own3 own6 hx
              have hdn := alloc_drewN
              have hds := setCell_drewN
              go_wp2
              go_quiet (fail)
              go_wp2
              have hw1 : IntKind.i64.wrap ((r3.f : Int) + n) = (r3.f : Int) + n := by rw [IntKind.wrap_i64]; omega
              have hw2 : IntKind.i64.wrap ((r3.a : Int) + n) = (r3.a : Int) + n := by rw [IntKind.wrap_i64]; omega
              have hw3 : IntKind.i64.wrap ((r3.t : Int) + n) = (r3.t : Int) + n := by rw [IntKind.wrap_i64]; omega
              go_quiet (fail)
              clear hw1 hw2 hw3
              go_wp2
              go_roundw
              case rel => exact ⟨k + 1, by omega, by go_num, (by repeat with_reducible (first | exact hW | exact Ext.refl _ | refine Ext.alloc ?_ _ | refine Ext.drew ?_ | refine Ext.drewN ?_ _ | refine Ext.setCell ?_ (by first | exact Nat.le_refl _ | omega | (simp; done) | (simp; omega)) _))⟩
              case measure => simp [intOf]; omega
          · have e : k = X.length + Y.length := by omega
            subst e
            go_wp2
            go_ret
            exact ⟨rfl, hE.trans hW⟩
      · have q : ((ey : Int) != 0) = true := by simp; omega
        simp only [if_neg hey, Prod.mk.injEq] at key
        obtain ⟨rfl, rfl, rfl⟩ := key
        go_enter Try.func12, Try.ntmps12
        go_wp2_with (first | (go_at_call 46; refine (alive05 _).mono ?_; rintro e w1 ⟨rfl, E1⟩; have X_ : Ext w w1 := Ext.trans (by repeat with_reducible (first | exact Ext.refl _ | refine Ext.alloc ?_ _ | refine Ext.drew ?_ | refine Ext.drewN ?_ _ | refine Ext.setCell ?_ (by first | exact Nat.le_refl _ | omega | (simp; done) | (simp; omega)) _)) E1; replace ha := ha.up X_; replace hb := hb.up X_; replace hE := hE.up X_; clear X_) | (go_at_call 49; refine (rSplitE ha (by omega) HX.out).mono ?_; rintro e w2 ⟨A2, c2, rfl, own2⟩; have X_ : Ext w1 w2 := Ext.trans (by repeat with_reducible (first | exact Ext.refl _ | refine Ext.alloc ?_ _ | refine Ext.drew ?_ | refine Ext.drewN ?_ _ | refine Ext.setCell ?_ (by first | exact Nat.le_refl _ | omega | (simp; done) | (simp; omega)) _)) own2.ext; replace hb := hb.up X_; replace ha := ha.up X_; replace hE := hE.up X_; clear X_; clear HX) | (go_at_call 49; refine (rSplitE hb (by omega) HY.out).mono ?_; rintro e w3 ⟨A3, c3, rfl, own3⟩; have X_ : Ext w2 w3 := Ext.trans (by repeat with_reducible (first | exact Ext.refl _ | refine Ext.alloc ?_ _ | refine Ext.drew ?_ | refine Ext.drewN ?_ _ | refine Ext.setCell ?_ (by first | exact Nat.le_refl _ | omega | (simp; done) | (simp; omega)) _)) own3.ext; replace ha := ha.up X_; replace hb := hb.up X_; replace hE := hE.up X_; replace own2 := own2.up X_; clear X_; clear HY) | (at_builtin; refine wpList_more elemB rfl (.tmp 37) (.tmp 38) rfl rfl (Own.empty (Ext.refl _) 5 1) rfl (ha.ext (by repeat with_reducible (first | exact Ext.refl _ | refine Ext.alloc ?_ _ | refine Ext.drew ?_ | refine Ext.drewN ?_ _ | refine Ext.setCell ?_ (by first | exact Nat.le_refl _ | omega | (simp; done) | (simp; omega)) _))) (bv_one _) (by omega) (by unfold maxLen; omega) ?_; intro A4 c4 w4 own4 _; simp only [Nat.zero_add, List.nil_append] at own4; replace hb := hb.up own4.ext) | (at_builtin; refine wpList_more elemB rfl (.tmp 39) (.tmp 40) rfl rfl own4 rfl hb (bv_one _) (by omega) (by unfold maxLen; omega) ?_; intro A5 c5 w5 own5 g5; rw [← List.map_append] at own5; replace hE := hE.up own5.ext) | (go_at_call 49; refine (rSplitE own5.bytes (by omega) HZ.out).mono ?_; rintro e w6 ⟨A6, c6, rfl, own6⟩; have X_ : Ext w5 w6 := Ext.trans (by repeat with_reducible (first | exact Ext.refl _ | refine Ext.alloc ?_ _ | refine Ext.drew ?_ | refine Ext.drewN ?_ _ | refine Ext.setCell ?_ (by first | exact Nat.le_refl _ | omega | (simp; done) | (simp; omega)) _)) own6.ext; replace hE := hE.up X_; clear X_))
        go_ret
        exact ⟨rfl, hE⟩
    · have q : ((ex : Int) != 0) = true := by simp; omega
      clear hX hY hZ
      go_enter Try.func12, Try.ntmps12
      go_wp2_with (first | (go_at_call 46; refine (alive05 _).mono ?_; rintro e w1 ⟨rfl, E1⟩; have X_ : Ext w w1 := Ext.trans (by repeat with_reducible (first | exact Ext.refl _ | refine Ext.alloc ?_ _ | refine Ext.drew ?_ | refine Ext.drewN ?_ _ | refine Ext.setCell ?_ (by first | exact Nat.le_refl _ | omega | (simp; done) | (simp; omega)) _)) E1; replace ha := ha.up X_; replace hb := hb.up X_; replace hE := hE.up X_; clear X_) | (go_at_call 49; refine (rSplitE ha (by omega) HX.out).mono ?_; rintro e w2 ⟨A2, c2, rfl, own2⟩; have X_ : Ext w1 w2 := Ext.trans (by repeat with_reducible (first | exact Ext.refl _ | refine Ext.alloc ?_ _ | refine Ext.drew ?_ | refine Ext.drewN ?_ _ | refine Ext.setCell ?_ (by first | exact Nat.le_refl _ | omega | (simp; done) | (simp; omega)) _)) own2.ext; replace hb := hb.up X_; replace ha := ha.up X_; replace hE := hE.up X_; clear X_; clear HX) | (go_at_call 49; refine (rSplitE hb (by omega) HY.out).mono ?_; rintro e w3 ⟨A3, c3, rfl, own3⟩; have X_ : Ext w2 w3 := Ext.trans (by repeat with_reducible (first | exact Ext.refl _ | refine Ext.alloc ?_ _ | refine Ext.drew ?_ | refine Ext.drewN ?_ _ | refine Ext.setCell ?_ (by first | exact Nat.le_refl _ | omega | (simp; done) | (simp; omega)) _)) own3.ext; replace ha := ha.up X_; replace hb := hb.up X_; replace hE := hE.up X_; replace own2 := own2.up X_; clear X_; clear HY) | (at_builtin; refine wpList_more elemB rfl (.tmp 37) (.tmp 38) rfl rfl (Own.empty (Ext.refl _) 5 1) rfl (ha.ext (by repeat with_reducible (first | exact Ext.refl _ | refine Ext.alloc ?_ _ | refine Ext.drew ?_ | refine Ext.drewN ?_ _ | refine Ext.setCell ?_ (by first | exact Nat.le_refl _ | omega | (simp; done) | (simp; omega)) _))) (bv_one _) (by omega) (by unfold maxLen; omega) ?_; intro A4 c4 w4 own4 _; simp only [Nat.zero_add, List.nil_append] at own4; replace hb := hb.up own4.ext) | (at_builtin; refine wpList_more elemB rfl (.tmp 39) (.tmp 40) rfl rfl own4 rfl hb (bv_one _) (by omega) (by unfold maxLen; omega) ?_; intro A5 c5 w5 own5 g5; rw [← List.map_append] at own5; replace hE := hE.up own5.ext) | (go_at_call 49; refine (rSplitE own5.bytes (by omega) HZ.out).mono ?_; rintro e w6 ⟨A6, c6, rfl, own6⟩; have X_ : Ext w5 w6 := Ext.trans (by repeat with_reducible (first | exact Ext.refl _ | refine Ext.alloc ?_ _ | refine Ext.drew ?_ | refine Ext.drewN ?_ _ | refine Ext.setCell ?_ (by first | exact Nat.le_refl _ | omega | (simp; done) | (simp; omega)) _)) own6.ext; replace hE := hE.up X_; clear X_))
      go_ret
      exact ⟨rfl, hE⟩

end Go.Proofs.Ytcipokmklkognaa
