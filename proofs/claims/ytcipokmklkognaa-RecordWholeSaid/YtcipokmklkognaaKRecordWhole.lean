/- The walk of the law RecordWhole, out of its callees' contracts. -/
import Derived.Test.YtcipokmklkognaaW5e
import Derived.Test.YtcipokmklkognaaKRecordSplits
import Derived.Deep.RegionHeld3
namespace Go.Proofs.Ytcipokmklkognaa
open Go.RowKit
set_option linter.unusedVariables false

theorem rPutNil {B : Option Addr} {m d : Nat} {vs : List UInt8} {number wire : Int} {w : World} (hv : BytesAt w B m d vs) (hm : m ≤ 1000000000) (h : (rightB number wire && fitsV wire vs) = true) :
    Calls Try.prog 51 #[.slice none 0 0, .int .i64 number, .int .i64 wire, .slice B m d] w fun e w' => ∃ A' c', e = .returned (.tuple #[.slice A' (putB number wire vs).length c', .int .u8 0]) ∧ Own w w' 5 1 A' (putB number wire vs).length c' ((putB number wire vs).map bv) := by
  have := rPut (BytesAt.nil w) (by omega) hv hm h
  simpa using this

theorem same_yes {A B : Option Addr} {n c m d : Nat} {xs ys : List UInt8} {w : World} (ha : BytesAt w A n c xs) (hb : BytesAt w B m d ys) (h : xs = ys) :
    Calls Try.prog 43 #[.slice A n c, .slice B m d] w fun e w' => e = .returned (.bool true) ∧ w = w' := by
  have := same ha hb
  rwa [decide_eq_true h] at this

set_option maxRecDepth 100000 in
set_option maxHeartbeats 4000000 in
theorem recordWhole_walk {A : Option Addr} {n c : Nat} {bs : List UInt8} {w : World} (hb : BytesAt w A n c bs) :
    Calls Try.prog 14 #[.slice A n c] w fun e w' => e = .returned (.bool true) ∧ Ext w w' := by
  have hmax := Reads.max hb
  have hcap := Reads.cap hb
  unfold maxLen at hmax
  have hE := Ext.refl w
  by_cases hn : (3000 : Int) < n
  · go_enter Try.func14, Try.ntmps14
    go_wp2_with (go_at_call 46; refine (alive05 _).mono ?_; rintro e w1 ⟨rfl, E1⟩; have X_ : Ext w w1 := Ext.trans (by repeat with_reducible (first | exact Ext.refl _ | refine Ext.alloc ?_ _ | refine Ext.drew ?_ | refine Ext.drewN ?_ _ | refine Ext.setCell ?_ (by first | exact Nat.le_refl _ | omega | (simp; done) | (simp; omega)) _)) E1; replace hb := hb.up X_; replace hE := hE.up X_; clear X_)
    go_ret
    exact ⟨rfl, hE⟩
  · rcases hX : splitV bs with ⟨L, px, ex⟩
    have bX := splitV_le bs
    have sX := splitV_bd bs
    have hl := hb.length
    rw [hX] at bX sX
    simp only at bX sX
    by_cases hex : ex = 0
    · subst hex
      have hlink := scan_linked bs bs.length 0 (by omega) (by omega) (by rw [show scan (nextV bs) Rec.t bs.length 0 = splitV bs from rfl, hX])
      have heach := splitV_each bs
      rw [show scan (nextV bs) Rec.t bs.length 0 = splitV bs from rfl, hX, hl] at hlink
      rw [hX] at heach
      simp only at hlink heach
      have hLl : L.length ≤ 3000 := by omega
      have HX := Lib.hid hX
      have Hlink := Lib.hid hlink
      have Heach := Lib.hid heach
      have Hl := Lib.hid hl
      clear hX hlink heach sX hl
      go_enter Try.func14, Try.ntmps14
      go_wp2_with (first | (go_at_call 46; refine (alive05 _).mono ?_; rintro e w1 ⟨rfl, E1⟩; have X_ : Ext w w1 := Ext.trans (by repeat with_reducible (first | exact Ext.refl _ | refine Ext.alloc ?_ _ | refine Ext.drew ?_ | refine Ext.drewN ?_ _ | refine Ext.setCell ?_ (by first | exact Nat.le_refl _ | omega | (simp; done) | (simp; omega)) _)) E1; replace hb := hb.up X_; replace hE := hE.up X_; clear X_) | (go_at_call 49; refine (rSplitE hb (by omega) HX.out).mono ?_; rintro e w2 ⟨A2, c2, rfl, own2⟩; have X_ : Ext w1 w2 := Ext.trans (by repeat with_reducible (first | exact Ext.refl _ | refine Ext.alloc ?_ _ | refine Ext.drew ?_ | refine Ext.drewN ?_ _ | refine Ext.setCell ?_ (by first | exact Nat.le_refl _ | omega | (simp; done) | (simp; omega)) _)) own2.ext; replace hb := hb.up X_; replace hE := hE.up X_; clear X_))
      go_loopw [6, 7] (fun a i wr => ∃ k q : Nat, k ≤ L.length ∧ i = .int .i64 k ∧ a = .int .i64 q ∧ q ≤ n ∧ Hid (Linked q (L.drop k) n) ∧ Ext w2 wr) (fun _ i _ => L.length - (intOf i).toNat)
      case atStart => exact ⟨0, 0, Nat.zero_le _, rfl, rfl, Nat.zero_le _, Hlink.out, (by repeat with_reducible (first | exact Ext.refl _ | refine Ext.alloc ?_ _ | refine Ext.drew ?_ | refine Ext.drewN ?_ _ | refine Ext.setCell ?_ (by first | exact Nat.le_refl _ | omega | (simp; done) | (simp; omega)) _))⟩
      case round =>
        obtain ⟨k, q, hk, rfl, rfl, hq, hlk, hW⟩ := hrel
        by_cases hlt : k < L.length
        · obtain ⟨b, off, r, rfl, hr, hb1, c0, c1, c2', c3, c4⟩ := (own2.up hW).reads.record hlt
          have hdr : L.drop k = r :: L.drop (k + 1) := by
            rw [List.drop_eq_getElem_cons hlt]
            have := List.getElem?_eq_getElem hlt
            rw [this] at hr
            cases hr
            rfl
          have hlk2 := hlk.out
          rw [hdr] at hlk2
          obtain ⟨hf, hlk3⟩ := hlk2
          have hn1 := Heach.out r (List.mem_of_getElem? hr)
          obtain ⟨a1, a2, a3, a4, a5, a6, a7⟩ := record_alone hn1 (by have := Hl.out; omega)
          obtain ⟨n1, n2, n3, n4, n5⟩ := nextV_ok hn1
          rw [Hl.out] at n5
          have hsl := spanB_length bs (a := r.a) (t := r.t) (by rw [Hl.out]; omega)
          have hand : (rightB (r.n : Int) (r.w : Int) && fitsV (r.w : Int) (spanB bs r.a r.t)) = true := by rw [a1, a2]; rfl
          subst hf
          have Ha := Lib.hid a5
          have Hv := Lib.hid a7
          have Hlk3 := Lib.hid hlk3
          have Hand := Lib.hid hand
          have Hr := Lib.hid hr
          clear hdr hlk3 hn1 a1 a2 a5 a7 n1 n2 hand hr hsl
          obtain ⟨rn, rw_, rf, ra, rt⟩ := r
          simp only at *
          have hf3 : rf < ra := by omega
          have hf4 : ¬ rt < ra := by omega
          have hf5 : ¬ (n < rt) := by omega
          have hdn := alloc_drewN
          have hds := setCell_drewN
          go_wp2
          have hcap2 := fun W : World => rValue (w := W) (r := ⟨rn, rw_, rf, ra, rt⟩) (A := A) (n := n) (c := c) (bs := bs)
          unfold recV at hcap2
          simp only at hcap2
          have Hva := Lib.hid hcap2
          clear hcap2
          have x0 : Ext wr (wr.alloc (.cells #[.int .i64 (rn : Int), .int .i64 (rw_ : Int), .int .i64 (rf : Int), .int .i64 (ra : Int), .int .i64 (rt : Int)] 69)) := (by repeat with_reducible (first | exact Ext.refl _ | refine Ext.alloc ?_ _ | refine Ext.drew ?_ | refine Ext.drewN ?_ _ | refine Ext.setCell ?_ (by first | exact Nat.le_refl _ | omega | (simp; done) | (simp; omega)) _))
          have B0 := Ext.new_blk (Ext.refl (wr.alloc (.cells #[.int .i64 (rn : Int), .int .i64 (rw_ : Int), .int .i64 (rf : Int), .int .i64 (ra : Int), .int .i64 (rt : Int)] 69)))
          generalize wr.alloc (.cells #[.int .i64 (rn : Int), .int .i64 (rw_ : Int), .int .i64 (rf : Int), .int .i64 (ra : Int), .int .i64 (rt : Int)] 69) = wx at *
          have y0 : wx.cell? ⟨wr.heap.size, 0, none⟩ = some (.int .i64 (rn : Int)) := B0.cell 0
          have y1 : wx.cell? ⟨wr.heap.size, 1, none⟩ = some (.int .i64 (rw_ : Int)) := B0.cell 1
          have y2 : wx.cell? ⟨wr.heap.size, 2, none⟩ = some (.int .i64 (rf : Int)) := B0.cell 2
          have y3 : wx.cell? ⟨wr.heap.size, 3, none⟩ = some (.int .i64 (ra : Int)) := B0.cell 3
          have y4 : wx.cell? ⟨wr.heap.size, 4, none⟩ = some (.int .i64 (rt : Int)) := B0.cell 4
          go_region_held3 (fun W => (Ext wr W) ∧ (W.cell? ⟨wr.heap.size, 0, none⟩ = some (.int .i64 (rn : Int))) ∧ (W.cell? ⟨wr.heap.size, 1, none⟩ = some (.int .i64 (rw_ : Int))) ∧ (W.cell? ⟨wr.heap.size, 2, none⟩ = some (.int .i64 (rf : Int))) ∧ (W.cell? ⟨wr.heap.size, 3, none⟩ = some (.int .i64 (ra : Int))) ∧ (W.cell? ⟨wr.heap.size, 4, none⟩ = some (.int .i64 (rt : Int))))
            (first | exact ⟨by assumption, by assumption, by assumption, by assumption, by assumption, by assumption⟩ | exact ⟨Ext.drew (by assumption), by assumption, by assumption, by assumption, by assumption, by assumption⟩)
            (first | (go_split_ands; go_at_call 55; refine (Hva.out _ ((hb.up hW).up (by assumption)) (by omega) (by omega) (by omega)).mono ?_; rintro e w3 ⟨A3, c3, rfl, own3⟩; have q0_ : Ext wr w3 := Ext.trans (by assumption) own3.ext; have q1_ : w3.cell? ⟨wr.heap.size, 0, none⟩ = some (.int .i64 (rn : Int)) := Ext.of_cell own3.ext (by assumption); have q2_ : w3.cell? ⟨wr.heap.size, 1, none⟩ = some (.int .i64 (rw_ : Int)) := Ext.of_cell own3.ext (by assumption); have q3_ : w3.cell? ⟨wr.heap.size, 2, none⟩ = some (.int .i64 (rf : Int)) := Ext.of_cell own3.ext (by assumption); have q4_ : w3.cell? ⟨wr.heap.size, 3, none⟩ = some (.int .i64 (ra : Int)) := Ext.of_cell own3.ext (by assumption); have q5_ : w3.cell? ⟨wr.heap.size, 4, none⟩ = some (.int .i64 (rt : Int)) := Ext.of_cell own3.ext (by assumption)) | (go_split_ands; go_at_call 51; refine (rPutNil own3.bytes (by omega) Hand.out).mono ?_; rintro e w4 ⟨A4, c4, rfl, own4⟩; have q0_ : Ext wr w4 := Ext.trans (by assumption) own4.ext; have q1_ : w4.cell? ⟨wr.heap.size, 0, none⟩ = some (.int .i64 (rn : Int)) := Ext.of_cell own4.ext (by assumption); have q2_ : w4.cell? ⟨wr.heap.size, 1, none⟩ = some (.int .i64 (rw_ : Int)) := Ext.of_cell own4.ext (by assumption); have q3_ : w4.cell? ⟨wr.heap.size, 2, none⟩ = some (.int .i64 (rf : Int)) := Ext.of_cell own4.ext (by assumption); have q4_ : w4.cell? ⟨wr.heap.size, 3, none⟩ = some (.int .i64 (ra : Int)) := Ext.of_cell own4.ext (by assumption); have q5_ : w4.cell? ⟨wr.heap.size, 4, none⟩ = some (.int .i64 (rt : Int)) := Ext.of_cell own4.ext (by assumption)))
          go_wp2_with fail
          refine (rSplitE own4.bytes (by omega) Ha.out).mono ?_
          rintro e w5 ⟨A5, c5, rfl, own5⟩
          have q0_ : Ext wr w5 := Ext.trans (by assumption) own5.ext; have q1_ : w5.cell? ⟨wr.heap.size, 0, none⟩ = some (.int .i64 (rn : Int)) := Ext.of_cell own5.ext (by assumption); have q2_ : w5.cell? ⟨wr.heap.size, 1, none⟩ = some (.int .i64 (rw_ : Int)) := Ext.of_cell own5.ext (by assumption); have q3_ : w5.cell? ⟨wr.heap.size, 2, none⟩ = some (.int .i64 (rf : Int)) := Ext.of_cell own5.ext (by assumption); have q4_ : w5.cell? ⟨wr.heap.size, 3, none⟩ = some (.int .i64 (ra : Int)) := Ext.of_cell own5.ext (by assumption); have q5_ : w5.cell? ⟨wr.heap.size, 4, none⟩ = some (.int .i64 (rt : Int)) := Ext.of_cell own5.ext (by assumption)
          replace own4 := own4.up own5.ext
          obtain ⟨b5, o5, r5, rfl, hr5, hb5, z0, z1, z2, z3, z4⟩ := own5.reads.record (k := 0) (by simp)
          simp at hr5
          subst hr5
          generalize hP : (putB (rn : Int) (rw_ : Int) (spanB bs ra rt)).length = P at *
          have HP := Lib.hid hP
          clear hP
          simp only [Nat.zero_mul, Nat.add_zero] at z0 z1 z2 z3 z4
          have hw : IntKind.i64.wrap ((rt : Int) - rf) = (rt : Int) - rf := by rw [IntKind.wrap_i64]; omega
          have hd : decide ((rt : Int) - rf < P) = false := by simp; omega
          have hvc := fun W : World => rValue (w := W) (r := ⟨rn, rw_, 0, a4, P⟩) (A := A4) (n := P) (c := c4) (bs := putB (rn : Int) (rw_ : Int) (spanB bs ra rt))
          unfold recV at hvc
          simp only [show ((0 : Nat) : Int) = 0 from rfl] at hvc
          have Hvc := Lib.hid hvc
          clear hvc
          go_wp2
          have x5 := Ext.refl w5
          go_region_held3 (fun W => (Ext wr W) ∧ (W.cell? ⟨wr.heap.size, 0, none⟩ = some (.int .i64 (rn : Int))) ∧ (W.cell? ⟨wr.heap.size, 1, none⟩ = some (.int .i64 (rw_ : Int))) ∧ (W.cell? ⟨wr.heap.size, 2, none⟩ = some (.int .i64 (rf : Int))) ∧ (W.cell? ⟨wr.heap.size, 3, none⟩ = some (.int .i64 (ra : Int))) ∧ (W.cell? ⟨wr.heap.size, 4, none⟩ = some (.int .i64 (rt : Int))) ∧ (W.cell? ⟨b5, o5, none⟩ = some (.int .i64 (rn : Int))) ∧ (W.cell? ⟨b5, o5 + 1, none⟩ = some (.int .i64 (rw_ : Int))) ∧ (W.cell? ⟨b5, o5 + 2, none⟩ = some (.int .i64 0)) ∧ (W.cell? ⟨b5, o5 + 3, none⟩ = some (.int .i64 (a4 : Int))) ∧ (W.cell? ⟨b5, o5 + 4, none⟩ = some (.int .i64 (P : Int))) ∧ (Ext w5 W))
            (first | exact ⟨by assumption, by assumption, by assumption, by assumption, by assumption, by assumption, by assumption, by assumption, by assumption, by assumption, by assumption, by assumption⟩ | exact ⟨Ext.drew (by assumption), by assumption, by assumption, by assumption, by assumption, by assumption, by assumption, by assumption, by assumption, by assumption, by assumption, Ext.drew (by assumption)⟩)
            (first | (go_split_ands; go_at_call 55; with_reducible refine (Hva.out _ ((hb.up hW).up (by assumption)) (by omega) (by omega) (by omega)).mono ?_; rintro e w7 ⟨A7, c7, rfl, own7⟩; have q0_ : Ext wr w7 := Ext.trans (by assumption) own7.ext; have q1_ : w7.cell? ⟨wr.heap.size, 0, none⟩ = some (.int .i64 (rn : Int)) := Ext.of_cell own7.ext (by assumption); have q2_ : w7.cell? ⟨wr.heap.size, 1, none⟩ = some (.int .i64 (rw_ : Int)) := Ext.of_cell own7.ext (by assumption); have q3_ : w7.cell? ⟨wr.heap.size, 2, none⟩ = some (.int .i64 (rf : Int)) := Ext.of_cell own7.ext (by assumption); have q4_ : w7.cell? ⟨wr.heap.size, 3, none⟩ = some (.int .i64 (ra : Int)) := Ext.of_cell own7.ext (by assumption); have q5_ : w7.cell? ⟨wr.heap.size, 4, none⟩ = some (.int .i64 (rt : Int)) := Ext.of_cell own7.ext (by assumption); have q6_ : w7.cell? ⟨b5, o5, none⟩ = some (.int .i64 (rn : Int)) := Ext.of_cell own7.ext (by assumption); have q7_ : w7.cell? ⟨b5, o5 + 1, none⟩ = some (.int .i64 (rw_ : Int)) := Ext.of_cell own7.ext (by assumption); have q8_ : w7.cell? ⟨b5, o5 + 2, none⟩ = some (.int .i64 0) := Ext.of_cell own7.ext (by assumption); have q9_ : w7.cell? ⟨b5, o5 + 3, none⟩ = some (.int .i64 (a4 : Int)) := Ext.of_cell own7.ext (by assumption); have q10_ : w7.cell? ⟨b5, o5 + 4, none⟩ = some (.int .i64 (P : Int)) := Ext.of_cell own7.ext (by assumption); have q11_ : Ext w5 w7 := Ext.trans (by assumption) own7.ext; try replace own6 := own6.up own7.ext) | (go_split_ands; go_at_call 55; with_reducible refine (Hvc.out _ (own4.bytes.up (by assumption)) (by omega) (by omega) (by omega)).mono ?_; rintro e w6 ⟨A6, c6, rfl, own6⟩; have q0_ : Ext wr w6 := Ext.trans (by assumption) own6.ext; have q1_ : w6.cell? ⟨wr.heap.size, 0, none⟩ = some (.int .i64 (rn : Int)) := Ext.of_cell own6.ext (by assumption); have q2_ : w6.cell? ⟨wr.heap.size, 1, none⟩ = some (.int .i64 (rw_ : Int)) := Ext.of_cell own6.ext (by assumption); have q3_ : w6.cell? ⟨wr.heap.size, 2, none⟩ = some (.int .i64 (rf : Int)) := Ext.of_cell own6.ext (by assumption); have q4_ : w6.cell? ⟨wr.heap.size, 3, none⟩ = some (.int .i64 (ra : Int)) := Ext.of_cell own6.ext (by assumption); have q5_ : w6.cell? ⟨wr.heap.size, 4, none⟩ = some (.int .i64 (rt : Int)) := Ext.of_cell own6.ext (by assumption); have q6_ : w6.cell? ⟨b5, o5, none⟩ = some (.int .i64 (rn : Int)) := Ext.of_cell own6.ext (by assumption); have q7_ : w6.cell? ⟨b5, o5 + 1, none⟩ = some (.int .i64 (rw_ : Int)) := Ext.of_cell own6.ext (by assumption); have q8_ : w6.cell? ⟨b5, o5 + 2, none⟩ = some (.int .i64 0) := Ext.of_cell own6.ext (by assumption); have q9_ : w6.cell? ⟨b5, o5 + 3, none⟩ = some (.int .i64 (a4 : Int)) := Ext.of_cell own6.ext (by assumption); have q10_ : w6.cell? ⟨b5, o5 + 4, none⟩ = some (.int .i64 (P : Int)) := Ext.of_cell own6.ext (by assumption); have q11_ : Ext w5 w6 := Ext.trans (by assumption) own6.ext; try replace own7 := own7.up own6.ext) | (go_split_ands; go_at_call 43; refine (same_yes own6.reads own7.reads Hv.out).mono ?_; rintro e w' ⟨rfl, rfl⟩))
          all_goals
            clear hw hd
            go_wp2
            go_roundw
            case rel => exact ⟨k + 1, rt, by omega, by go_num, rfl, by omega, Hlk3.out, hW.trans (by assumption)⟩
            case measure => simp [intOf]; omega
        · have e : k = L.length := by omega
          subst e
          rw [List.drop_length] at hlk
          have hqn : q = n := hlk.out
          subst hqn
          go_wp2
          go_ret
          exact ⟨rfl, hE.trans hW⟩
    · have hL : L = [] := sX.2.2.1 hex
      subst hL
      have q : ((ex : Int) != 0) = true := by simp; omega
      have HX := Lib.hid hX
      clear hX sX hl
      go_enter Try.func14, Try.ntmps14
      go_wp2_with (first | (go_at_call 46; refine (alive05 _).mono ?_; rintro e w1 ⟨rfl, E1⟩; have X_ : Ext w w1 := Ext.trans (by repeat with_reducible (first | exact Ext.refl _ | refine Ext.alloc ?_ _ | refine Ext.drew ?_ | refine Ext.drewN ?_ _ | refine Ext.setCell ?_ (by first | exact Nat.le_refl _ | omega | (simp; done) | (simp; omega)) _)) E1; replace hb := hb.up X_; replace hE := hE.up X_; clear X_) | (go_at_call 49; refine (rSplitE hb (by omega) HX.out).mono ?_; rintro e w2 ⟨A2, c2, rfl, own2⟩; have X_ : Ext w1 w2 := Ext.trans (by repeat with_reducible (first | exact Ext.refl _ | refine Ext.alloc ?_ _ | refine Ext.drew ?_ | refine Ext.drewN ?_ _ | refine Ext.setCell ?_ (by first | exact Nat.le_refl _ | omega | (simp; done) | (simp; omega)) _)) own2.ext; replace hE := hE.up X_; clear X_))
      go_ret
      exact ⟨rfl, hE⟩

end Go.Proofs.Ytcipokmklkognaa
