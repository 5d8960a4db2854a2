/- The walk of the law ViewLooks, out of its callees' contracts. -/
import Derived.Test.YtlmmlmmadgcmcaaW10c
namespace Go.Proofs.Ytlmmlmmadgcmcaa
open Go.RowKit Go.Shelf
set_option linter.unusedVariables false

theorem lawSame {v : ViewD} {w : World} :
    Calls Try.prog 29 #[viewV v, viewV v] w fun e w' => e = .returned (.bool true) ∧ Ext w w' := by
  unfold viewV
  go_enter Try.func29, Try.ntmps29
  go_wp2
  go_ret
  exact ⟨rfl, (by repeat with_reducible (first | exact Ext.refl _ | refine Ext.alloc ?_ _ | refine Ext.drew ?_ | refine Ext.drewN ?_ _ | refine Ext.setCell ?_ (by first | exact Nat.le_refl _ | omega | (simp; done) | (simp; omega)) _))⟩

theorem lawSameE {n1 n2 n3 n4 n5 : Nat} {x : Int} {y : Bool} {w : World} :
    Calls Try.prog 29 #[.agg #[.int .i64 (n1 : Int), .int .i64 (n2 : Int), .int .i64 (n3 : Int), .int .i64 (n4 : Int), .int .i64 (n5 : Int), .int .i64 x, .bool y], .agg #[.int .i64 (n1 : Int), .int .i64 (n2 : Int), .int .i64 (n3 : Int), .int .i64 (n4 : Int), .int .i64 (n5 : Int), .int .i64 x, .bool y]] w fun e w' => e = .returned (.bool true) ∧ Ext w w' :=
  lawSame (v := ⟨⟨n1, n2, n3, n4, n5⟩, x, y⟩)

theorem lawWide {s : ByteArray} {A : Option Addr} {n c : Nat} {w : World} :
    Calls Try.prog 24 #[.agg #[.string s, .slice A n c]] w fun e w' => e = .returned (.bool (decide ((300 : Int) < n))) ∧ Ext w w' := by
  go_enter Try.func24, Try.ntmps24
  go_wp2
  go_ret
  exact ⟨rfl, (by repeat with_reducible (first | exact Ext.refl _ | refine Ext.alloc ?_ _ | refine Ext.drew ?_ | refine Ext.drewN ?_ _ | refine Ext.setCell ?_ (by first | exact Nat.le_refl _ | omega | (simp; done) | (simp; omega)) _))⟩

def aliveF : FieldD := ⟨⟨#[]⟩, 1, 1, true, false, 0⟩

theorem viewsV_alive : viewsV [aliveF] [8, 1, 10, 1, 1, 16, 1] = ([⟨⟨1, 0, 0, 1, 2⟩, 0, false⟩, ⟨⟨1, 2, 2, 4, 5⟩, 0, true⟩, ⟨⟨2, 0, 5, 6, 7⟩, -1, false⟩], 0, 0) := by decide +kernel

theorem Reads.view {w : World} {A : Option Addr} {n c : Nat} {l : List ViewD} (h : Reads w A n c 7 (l.flatMap viewC)) {k : Nat} (hk : k < n) :
    ∃ b off v, A = some ⟨b, off, none⟩ ∧ l[k]? = some v ∧ b < w.heap.size ∧ w.cell? ⟨b, off + k * 7, none⟩ = some (.int .i64 (v.r.n : Int)) ∧ w.cell? ⟨b, off + k * 7 + 1, none⟩ = some (.int .i64 (v.r.w : Int)) ∧
      w.cell? ⟨b, off + k * 7 + 2, none⟩ = some (.int .i64 (v.r.f : Int)) ∧ w.cell? ⟨b, off + k * 7 + 3, none⟩ = some (.int .i64 (v.r.a : Int)) ∧ w.cell? ⟨b, off + k * 7 + 4, none⟩ = some (.int .i64 (v.r.t : Int)) ∧
      w.cell? ⟨b, off + k * 7 + 5, none⟩ = some (.int .i64 v.field) ∧ w.cell? ⟨b, off + k * 7 + 6, none⟩ = some (.bool v.run) := by
  obtain ⟨b, off, r, e, hx, hb, hj⟩ := h.elem (size := 7) (fun _ => rfl) (by omega) hk
  exact ⟨b, off, r, e, hx, hb, hj 0 _ rfl, hj 1 _ rfl, hj 2 _ rfl, hj 3 _ rfl, hj 4 _ rfl, hj 5 _ rfl, hj 6 _ rfl⟩

theorem alive10 (w : World) : Calls Try.prog 23 #[] w fun e w' => e = .returned (.bool true) ∧ Ext w w' := by
  go_enter Try.func23, Try.ntmps23
  go_wp2_with fail
  have hf0 : FieldsAt (w.alloc (.cells #[.string ⟨#[]⟩, .int .i64 1, .int .i64 1, .bool true, .bool false, .int .i64 0] 39)) (some ⟨w.heap.size, 0, none⟩) 1 1 [aliveF] := by
    refine ⟨(Own.made (Ext.refl w) 39 6 (cs := fieldC aliveF) (n := 1) (by simp [maxLen]) rfl).reads, fun f hf => ?_⟩
    simp only [List.mem_singleton] at hf
    subst hf
    exact ⟨by decide, by decide, by decide, by decide⟩
  refine (vAllV (hf0.up (by repeat with_reducible (first | exact Ext.refl _ | refine Ext.alloc ?_ _ | refine Ext.drew ?_ | refine Ext.drewN ?_ _ | refine Ext.setCell ?_ (by first | exact Nat.le_refl _ | omega | (simp; done) | (simp; omega)) _))) (by omega) (bytes_lit _ _ _ [8, 1, 10, 1, 1, 16, 1] 7 (by simp) (by simp [bv]) rfl (by simp [maxLen])) (by omega) viewsV_alive).mono ?_
  rintro e w1 ⟨A1, c1, rfl, own⟩
  obtain ⟨b, off, v0, rfl, hr0, hb, _, _, _, _, _, c05, c06⟩ := own.reads.view (k := 0) (by simp)
  obtain ⟨b', off', v1, hA, hr1, _, _, _, _, _, _, c15, c16⟩ := own.reads.view (k := 1) (by simp)
  cases hA
  obtain ⟨b', off', v2, hA, hr2, _, _, _, _, _, _, c25, c26⟩ := own.reads.view (k := 2) (by simp)
  cases hA
  simp at hr0 hr1 hr2
  subst hr0 hr1 hr2
  simp at c05 c06 c15 c16 c25 c26
  go_wp2
  go_ret
  exact ⟨rfl, Ext.trans (by repeat with_reducible (first | exact Ext.refl _ | refine Ext.alloc ?_ _ | refine Ext.drew ?_ | refine Ext.drewN ?_ _ | refine Ext.setCell ?_ (by first | exact Nat.le_refl _ | omega | (simp; done) | (simp; omega)) _)) own.ext⟩

set_option maxRecDepth 100000 in
set_option maxHeartbeats 1000000 in
theorem viewLooks_walk {s : ByteArray} {A B : Option Addr} {n c m d : Nat} {l : List FieldD} {bs : List UInt8} {p : Int} {w : World} (hf : FieldsAt w A n c l) (hb : BytesAt w B m d bs) (hp : -9223372036854775808 ≤ p ∧ p < 9223372036854775808) :
    Calls Try.prog 5 #[.agg #[.string s, .slice A n c], .slice B m d, .int .i64 p] w fun e w' => e = .returned (.bool true) ∧ Ext w w' := by
  have hmax := Reads.max hb
  have hcap := Reads.cap hb
  have hmax2 := Reads.max hf.1
  have hcap2 := Reads.cap hf.1
  unfold maxLen at hmax hmax2
  have hE := Ext.refl w
  by_cases hn : (300 : Int) < n
  · go_enter Try.func5, Try.ntmps5
    go_wp2_with (first | (go_at_call 23; refine (alive10 _).mono ?_; rintro e w1 ⟨rfl, E1⟩; have BM := E1.new_blk; have X_ : Ext w w1 := Ext.trans (by repeat with_reducible (first | exact Ext.refl _ | refine Ext.alloc ?_ _ | refine Ext.drew ?_ | refine Ext.drewN ?_ _ | refine Ext.setCell ?_ (by first | exact Nat.le_refl _ | omega | (simp; done) | (simp; omega)) _)) E1; replace hf := hf.up X_; replace hb := hb.up X_; replace hE := hE.up X_; clear X_; have m0 : w1.cell? ⟨w.heap.size, 0, none⟩ = some (.string s) := BM.cell 0;  have m1 : w1.cell? ⟨w.heap.size, 1, none⟩ = some (.slice A n c) := BM.cell 1;  have ml := BM.lt) | (go_at_call 24; refine (lawWide).mono ?_; rintro e w2 ⟨rfl, E2⟩; have X_ : Ext w1 w2 := Ext.trans (by repeat with_reducible (first | exact Ext.refl _ | refine Ext.alloc ?_ _ | refine Ext.drew ?_ | refine Ext.drewN ?_ _ | refine Ext.setCell ?_ (by first | exact Nat.le_refl _ | omega | (simp; done) | (simp; omega)) _)) E2; replace hE := hE.up X_; clear X_))
    go_ret
    exact ⟨rfl, hE⟩
  · by_cases hm : (2000 : Int) < m
    · go_enter Try.func5, Try.ntmps5
      go_wp2_with (first | (go_at_call 23; refine (alive10 _).mono ?_; rintro e w1 ⟨rfl, E1⟩; have BM := E1.new_blk; have X_ : Ext w w1 := Ext.trans (by repeat with_reducible (first | exact Ext.refl _ | refine Ext.alloc ?_ _ | refine Ext.drew ?_ | refine Ext.drewN ?_ _ | refine Ext.setCell ?_ (by first | exact Nat.le_refl _ | omega | (simp; done) | (simp; omega)) _)) E1; replace hf := hf.up X_; replace hb := hb.up X_; replace hE := hE.up X_; clear X_; have m0 : w1.cell? ⟨w.heap.size, 0, none⟩ = some (.string s) := BM.cell 0;  have m1 : w1.cell? ⟨w.heap.size, 1, none⟩ = some (.slice A n c) := BM.cell 1;  have ml := BM.lt) | (go_at_call 24; refine (lawWide).mono ?_; rintro e w2 ⟨rfl, E2⟩; have X_ : Ext w1 w2 := Ext.trans (by repeat with_reducible (first | exact Ext.refl _ | refine Ext.alloc ?_ _ | refine Ext.drew ?_ | refine Ext.drewN ?_ _ | refine Ext.setCell ?_ (by first | exact Nat.le_refl _ | omega | (simp; done) | (simp; omega)) _)) E2; replace hE := hE.up X_; clear X_))
      go_ret
      exact ⟨rfl, hE⟩
    · rcases hx : lookI l bs p with ⟨v, C⟩
      have hC := lookI_le l bs p
      rw [hx] at hC
      rcases hv : viewsV l bs with ⟨L, P, D⟩
      have hD := viewsV_le l bs
      have hvb := viewsV_bd l bs
      rw [hv] at hD hvb
      rw [hb.length] at hvb
      simp only at hC hD hvb
      have hLl := hvb.2.1
      have hPl := hvb.1
      have Hx := Lib.hid hx
      have Hv := Lib.hid hv
      clear hx hv hvb
      go_enter Try.func5, Try.ntmps5
      go_wp2_with (first
        | (go_at_call 23; refine (alive10 _).mono ?_; rintro e w1 ⟨rfl, E1⟩; have BM := E1.new_blk; have X_ : Ext w w1 := Ext.trans (by repeat with_reducible (first | exact Ext.refl _ | refine Ext.alloc ?_ _ | refine Ext.drew ?_ | refine Ext.drewN ?_ _ | refine Ext.setCell ?_ (by first | exact Nat.le_refl _ | omega | (simp; done) | (simp; omega)) _)) E1; replace hf := hf.up X_; replace hb := hb.up X_; replace hE := hE.up X_; clear X_; have m0 : w1.cell? ⟨w.heap.size, 0, none⟩ = some (.string s) := BM.cell 0;  have m1 : w1.cell? ⟨w.heap.size, 1, none⟩ = some (.slice A n c) := BM.cell 1;  have ml := BM.lt)
        | (go_at_call 24; refine (lawWide).mono ?_; rintro e w2 ⟨rfl, E2⟩; have X_ : Ext w1 w2 := Ext.trans (by repeat with_reducible (first | exact Ext.refl _ | refine Ext.alloc ?_ _ | refine Ext.drew ?_ | refine Ext.drewN ?_ _ | refine Ext.setCell ?_ (by first | exact Nat.le_refl _ | omega | (simp; done) | (simp; omega)) _)) E2; replace hf := hf.up X_; replace hb := hb.up X_; replace hE := hE.up X_; replace BM := BM.up X_; clear X_; replace m0 : w2.cell? ⟨w.heap.size, 0, none⟩ = some (.string s) := BM.cell 0;  replace m1 : w2.cell? ⟨w.heap.size, 1, none⟩ = some (.slice A n c) := BM.cell 1;  replace ml := BM.lt)
        | (go_at_call 25; refine (vLook hf (by omega) hb (by omega) Hx.out).mono ?_; rintro e w3 ⟨rfl, E3⟩; unfold viewV; have X_ : Ext w2 w3 := Ext.trans (by repeat with_reducible (first | exact Ext.refl _ | refine Ext.alloc ?_ _ | refine Ext.drew ?_ | refine Ext.drewN ?_ _ | refine Ext.setCell ?_ (by first | exact Nat.le_refl _ | omega | (simp; done) | (simp; omega)) _)) E3; replace hf := hf.up X_; replace hb := hb.up X_; replace hE := hE.up X_; replace BM := BM.up X_; clear X_; replace m0 : w3.cell? ⟨w.heap.size, 0, none⟩ = some (.string s) := BM.cell 0;  replace m1 : w3.cell? ⟨w.heap.size, 1, none⟩ = some (.slice A n c) := BM.cell 1;  replace ml := BM.lt)
        | (go_at_call 26; refine (vLookR (hf.up (by repeat with_reducible (first | exact Ext.refl _ | refine Ext.alloc ?_ _ | refine Ext.drew ?_ | refine Ext.drewN ?_ _ | refine Ext.setCell ?_ (by first | exact Nat.le_refl _ | omega | (simp; done) | (simp; omega)) _))) (by omega) (hb.up (by repeat with_reducible (first | exact Ext.refl _ | refine Ext.alloc ?_ _ | refine Ext.drew ?_ | refine Ext.drewN ?_ _ | refine Ext.setCell ?_ (by first | exact Nat.le_refl _ | omega | (simp; done) | (simp; omega)) _))) (by omega) Hx.out).mono ?_; rintro e w4 ⟨rfl, E4⟩; unfold viewV; have V1 := E4.new_blk; have X_ : Ext w3 w4 := Ext.trans (by repeat with_reducible (first | exact Ext.refl _ | refine Ext.alloc ?_ _ | refine Ext.drew ?_ | refine Ext.drewN ?_ _ | refine Ext.setCell ?_ (by first | exact Nat.le_refl _ | omega | (simp; done) | (simp; omega)) _)) E4; replace hf := hf.up X_; replace hb := hb.up X_; replace hE := hE.up X_; replace BM := BM.up X_; clear X_; replace m0 : w4.cell? ⟨w.heap.size, 0, none⟩ = some (.string s) := BM.cell 0;  replace m1 : w4.cell? ⟨w.heap.size, 1, none⟩ = some (.slice A n c) := BM.cell 1;  replace ml := BM.lt)
        | (go_at_call 27; refine (vAllV (hf.up (by repeat with_reducible (first | exact Ext.refl _ | refine Ext.alloc ?_ _ | refine Ext.drew ?_ | refine Ext.drewN ?_ _ | refine Ext.setCell ?_ (by first | exact Nat.le_refl _ | omega | (simp; done) | (simp; omega)) _))) (by omega) (hb.up (by repeat with_reducible (first | exact Ext.refl _ | refine Ext.alloc ?_ _ | refine Ext.drew ?_ | refine Ext.drewN ?_ _ | refine Ext.setCell ?_ (by first | exact Nat.le_refl _ | omega | (simp; done) | (simp; omega)) _))) (by omega) Hv.out).mono ?_; rintro e w5 ⟨A5, c5, rfl, own5⟩; have V2 := own5.ext.new_blk; have X_ : Ext w4 w5 := Ext.trans (by repeat with_reducible (first | exact Ext.refl _ | refine Ext.alloc ?_ _ | refine Ext.drew ?_ | refine Ext.drewN ?_ _ | refine Ext.setCell ?_ (by first | exact Nat.le_refl _ | omega | (simp; done) | (simp; omega)) _)) own5.ext; replace hf := hf.up X_; replace hb := hb.up X_; replace hE := hE.up X_; replace BM := BM.up X_; replace V1 := V1.up X_; clear X_; replace m0 : w5.cell? ⟨w.heap.size, 0, none⟩ = some (.string s) := BM.cell 0;  replace m1 : w5.cell? ⟨w.heap.size, 1, none⟩ = some (.slice A n c) := BM.cell 1;  replace ml := BM.lt)
        | (go_at_call 28; refine (vAllVR hf (by omega) hb (by omega) Hv.out).mono ?_; rintro e w6 ⟨A6, c6, rfl, own6⟩; have X_ : Ext w5 w6 := Ext.trans (by repeat with_reducible (first | exact Ext.refl _ | refine Ext.alloc ?_ _ | refine Ext.drew ?_ | refine Ext.drewN ?_ _ | refine Ext.setCell ?_ (by first | exact Nat.le_refl _ | omega | (simp; done) | (simp; omega)) _)) own6.ext; replace hE := hE.up X_; replace V1 := V1.up X_; replace V2 := V2.up X_; replace own5 := own5.up X_; clear X_; have f1 := V1.cell;  have f2 := V2.cell;  have f3 := V1.lt;  have f4 := V2.lt;  clear V1 V2 BM)
        | (go_at_call 29; refine (lawSameE).mono ?_; rintro e w7 ⟨rfl, E7⟩; have X_ : Ext w6 w7 := Ext.trans (by repeat with_reducible (first | exact Ext.refl _ | refine Ext.alloc ?_ _ | refine Ext.drew ?_ | refine Ext.drewN ?_ _ | refine Ext.setCell ?_ (by first | exact Nat.le_refl _ | omega | (simp; done) | (simp; omega)) _)) E7; replace hE := hE.up X_; replace own5 := own5.up X_; replace own6 := own6.up X_; clear X_))
      go_loopw [17] (fun i wr => ∃ k : Nat, k ≤ L.length ∧ i = .int .i64 k ∧ Ext w7 wr) (fun i _ => L.length - (intOf i).toNat)
      case atStart => exact ⟨0, Nat.zero_le _, rfl, Ext.refl _⟩
      case round =>
        obtain ⟨k, hk, rfl, hW⟩ := hrel
        by_cases hlt : k < L.length
        · obtain ⟨b, off, x, rfl, hr, hb1, c0, c1, c2, c3, c4, c5', c6'⟩ := (own5.up hW).reads.view hlt
          obtain ⟨b', off', x', rfl, hr', hb2, d0, d1, d2, d3, d4, d5, d6⟩ := (own6.up hW).reads.view hlt
          rw [hr] at hr'
          cases hr'
          have Hr := Lib.hid hr
          have hlt2 : (k : Int) < L.length := by omega
          clear hr own5 own6
          go_wp2
          go_region_held3 (fun W => Ext wr W ∧ ∀ b o, b < wr.heap.size → W.cell? ⟨b, o, none⟩ = wr.cell? ⟨b, o, none⟩) ((refine Ext.keep ?_; repeat with_reducible (first | assumption | exact Ext.refl _ | refine Ext.alloc ?_ _ | refine Ext.drew ?_ | refine Ext.drewN ?_ _ | refine Ext.setCell ?_ (by first | exact Nat.le_refl _ | omega | (simp; done) | (simp; omega)) _)))
            (first | (go_split_ands; go_at_call 29; refine lawSameE.mono ?_; rintro e w8 ⟨rfl, E8⟩; have q0 : Ext wr w8 := Ext.trans (by with_reducible assumption) E8))
          all_goals
            go_wp2
            go_roundw
            case rel => exact ⟨k + 1, by omega, by go_num, hW.trans (by with_reducible assumption)⟩
            case measure => simp [intOf]; omega
        · have e : k = L.length := by omega
          subst e
          go_wp2
          go_ret
          exact ⟨rfl, hE.trans hW⟩

end Go.Proofs.Ytlmmlmmadgcmcaa
