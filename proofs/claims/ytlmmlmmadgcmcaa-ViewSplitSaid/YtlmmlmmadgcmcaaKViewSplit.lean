/- The walk of the law ViewSplit, out of its callees' contracts. -/
import Derived.Test.YtlmmlmmadgcmcaaS10d
import Derived.Test.YtlmmlmmadgcmcaaKViewParts
import Derived.Test.YtlmmlmmadgcmcaaLib6
namespace Go.Proofs.Ytlmmlmmadgcmcaa
open Go.RowKit Go.Shelf
set_option linter.unusedVariables false

theorem elemField : Elem Try.prog 35 39 6 48 := Elem.mk' (z := .agg #[.string ⟨#[]⟩, .int .i64 0, .int .i64 0, .bool false, .bool false, .int .i64 0]) Try.underlying35 (by kernel_rfl) rfl (by omega)

theorem fieldC_one (l : List FieldD) : ∀ u ∈ l.flatMap fieldC, u.oneCell' = true := by
  intro u hu
  obtain ⟨f, _, hf⟩ := List.mem_flatMap.1 hu
  unfold fieldC at hf
  simp only [List.mem_cons, List.not_mem_nil, or_false] at hf
  rcases hf with rfl | rfl | rfl | rfl | rfl | rfl <;> rfl

theorem fields_take (l : List FieldD) (k : Nat) : (l.flatMap fieldC).take (k * 6) = (l.take k).flatMap fieldC := flat_take (size := 6) (fun _ => rfl) l k

theorem fields_drop (l : List FieldD) (k : Nat) : (l.flatMap fieldC).drop (k * 6) = (l.drop k).flatMap fieldC := by
  have h := congrArg (List.drop (k * 6)) (congrArg (List.flatMap fieldC) (List.take_append_drop k l))
  by_cases hk : k ≤ l.length
  · rw [List.flatMap_append, List.drop_append, flat_length (size := 6) (fun _ => rfl), List.length_take, Nat.min_eq_left hk, Nat.sub_self, List.drop_of_length_le (by rw [flat_length (size := 6) (fun _ => rfl), List.length_take]; omega)] at h
    simpa using h.symm
  · rw [List.drop_of_length_le (by rw [flat_length (size := 6) (fun _ => rfl)]; omega), List.drop_of_length_le (by omega)]
    rfl

theorem Lz0 {wz : World} {bz n k c : Nat} {A : Option Addr} {s : ByteArray} (h : k = n) (hb : Blk wz bz #[.string s, .slice A k c]) : Blk wz bz #[.string s, .slice A n c] := by rw [← h]; exact hb

theorem Lz1 {w0 wz : World} {n k k' c : Nat} {A : Option Addr} {xs ys : List Value} (h : k' = n) (hx : xs = ys) (ho : Own w0 wz 39 6 A k c xs) (hk : k = k' := by first | rfl | omega) : Own w0 wz 39 6 A n c ys := by rw [← h, ← hx, ← hk]; exact ho

theorem Blk.of_new (w : World) (t : TypeId) (cs : Array Value) {b : Nat} (hb : b = w.heap.size) : Blk (w.alloc (.cells cs t)) b cs := (BlkT.new w t cs hb).blk

theorem Blk.drew {w : World} {b : Nat} {cs : Array Value} (h : Blk w b cs) : Blk w.drew b cs := ⟨h.cell, h.free, h.lt⟩

theorem lens_take_le (l : List (List UInt8)) (k : Nat) : lens (l.take k) ≤ lens l := by
  have h := congrArg lens (List.take_append_drop k l)
  unfold lens at h ⊢
  rw [List.map_append, List.sum_append] at h
  omega

set_option maxRecDepth 100000 in
set_option maxHeartbeats 2000000 in
theorem viewSplit_main {s : ByteArray} {A B : Option Addr} {n c m d : Nat} {l : List FieldD} {bs : List UInt8} {x : Int} {w : World} (hf : FieldsAt w A n c l) (hb : BytesAt w B m d bs) (hp : -9223372036854775808 ≤ x ∧ x < 9223372036854775808)
    (hn : n ≤ 300) (hm : m ≤ 2000) {L : List ViewD} {P : Nat} (hv : viewsV l bs = (L, P, 0)) :
    Calls Try.prog 11 #[.agg #[.string s, .slice A n c], .slice B m d, .int .i64 x] w fun e w' => e = .returned (.bool true) ∧ Ext w w' := by
  have hmax := Reads.max hb
  have hcap := Reads.cap hb
  have hmax2 := Reads.max hf.1
  have hcap2 := Reads.cap hf.1
  unfold maxLen at hmax hmax2
  have hE := Ext.refl w
  have hn0 : ¬ (300 : Int) < n := by omega
  have hm0 : ¬ (2000 : Int) < m := by omega
  have hvb := viewsV_bd l bs
  rw [hv] at hvb
  rw [hb.length] at hvb
  simp only at hvb
  have hLl := hvb.2.1
  have hsum := viewsV_sum hv
  rw [hb.length] at hsum
  obtain ⟨L2, hv2, hu2⟩ := viewsV_left hv
  have hkl : (keptB bs knownP L).length ≤ 2000 := by omega
  have Hv := Lib.hid hv
  have Hv2 := Lib.hid hv2
  have Hsum := Lib.hid hsum
  have hul := unkB_length bs L
  have hul2 : (unkB bs L).length ≤ 2000 := by rw [hul]; have := List.length_filter_le unkP L; omega
  have Hu2 := Lib.hid hu2
  clear hv hvb hv2 hsum hul hu2
  go_enter Try.func11, Try.ntmps11
  go_wp2_with (first
    | (go_at_call 23; refine (alive10 _).mono ?_; rintro e w1 ⟨rfl, E1⟩; have BM := E1.new_blk; have X_ : Ext w w1 := Ext.trans (by repeat with_reducible (first | exact Ext.refl _ | refine Ext.alloc ?_ _ | refine Ext.drew ?_ | refine Ext.drewN ?_ _ | refine Ext.setCell ?_ (by first | exact Nat.le_refl _ | omega | (simp; done) | (simp; omega)) _)) E1; replace hf := hf.up X_; replace hb := hb.up X_; replace hE := hE.up X_; clear X_; have m0 : w1.cell? ⟨w.heap.size, 0, none⟩ = some (.string s) := BM.cell 0;  have m1 : w1.cell? ⟨w.heap.size, 1, none⟩ = some (.slice A n c) := BM.cell 1;  have ml := BM.lt)
    | (go_at_call 24; refine (lawWide).mono ?_; rintro e w2 ⟨rfl, E2⟩; have X_ : Ext w1 w2 := Ext.trans (by repeat with_reducible (first | exact Ext.refl _ | refine Ext.alloc ?_ _ | refine Ext.drew ?_ | refine Ext.drewN ?_ _ | refine Ext.setCell ?_ (by first | exact Nat.le_refl _ | omega | (simp; done) | (simp; omega)) _)) E2; replace hf := hf.up X_; replace hb := hb.up X_; replace hE := hE.up X_; replace BM := BM.up X_; clear X_; replace m0 : w2.cell? ⟨w.heap.size, 0, none⟩ = some (.string s) := BM.cell 0;  replace m1 : w2.cell? ⟨w.heap.size, 1, none⟩ = some (.slice A n c) := BM.cell 1;  replace ml := BM.lt)
    | (go_at_call 27; refine (vAllV hf (by omega) hb (by omega) Hv.out).mono ?_; rintro e w5 ⟨A5, c5, rfl, own5⟩; have X_ : Ext w2 w5 := Ext.trans (by repeat with_reducible (first | exact Ext.refl _ | refine Ext.alloc ?_ _ | refine Ext.drew ?_ | refine Ext.drewN ?_ _ | refine Ext.setCell ?_ (by first | exact Nat.le_refl _ | omega | (simp; done) | (simp; omega)) _)) own5.ext; replace hf := hf.up X_; replace hb := hb.up X_; replace hE := hE.up X_; replace BM := BM.up X_; clear X_; replace m0 : w5.cell? ⟨w.heap.size, 0, none⟩ = some (.string s) := BM.cell 0;  replace m1 : w5.cell? ⟨w.heap.size, 1, none⟩ = some (.slice A n c) := BM.cell 1;  replace ml := BM.lt)
    | (go_at_call 46; refine (vDrop hf (by omega) hb (by omega) Hv.out).mono ?_; rintro e w8 ⟨A8, c8, rfl, own8⟩; have X_ : Ext w5 w8 := Ext.trans (by repeat with_reducible (first | exact Ext.refl _ | refine Ext.alloc ?_ _ | refine Ext.drew ?_ | refine Ext.drewN ?_ _ | refine Ext.setCell ?_ (by first | exact Nat.le_refl _ | omega | (simp; done) | (simp; omega)) _)) own8.ext; replace hf := hf.up X_; replace hb := hb.up X_; replace hE := hE.up X_; replace BM := BM.up X_; clear X_; replace m0 : w8.cell? ⟨w.heap.size, 0, none⟩ = some (.string s) := BM.cell 0;  replace m1 : w8.cell? ⟨w.heap.size, 1, none⟩ = some (.slice A n c) := BM.cell 1;  replace ml := BM.lt)
    | (go_at_call 47; refine (vUnknown hf (by omega) hb (by omega) Hv.out).mono ?_; rintro e w7 ⟨A7, c7, vs7, rfl, own7, rows7⟩; have X_ : Ext w8 w7 := Ext.trans (by repeat with_reducible (first | exact Ext.refl _ | refine Ext.alloc ?_ _ | refine Ext.drew ?_ | refine Ext.drewN ?_ _ | refine Ext.setCell ?_ (by first | exact Nat.le_refl _ | omega | (simp; done) | (simp; omega)) _)) own7.ext; replace hf := hf.up X_; replace hb := hb.up X_; replace hE := hE.up X_; replace BM := BM.up X_; replace own8 := own8.up X_; clear X_; replace m0 : w7.cell? ⟨w.heap.size, 0, none⟩ = some (.string s) := BM.cell 0;  replace m1 : w7.cell? ⟨w.heap.size, 1, none⟩ = some (.slice A n c) := BM.cell 1;  replace ml := BM.lt))
  go_loopw [13, 14] (fun a i wr => ∃ k : Nat, k ≤ (unkB bs L).length ∧ i = .int .i64 k ∧ a = .int .i64 (((keptB bs knownP L).length + lens ((unkB bs L).take k) : Nat)) ∧ Ext w7 wr) (fun _ i _ => (unkB bs L).length - (intOf i).toNat)
  case atStart => exact ⟨0, Nat.zero_le _, rfl, by simp [lens], Ext.refl _⟩
  case round =>
    obtain ⟨k, hk, rfl, rfl, hW⟩ := hrel
    by_cases hlt : k < (unkB bs L).length
    · have hlt2 : (k : Int) < (unkB bs L).length := by omega
      obtain ⟨rw7, hrw⟩ : ∃ r, (unkB bs L)[k]? = some r := ⟨_, List.getElem?_eq_getElem hlt⟩
      obtain ⟨Ar, nr, cr, hvs, hrl, _⟩ := rows7.row k rw7 hrw
      obtain ⟨b7, off7, rfl, hb7, hc7⟩ := (own7.up hW).reads.at_ (by omega)
      have z7 := hc7 _ _ hvs
      have hsn := lens_snoc hrw
      have hls : lens ((unkB bs L).take (k + 1)) ≤ lens (unkB bs L) := lens_take_le _ _
      have hsb := Hsum.out
      have hnr : nr ≤ 2000 := by omega
      have hn1 : (keptB bs knownP L).length + lens ((unkB bs L).take k) ≤ 2000 := by omega
      have Hsn := Lib.hid hsn
      clear hrw hvs hc7 hsn hls hsb
      generalize hG : (keptB bs knownP L).length + lens ((unkB bs L).take k) = G at *
      have HG := Lib.hid hG
      have Hrl := Lib.hid hrl
      clear hG hrl
      go_wp2
      go_roundw
      case rel => exact ⟨k + 1, by omega, by go_num, by rw [Hsn.out, ← Nat.add_assoc, HG.out, Hrl.out]; go_num, hW⟩
      case measure => simp [intOf]; omega
    · have hkl : k = (unkB bs L).length := by omega
      have hG : (keptB bs knownP L).length + lens ((unkB bs L).take k) = m := by rw [hkl, List.take_length]; exact Hsum.out
      rw [hG]
      have BMr := BM.up hW
      replace m0 : wr.cell? ⟨w.heap.size, 0, none⟩ = some (.string s) := BMr.cell 0
      replace m1 : wr.cell? ⟨w.heap.size, 1, none⟩ = some (.slice A n c) := BMr.cell 1
      replace ml := BMr.lt
      have hfr := hf.up hW
      have hbr := hb.up hW
      have own8r := own8.up hW
      have hEr := hE.trans hW
      have Hkl := Lib.hid hkl
      have hu2' := Hu2.out
      generalize hU2 : (unkB (keptB bs knownP L) L2).length = U2 at *
      have HU2 := Lib.hid hU2
      clear hkl hG hU2
      subst hu2'
      by_cases hx : x < 0 ∨ (n : Int) ≤ x
      · rcases hx with hx | hx
        all_goals
          go_wp2_with (first
            | (go_at_call 47; refine (vUnknown hfr (by omega) own8r.bytes (by omega) Hv2.out).mono ?_; rintro e w9 ⟨A9, c9, vs9, rfl, own9, rows9⟩; rw [HU2.out]; have X_ : Ext wr w9 := Ext.trans (by repeat with_reducible (first | exact Ext.refl _ | refine Ext.alloc ?_ _ | refine Ext.drew ?_ | refine Ext.drewN ?_ _ | refine Ext.setCell ?_ (by first | exact Nat.le_refl _ | omega | (simp; done) | (simp; omega)) _)) own9.ext; replace hEr := hEr.up X_; replace BMr := BMr.up X_; clear X_; have m0' : w9.cell? ⟨w.heap.size, 0, none⟩ = some (.string s) := BMr.cell 0;  have m1' : w9.cell? ⟨w.heap.size, 1, none⟩ = some (.slice A n c) := BMr.cell 1;  have ml' := BMr.lt))
          go_ret
          exact ⟨rfl, hEr⟩
      · obtain ⟨a, rfl⟩ : ∃ a : Nat, x = (a : Int) := ⟨x.toNat, by omega⟩
        have han : a < n := by omega
        have hani : (a : Int) < n := by omega
        have hxa : ¬ (a : Int) < 0 := by omega
        go_wp2_with (first
          | (go_at_call 47; refine (vUnknown hfr (by omega) own8r.bytes (by omega) Hv2.out).mono ?_; rintro e w9 ⟨A9, c9, vs9, rfl, own9, rows9⟩; rw [HU2.out]; have X_ : Ext wr w9 := Ext.trans (by repeat with_reducible (first | exact Ext.refl _ | refine Ext.alloc ?_ _ | refine Ext.drew ?_ | refine Ext.drewN ?_ _ | refine Ext.setCell ?_ (by first | exact Nat.le_refl _ | omega | (simp; done) | (simp; omega)) _)) own9.ext; replace hEr := hEr.up X_; replace BMr := BMr.up X_; replace hfr := hfr.up X_; replace hbr := hbr.up X_; clear X_; replace m0 : w9.cell? ⟨w.heap.size, 0, none⟩ = some (.string s) := BMr.cell 0;  replace m1 : w9.cell? ⟨w.heap.size, 1, none⟩ = some (.slice A n c) := BMr.cell 1;  replace ml := BMr.lt))
        obtain ⟨A10, hc10, rd10⟩ := cut_to elemField hfr.1 .i64 (m := a) (by omega)
        obtain ⟨A11, hc11, rd11⟩ := cut_from elemField hfr.1 .i64 (l := a + 1) (by omega)
        rw [fields_take] at rd10
        rw [fields_drop] at rd11
        have hw1 : IntKind.i64.wrap ((a : Int) + 1) = (a : Int) + 1 := IntWalk.i64_in _ (by omega)
        rw [show (((a + 1 : Nat) : Int)) = (a : Int) + 1 from by omega] at hc11
        have ha1 : (0 : Int) ≤ (a : Int) + 1 := by omega
        have ha2 : (a : Int) + 1 ≤ n := by omega
        have ha3 : (a : Int) ≤ n := by omega
        have Hq := Lib.hid (show a + (n - (a + 1)) = n - 1 by omega)
        have Hfl := Lib.hid (show (l.take a).flatMap fieldC ++ (l.drop (a + 1)).flatMap fieldC = (l.eraseIdx a).flatMap fieldC by rw [← List.flatMap_append, ← List.eraseIdx_eq_take_drop_succ])
        go_cut [15] (fun t wz => ∃ bz A12 c12, t = .pointer (some ⟨bz, 0, none⟩) ∧ Blk wz bz #[.string s, .slice A12 (n - 1) c12] ∧ Own w9 wz 39 6 A12 (n - 1) c12 ((l.eraseIdx a).flatMap fieldC))
        case first =>
          go_region_held3 (fun W => Ext w9 W ∧ ∀ b o, b < w9.heap.size → W.cell? ⟨b, o, none⟩ = w9.cell? ⟨b, o, none⟩) ((refine Ext.keep ?_; repeat with_reducible (first | assumption | exact Ext.refl _ | refine Ext.alloc ?_ _ | refine Ext.drew ?_ | refine Ext.drewN ?_ _ | refine Ext.setCell ?_ (by first | exact Nat.le_refl _ | omega | (simp; done) | (simp; omega)) _)))
            (first
              | (go_split_ands; (with_reducible refine at_world (World.drew (World.alloc w9 (.cells #[] 39))) ?_); refine step_more elemField (by rfl) (.tmp 93) (.tmp 97) (by rfl) (by rfl) ((Own.empty (Ext.refl w9) 39 6).drew) (by rfl) (rd10.up (Ext.drew (Ext.alloc (Ext.refl _) _))) (fieldC_one _) (by omega) (by unfold maxLen; omega) ?_; intro A12 c12 w12 own12 g12; rw [List.nil_append, Nat.zero_add] at own12; rw [Nat.zero_add]; have Q12 : Ext w9 w12 := own12.ext; have s12 := Q12.size)
              | (go_split_ands; (with_reducible refine at_world (World.drew (World.alloc (World.alloc w9 (.cells #[.string ⟨#[]⟩, .slice none 0 0] 37)) (.cells #[] 39))) ?_); refine step_more elemField (by rfl) (.tmp 93) (.tmp 97) (by rfl) (by rfl) ((Own.emptyAt (Ext.alloc (Ext.refl w9) (.cells #[.string ⟨#[]⟩, .slice none 0 0] 37)) 39 6 (b := w9.heap.size + 1) (by simp)).drew) (by rfl) (rd10.up (Ext.drew (Ext.alloc (Ext.alloc (Ext.refl _) _) _))) (fieldC_one _) (by omega) (by unfold maxLen; omega) ?_; intro A12 c12 w12 own12 g12; rw [List.nil_append, Nat.zero_add] at own12; rw [Nat.zero_add]; have Q12 : Ext w9 w12 := own12.ext; have s12 := Q12.size; have Z12 := BlkT.beside ((BlkT.new w9 37 #[.string ⟨#[]⟩, .slice none 0 0] rfl).alloc (.cells #[] 39)).drew (Own.emptyAt (Ext.alloc (Ext.refl w9) (.cells #[.string ⟨#[]⟩, .slice none 0 0] 37)) 39 6 (b := w9.heap.size + 1) (by simp)).drew (by decide) g12)
              | (go_split_ands; (with_reducible refine at_world (World.drew (World.alloc (World.alloc w9 (.cells #[] 39)) (.cells #[.string ⟨#[]⟩, .slice none 0 0] 37))) ?_); refine step_more elemField (by rfl) (.tmp 93) (.tmp 97) (by rfl) (by rfl) (((Own.empty (Ext.refl w9) 39 6).alloc (.cells #[.string ⟨#[]⟩, .slice none 0 0] 37)).drew) (by rfl) (rd10.up (Ext.drew (Ext.alloc (Ext.alloc (Ext.refl _) _) _))) (fieldC_one _) (by omega) (by unfold maxLen; omega) ?_; intro A12 c12 w12 own12 g12; rw [List.nil_append, Nat.zero_add] at own12; rw [Nat.zero_add]; have Q12 : Ext w9 w12 := own12.ext; have s12 := Q12.size; have Z12 := BlkT.beside (BlkT.new (w9.alloc (.cells #[] 39)) 37 #[.string ⟨#[]⟩, .slice none 0 0] (b := w9.heap.size + 1) (by simp)).drew ((Own.empty (Ext.refl w9) 39 6).alloc (.cells #[.string ⟨#[]⟩, .slice none 0 0] 37)).drew (by decide) g12)
              | (have Z12_ := Z12; clear Z12_; go_split_ands; (with_reducible refine at_world (World.drew (w12)) ?_); refine step_more elemField (by rfl) (.tmp 98) (.tmp 103) (by rfl) (by rfl) (own12.drew) (by rfl) (rd11.up (Ext.drew (Q12))) (fieldC_one _) (by omega) (by unfold maxLen; omega) ?_; intro A13 c13 w13 own13 g13; have Q13 : Ext w9 w13 := own13.ext; have s13 := Q13.size; have Z13 := BlkT.beside Z12.drew own12.drew (by decide) g13; have z0 := Z13.cell 0; have z1 := Z13.cell 1; have y0 := Z13.free 0; have y1 := Z13.free 1)
              | (go_split_ands; (with_reducible refine at_world (World.drew (w12)) ?_); refine step_more elemField (by rfl) (.tmp 98) (.tmp 103) (by rfl) (by rfl) (own12.drew) (by rfl) (rd11.up (Ext.drew (Q12))) (fieldC_one _) (by omega) (by unfold maxLen; omega) ?_; intro A13 c13 w13 own13 g13; have Q13 : Ext w9 w13 := own13.ext; have s13 := Q13.size)
              | (go_split_ands; (with_reducible refine at_world (World.drew (World.alloc w12 (.cells #[.string ⟨#[]⟩, .slice none 0 0] 37))) ?_); refine step_more elemField (by rfl) (.tmp 98) (.tmp 103) (by rfl) (by rfl) ((own12.alloc (.cells #[.string ⟨#[]⟩, .slice none 0 0] 37)).drew) (by rfl) (rd11.up (Ext.drew (Ext.alloc Q12 _))) (fieldC_one _) (by omega) (by unfold maxLen; omega) ?_; intro A13 c13 w13 own13 g13; have Q13 : Ext w9 w13 := own13.ext; have s13 := Q13.size; have Z13 := BlkT.beside (BlkT.new w12 37 #[.string ⟨#[]⟩, .slice none 0 0] rfl).drew (own12.alloc (.cells #[.string ⟨#[]⟩, .slice none 0 0] 37)).drew (by decide) g13; have z0 := Z13.cell 0; have z1 := Z13.cell 1; have y0 := Z13.free 0; have y1 := Z13.free 1)
              | (go_split_ands; (with_reducible refine at_world (World.alloc w9 (.cells #[] 39)) ?_); refine step_more elemField (by rfl) (.tmp 93) (.tmp 97) (by rfl) (by rfl) ((Own.empty (Ext.refl w9) 39 6)) (by rfl) (rd10.up (Ext.alloc (Ext.refl _) _)) (fieldC_one _) (by omega) (by unfold maxLen; omega) ?_; intro A12 c12 w12 own12 g12; rw [List.nil_append, Nat.zero_add] at own12; rw [Nat.zero_add]; have Q12 : Ext w9 w12 := own12.ext; have s12 := Q12.size)
              | (go_split_ands; (with_reducible refine at_world (World.alloc (World.alloc w9 (.cells #[.string ⟨#[]⟩, .slice none 0 0] 37)) (.cells #[] 39)) ?_); refine step_more elemField (by rfl) (.tmp 93) (.tmp 97) (by rfl) (by rfl) ((Own.emptyAt (Ext.alloc (Ext.refl w9) (.cells #[.string ⟨#[]⟩, .slice none 0 0] 37)) 39 6 (b := w9.heap.size + 1) (by simp))) (by rfl) (rd10.up (Ext.alloc (Ext.alloc (Ext.refl _) _) _)) (fieldC_one _) (by omega) (by unfold maxLen; omega) ?_; intro A12 c12 w12 own12 g12; rw [List.nil_append, Nat.zero_add] at own12; rw [Nat.zero_add]; have Q12 : Ext w9 w12 := own12.ext; have s12 := Q12.size; have Z12 := BlkT.beside ((BlkT.new w9 37 #[.string ⟨#[]⟩, .slice none 0 0] rfl).alloc (.cells #[] 39)) (Own.emptyAt (Ext.alloc (Ext.refl w9) (.cells #[.string ⟨#[]⟩, .slice none 0 0] 37)) 39 6 (b := w9.heap.size + 1) (by simp)) (by decide) g12)
              | (go_split_ands; (with_reducible refine at_world (World.alloc (World.alloc w9 (.cells #[] 39)) (.cells #[.string ⟨#[]⟩, .slice none 0 0] 37)) ?_); refine step_more elemField (by rfl) (.tmp 93) (.tmp 97) (by rfl) (by rfl) (((Own.empty (Ext.refl w9) 39 6).alloc (.cells #[.string ⟨#[]⟩, .slice none 0 0] 37))) (by rfl) (rd10.up (Ext.alloc (Ext.alloc (Ext.refl _) _) _)) (fieldC_one _) (by omega) (by unfold maxLen; omega) ?_; intro A12 c12 w12 own12 g12; rw [List.nil_append, Nat.zero_add] at own12; rw [Nat.zero_add]; have Q12 : Ext w9 w12 := own12.ext; have s12 := Q12.size; have Z12 := BlkT.beside (BlkT.new (w9.alloc (.cells #[] 39)) 37 #[.string ⟨#[]⟩, .slice none 0 0] (b := w9.heap.size + 1) (by simp)) ((Own.empty (Ext.refl w9) 39 6).alloc (.cells #[.string ⟨#[]⟩, .slice none 0 0] 37)) (by decide) g12)
              | (have Z12_ := Z12; clear Z12_; go_split_ands; (with_reducible refine at_world (w12) ?_); refine step_more elemField (by rfl) (.tmp 98) (.tmp 103) (by rfl) (by rfl) (own12) (by rfl) (rd11.up (Q12)) (fieldC_one _) (by omega) (by unfold maxLen; omega) ?_; intro A13 c13 w13 own13 g13; have Q13 : Ext w9 w13 := own13.ext; have s13 := Q13.size; have Z13 := BlkT.beside Z12 own12 (by decide) g13; have z0 := Z13.cell 0; have z1 := Z13.cell 1; have y0 := Z13.free 0; have y1 := Z13.free 1)
              | (go_split_ands; (with_reducible refine at_world (w12) ?_); refine step_more elemField (by rfl) (.tmp 98) (.tmp 103) (by rfl) (by rfl) (own12) (by rfl) (rd11.up (Q12)) (fieldC_one _) (by omega) (by unfold maxLen; omega) ?_; intro A13 c13 w13 own13 g13; have Q13 : Ext w9 w13 := own13.ext; have s13 := Q13.size)
              | (go_split_ands; (with_reducible refine at_world (World.alloc w12 (.cells #[.string ⟨#[]⟩, .slice none 0 0] 37)) ?_); refine step_more elemField (by rfl) (.tmp 98) (.tmp 103) (by rfl) (by rfl) ((own12.alloc (.cells #[.string ⟨#[]⟩, .slice none 0 0] 37))) (by rfl) (rd11.up (Ext.alloc Q12 _)) (fieldC_one _) (by omega) (by unfold maxLen; omega) ?_; intro A13 c13 w13 own13 g13; have Q13 : Ext w9 w13 := own13.ext; have s13 := Q13.size; have Z13 := BlkT.beside (BlkT.new w12 37 #[.string ⟨#[]⟩, .slice none 0 0] rfl) (own12.alloc (.cells #[.string ⟨#[]⟩, .slice none 0 0] 37)) (by decide) g13; have z0 := Z13.cell 0; have z1 := Z13.cell 1; have y0 := Z13.free 0; have y1 := Z13.free 1))
          all_goals
            go_wp2_with fail
            go_meet
            first
              | exact ⟨_, _, _, rfl, Lz0 Hq.out (Blk.of_new _ _ _ rfl), Lz1 Hq.out Hfl.out (own13.alloc _)⟩
              | exact ⟨_, _, _, rfl, Lz0 Hq.out (Blk.of_new _ _ _ rfl).drew, Lz1 Hq.out Hfl.out (own13.alloc _).drew⟩
              | exact ⟨_, _, _, rfl, Lz0 Hq.out ((Z13.set_ 0 _).set_ 1 _).blk, Lz1 Hq.out Hfl.out ((own13.far Z13 (by decide) (by omega) 0 _).far (Z13.set_ 0 _) (by decide) (by omega) 1 _)⟩
              | exact ⟨_, _, _, rfl, Lz0 Hq.out ((Z13.set_ 0 _).set_ 1 _).drew.blk, Lz1 Hq.out Hfl.out ((own13.far Z13 (by decide) (by omega) 0 _).far (Z13.set_ 0 _) (by decide) (by omega) 1 _).drew⟩
        case rest =>
          obtain ⟨bz, A12, c12, rfl, Bz, ownz⟩ := hcut
          have X9 := ownz.ext
          have BMc := BMr.up X9
          replace m0 : wc.cell? ⟨w.heap.size, 0, none⟩ = some (.string s) := BMc.cell 0
          replace m1 : wc.cell? ⟨w.heap.size, 1, none⟩ = some (.slice A n c) := BMc.cell 1
          replace ml := BMc.lt
          have n0 : wc.cell? ⟨bz, 0, none⟩ = some (.string s) := Bz.cell 0
          have n1 : wc.cell? ⟨bz, 1, none⟩ = some (.slice A12 (n - 1) c12) := Bz.cell 1
          have nl := Bz.lt
          have hfc := hfr.up X9
          have hbc := hbr.up X9
          have hEc := hEr.trans X9
          have hfl : FieldsAt wc A12 (n - 1) c12 (l.eraseIdx a) := ⟨ownz.reads, fun f hf => hfc.2 f (List.mem_of_mem_eraseIdx hf)⟩
          obtain ⟨bf, of_, f, rfl, hfa, hok, hbf, d0, d1, d2, d3, d4, d5⟩ := hfc.field han
          by_cases hI : idxB (numP f.number) (l.eraseIdx a) = -1
          · have hless := viewsV_less (l := l) (bs := bs) hfa hI Hv.out
            obtain ⟨L3, hv3, e1, e2, e3⟩ := hless
            have hI2 := Lib.hid hI
            have Hv3 := Lib.hid hv3
            have H1 := Lib.hid e1
            have H2 := Lib.hid e2
            have H3 := Lib.hid e3
            have hL3 : L3.length ≤ m := by omega
            have hof := List.length_filter_le (ofP f.number) L
            obtain ⟨fn, fnum, fk, fr, fp, fo⟩ := f
            simp only at d0 d1 d2 d3 d4 d5 hI2 H2 H3 hof
            clear hI hv3 e1 e2 e3 hok hfa
            generalize hN : (L.filter (ofP fnum)).length = N at *
            have HN := Lib.hid hN
            clear hN
            have hwz : IntKind.i64.wrap (((unkB bs L).length : Int) + (N : Int)) = ((unkB bs L).length : Int) + (N : Int) := IntWalk.i64_in _ (by omega)
            go_wp2_with (first
              | (go_at_call 48; refine (rFieldE hfl (by omega) hI2.out).mono ?_; rintro e w12 ⟨rfl, E1⟩; have X_ : Ext wc w12 := Ext.trans (by repeat with_reducible (first | exact Ext.refl _ | refine Ext.alloc ?_ _ | refine Ext.drew ?_ | refine Ext.drewN ?_ _ | refine Ext.setCell ?_ (by first | exact Nat.le_refl _ | omega | (simp; done) | (simp; omega)) _)) E1; replace hEc := hEc.up X_; replace hfl := hfl.up X_; replace hbc := hbc.up X_; replace hfc := hfc.up X_; replace BMc := BMc.up X_; replace Bz := Bz.up X_; clear X_; replace m0 : w12.cell? ⟨w.heap.size, 0, none⟩ = some (.string s) := BMc.cell 0;  replace m1 : w12.cell? ⟨w.heap.size, 1, none⟩ = some (.slice (some ⟨bf, of_, none⟩) n c) := BMc.cell 1;  replace ml := BMc.lt;  replace n0 : w12.cell? ⟨bz, 0, none⟩ = some (.string s) := Bz.cell 0;  replace n1 : w12.cell? ⟨bz, 1, none⟩ = some (.slice A12 (n - 1) c12) := Bz.cell 1;  replace nl := Bz.lt)
              | (go_at_call 27; refine (vAllV hfl (by omega) hbc (by omega) Hv3.out).mono ?_; rintro e w13 ⟨A13, c13, rfl, own13⟩; rw [H1.out]; have X_ : Ext w12 w13 := Ext.trans (by repeat with_reducible (first | exact Ext.refl _ | refine Ext.alloc ?_ _ | refine Ext.drew ?_ | refine Ext.drewN ?_ _ | refine Ext.setCell ?_ (by first | exact Nat.le_refl _ | omega | (simp; done) | (simp; omega)) _)) own13.ext; replace hEc := hEc.up X_; replace hfl := hfl.up X_; replace hbc := hbc.up X_; replace hfc := hfc.up X_; replace BMc := BMc.up X_; replace Bz := Bz.up X_; clear X_; replace m0 : w13.cell? ⟨w.heap.size, 0, none⟩ = some (.string s) := BMc.cell 0;  replace m1 : w13.cell? ⟨w.heap.size, 1, none⟩ = some (.slice (some ⟨bf, of_, none⟩) n c) := BMc.cell 1;  replace ml := BMc.lt;  replace n0 : w13.cell? ⟨bz, 0, none⟩ = some (.string s) := Bz.cell 0;  replace n1 : w13.cell? ⟨bz, 1, none⟩ = some (.slice A12 (n - 1) c12) := Bz.cell 1;  replace nl := Bz.lt))
            generalize hU3 : (unkB bs L3).length = U3 at *
            have HU3 := Lib.hid hU3
            have hq3 : ((U3 : Int) == ((unkB bs L).length : Int) + (N : Int)) = true := by rw [H3.out]; simp
            clear hU3
            go_region_held3 (fun W => Ext w13 W ∧ ∀ b o, b < w13.heap.size → W.cell? ⟨b, o, none⟩ = w13.cell? ⟨b, o, none⟩) ((refine Ext.keep ?_; repeat with_reducible (first | assumption | exact Ext.refl _ | refine Ext.alloc ?_ _ | refine Ext.drew ?_ | refine Ext.drewN ?_ _ | refine Ext.setCell ?_ (by first | exact Nat.le_refl _ | omega | (simp; done) | (simp; omega)) _)))
              (first
                | (go_split_ands; go_at_call 49; (with_reducible refine (vOf (hfl.up (by with_reducible assumption)) (by omega) (hbc.up (by with_reducible assumption)) (by omega) Hv3.out).mono ?_); rintro e w14 ⟨A14, c14, rfl, own14⟩; rw [H2.out]; have q14 : Ext w13 w14 := Ext.trans (by with_reducible assumption) own14.ext)
                | (go_split_ands; go_at_call 49; (with_reducible refine (vOf (hfc.up (by with_reducible assumption)) (by omega) (hbc.up (by with_reducible assumption)) (by omega) Hv.out).mono ?_); rintro e w15 ⟨A15, c15, rfl, own15⟩; rw [HN.out]; have q15 : Ext w13 w15 := Ext.trans (by with_reducible assumption) own15.ext)
                | (go_split_ands; go_at_call 47; (with_reducible refine (vUnknown (hfl.up (by with_reducible assumption)) (by omega) (hbc.up (by with_reducible assumption)) (by omega) Hv3.out).mono ?_); rintro e w16 ⟨A16, c16, vs16, rfl, own16, rows16⟩; rw [HU3.out]; have q16 : Ext w13 w16 := Ext.trans (by with_reducible assumption) own16.ext))
            all_goals
              go_wp2_with fail
              go_ret
              exact ⟨rfl, hEc.trans (by with_reducible assumption)⟩
          · have hI3 : 0 ≤ idxB (numP f.number) (l.eraseIdx a) := by have := (idxB_bd (numP f.number) (l.eraseIdx a)).1; omega
            obtain ⟨fn, fnum, fk, fr, fp, fo⟩ := f
            simp only at d0 d1 d2 d3 d4 d5 hI3
            clear hI hok hfa
            generalize hJ : idxB (numP fnum) (l.eraseIdx a) = J at *
            have HJ := Lib.hid hJ
            clear hJ
            go_wp2_with (first
              | (go_at_call 48; refine (rFieldE hfl (by omega) HJ.out).mono ?_; rintro e w12 ⟨rfl, E1⟩; have X_ : Ext wc w12 := Ext.trans (by repeat with_reducible (first | exact Ext.refl _ | refine Ext.alloc ?_ _ | refine Ext.drew ?_ | refine Ext.drewN ?_ _ | refine Ext.setCell ?_ (by first | exact Nat.le_refl _ | omega | (simp; done) | (simp; omega)) _)) E1; replace hEc := hEc.up X_; clear X_))
            go_ret
            exact ⟨rfl, hEc⟩

set_option maxRecDepth 100000 in
set_option maxHeartbeats 1000000 in
theorem viewSplit_walk {s : ByteArray} {A B : Option Addr} {n c m d : Nat} {l : List FieldD} {bs : List UInt8} {x : Int} {w : World} (hf : FieldsAt w A n c l) (hb : BytesAt w B m d bs) (hp : -9223372036854775808 ≤ x ∧ x < 9223372036854775808) :
    Calls Try.prog 11 #[.agg #[.string s, .slice A n c], .slice B m d, .int .i64 x] w fun e w' => e = .returned (.bool true) ∧ Ext w w' := by
  have hmax := Reads.max hb
  have hcap := Reads.cap hb
  have hmax2 := Reads.max hf.1
  have hcap2 := Reads.cap hf.1
  unfold maxLen at hmax hmax2
  have hE := Ext.refl w
  by_cases hn : (300 : Int) < n
  · go_enter Try.func11, Try.ntmps11
    go_wp2_with (first | (go_at_call 23; refine (alive10 _).mono ?_; rintro e w1 ⟨rfl, E1⟩; have BM := E1.new_blk; have X_ : Ext w w1 := Ext.trans (by repeat with_reducible (first | exact Ext.refl _ | refine Ext.alloc ?_ _ | refine Ext.drew ?_ | refine Ext.drewN ?_ _ | refine Ext.setCell ?_ (by first | exact Nat.le_refl _ | omega | (simp; done) | (simp; omega)) _)) E1; replace hf := hf.up X_; replace hb := hb.up X_; replace hE := hE.up X_; clear X_; have m0 : w1.cell? ⟨w.heap.size, 0, none⟩ = some (.string s) := BM.cell 0;  have m1 : w1.cell? ⟨w.heap.size, 1, none⟩ = some (.slice A n c) := BM.cell 1;  have ml := BM.lt) | (go_at_call 24; refine (lawWide).mono ?_; rintro e w2 ⟨rfl, E2⟩; have X_ : Ext w1 w2 := Ext.trans (by repeat with_reducible (first | exact Ext.refl _ | refine Ext.alloc ?_ _ | refine Ext.drew ?_ | refine Ext.drewN ?_ _ | refine Ext.setCell ?_ (by first | exact Nat.le_refl _ | omega | (simp; done) | (simp; omega)) _)) E2; replace hE := hE.up X_; clear X_))
    go_ret
    exact ⟨rfl, hE⟩
  · by_cases hm : (2000 : Int) < m
    · go_enter Try.func11, Try.ntmps11
      go_wp2_with (first | (go_at_call 23; refine (alive10 _).mono ?_; rintro e w1 ⟨rfl, E1⟩; have BM := E1.new_blk; have X_ : Ext w w1 := Ext.trans (by repeat with_reducible (first | exact Ext.refl _ | refine Ext.alloc ?_ _ | refine Ext.drew ?_ | refine Ext.drewN ?_ _ | refine Ext.setCell ?_ (by first | exact Nat.le_refl _ | omega | (simp; done) | (simp; omega)) _)) E1; replace hf := hf.up X_; replace hb := hb.up X_; replace hE := hE.up X_; clear X_; have m0 : w1.cell? ⟨w.heap.size, 0, none⟩ = some (.string s) := BM.cell 0;  have m1 : w1.cell? ⟨w.heap.size, 1, none⟩ = some (.slice A n c) := BM.cell 1;  have ml := BM.lt) | (go_at_call 24; refine (lawWide).mono ?_; rintro e w2 ⟨rfl, E2⟩; have X_ : Ext w1 w2 := Ext.trans (by repeat with_reducible (first | exact Ext.refl _ | refine Ext.alloc ?_ _ | refine Ext.drew ?_ | refine Ext.drewN ?_ _ | refine Ext.setCell ?_ (by first | exact Nat.le_refl _ | omega | (simp; done) | (simp; omega)) _)) E2; replace hE := hE.up X_; clear X_))
      go_ret
      exact ⟨rfl, hE⟩
    · rcases hv : viewsV l bs with ⟨L, P, D⟩
      have hD := viewsV_le l bs
      have hvb := viewsV_bd l bs
      rw [hv] at hD hvb
      rw [hb.length] at hvb
      simp only at hD hvb
      by_cases hD0 : D = 0
      · subst hD0
        exact viewSplit_main hf hb hp (by omega) (by omega) hv
      · have hq : ((D : Int) != 0) = true := by rw [bne_iff_ne]; omega
        have hL0 : L = [] := hvb.2.2.1 hD0
        subst hL0
        have hPm := hvb.1
        have Hv := Lib.hid hv
        clear hv hvb hD0
        go_enter Try.func11, Try.ntmps11
        go_wp2_with (first
          | (go_at_call 23; refine (alive10 _).mono ?_; rintro e w1 ⟨rfl, E1⟩; have BM := E1.new_blk; have X_ : Ext w w1 := Ext.trans (by repeat with_reducible (first | exact Ext.refl _ | refine Ext.alloc ?_ _ | refine Ext.drew ?_ | refine Ext.drewN ?_ _ | refine Ext.setCell ?_ (by first | exact Nat.le_refl _ | omega | (simp; done) | (simp; omega)) _)) E1; replace hf := hf.up X_; replace hb := hb.up X_; replace hE := hE.up X_; clear X_; have m0 : w1.cell? ⟨w.heap.size, 0, none⟩ = some (.string s) := BM.cell 0;  have m1 : w1.cell? ⟨w.heap.size, 1, none⟩ = some (.slice A n c) := BM.cell 1;  have ml := BM.lt)
          | (go_at_call 24; refine (lawWide).mono ?_; rintro e w2 ⟨rfl, E2⟩; have X_ : Ext w1 w2 := Ext.trans (by repeat with_reducible (first | exact Ext.refl _ | refine Ext.alloc ?_ _ | refine Ext.drew ?_ | refine Ext.drewN ?_ _ | refine Ext.setCell ?_ (by first | exact Nat.le_refl _ | omega | (simp; done) | (simp; omega)) _)) E2; replace hf := hf.up X_; replace hb := hb.up X_; replace hE := hE.up X_; replace BM := BM.up X_; clear X_; replace m0 : w2.cell? ⟨w.heap.size, 0, none⟩ = some (.string s) := BM.cell 0;  replace m1 : w2.cell? ⟨w.heap.size, 1, none⟩ = some (.slice A n c) := BM.cell 1;  replace ml := BM.lt)
          | (go_at_call 27; refine (vAllV hf (by omega) hb (by omega) Hv.out).mono ?_; rintro e w5 ⟨A5, c5, rfl, own5⟩; have X_ : Ext w2 w5 := Ext.trans (by repeat with_reducible (first | exact Ext.refl _ | refine Ext.alloc ?_ _ | refine Ext.drew ?_ | refine Ext.drewN ?_ _ | refine Ext.setCell ?_ (by first | exact Nat.le_refl _ | omega | (simp; done) | (simp; omega)) _)) own5.ext; replace hE := hE.up X_; clear X_))
        go_ret
        exact ⟨rfl, hE⟩

end Go.Proofs.Ytlmmlmmadgcmcaa
