/- Contracts of layer 17: the reference's count of records that play no part. -/
import Derived.Test.YtpgbhgimjpbhoaaW17b
namespace Go.Proofs.Ytpgbhgimjpbhoaa
open Go.RowKit
set_option linter.unusedVariables false

/-- Do these records have the number of this one? -/
def metB (K : List ViewD) (v : ViewD) : Bool := K.any fun u => u.r.n == v.r.n

theorem overP_ref {fs : List FieldD} {K : List ViewD} {v : ViewD} (h : v.field = -1 ∨ ∃ k f, v.field = (k : Nat) ∧ fs[k]? = some f ∧ f.number = (v.r.n : Int)) :
    overP fs K v = (decide (0 ≤ v.field) && metB K v && match (if v.field < 0 then none else fs[v.field.toNat]?) with | none => false | some f => !f.rep && f.kind != 17) := by
  rcases h with h | ⟨k, f, h, hf, hn⟩
  · rw [overP_no (by omega), h]
    rfl
  · rw [overP_at h hf, h, hn]
    have hm : decide ((0 : Int) < (K.filter (ofP (v.r.n : Int))).length) = metB K v := by
      unfold metB
      rw [Bool.eq_iff_iff, decide_eq_true_iff, List.any_eq_true]
      constructor
      · intro hp
        obtain ⟨u, hu⟩ := List.exists_mem_of_length_pos (show 0 < (K.filter (ofP (v.r.n : Int))).length by omega)
        rw [List.mem_filter] at hu
        refine ⟨u, hu.1, ?_⟩
        have := hu.2
        unfold ofP at this
        simp only [beq_iff_eq] at this ⊢
        omega
      · rintro ⟨u, hu, he⟩
        have : u ∈ K.filter (ofP (v.r.n : Int)) := by
          rw [List.mem_filter]
          refine ⟨hu, ?_⟩
          unfold ofP
          simp only [beq_iff_eq] at he ⊢
          omega
        have := List.length_pos_of_mem this
        omega
    rw [hm]
    have hk : ¬ ((k : Int) < 0) := by omega
    simp only [if_neg hk, Int.toNat_natCast, hf]
    rw [show decide ((0 : Int) ≤ (k : Int)) = true by simp]
    cases metB K v <;> simp

theorem metB_snoc {K : List ViewD} {j : Nat} {u v : ViewD} (h : K[j]? = some u) : metB (K.take (j + 1)) v = (metB (K.take j) v || u.r.n == v.r.n) := by
  unfold metB
  rw [List.take_add_one, h]
  simp

set_option maxRecDepth 100000 in
set_option maxHeartbeats 2000000 in
theorem mOverR {A B C : Option Addr} {n c n' c' m' d' m : Nat} {S : List MsgV} {M : MsgV} {xs ys : List UInt8} {w : World} (hs : SchemaAt w A n c S) (ha : BytesAt w B n' c' xs) (hb : BytesAt w C m' d' ys) (hl : n' + m' ≤ 1000000000) (hM : S[m]? = some M) (hM200 : M.n ≤ 1000000000000) :
    Calls Try.prog 37 #[.slice A n c, .int .i64 (m : Int), .slice B n' c', .slice C m' d'] w fun e w' => e = .returned (.int .i64 (((viewsV M.d.fields xs).1.filter (overP M.d.fields (viewsV M.d.fields ys).1)).length : Nat)) ∧ Ext w w' := by
  have hmn : m < n := by rw [← hs.length]; exact (List.getElem?_eq_some_iff.1 hM).1
  obtain ⟨b1, off1, M', rfl, hM', hfl, hnm, hb1, m0, m1⟩ := hs.msg hmn
  rw [hM] at hM'
  cases hM'
  rcases hx : viewsV M.d.fields xs with ⟨L, P, K⟩
  rcases hy : viewsV M.d.fields ys with ⟨L2, P2, K2⟩
  have hLl : L.length ≤ n' := by have := (viewsV_bd M.d.fields xs).2.1; rw [hx, ha.length] at this; exact this
  have hLl2 : L2.length ≤ m' := by have := (viewsV_bd M.d.fields ys).2.1; rw [hy, hb.length] at this; exact this
  have hLf : ∀ v ∈ L, v.field = -1 ∨ ∃ k f, v.field = (k : Nat) ∧ M.d.fields[k]? = some f ∧ f.number = (v.r.n : Int) := fun v hv => views_field (bs := xs) (by rw [hx]; exact hv)
  have hva := fun (W : World) (h1 : FieldsAt W M.A M.n M.c M.d.fields) (h2 : BytesAt W B n' c' xs) => vAllVR (s := M.d.name) h1 hM200 h2 (by omega) hx
  have hvb := fun (W : World) (h1 : FieldsAt W M.A M.n M.c M.d.fields) (h2 : BytesAt W C m' d' ys) => vAllVR (s := M.d.name) h1 hM200 h2 (by omega) hy
  have Hva := Lib.hid hva
  have Hvb := Lib.hid hvb
  have HLf := Lib.hid hLf
  have Hm0 := Lib.hid m0
  have Hm1 := Lib.hid m1
  have Hfl := Lib.hid hfl
  have Hx := Lib.hid hx
  have Hy := Lib.hid hy
  have hmi : (m : Int) < n := by omega
  clear hva hvb hLf hx hy m0 m1 hfl hM
  go_enter Try.func37, Try.ntmps37
  have k0 := Hm0.out
  have k1 := Hm1.out
  go_wp2_with (first | ((with_reducible go_at_call 68); ((with_reducible refine (Hva.out _ Hfl.out ha).mono ?_); rintro e w1 ⟨A2, c2, rfl, own1⟩; have k0 := own1.ext.of_cell Hm0.out; have k1 := own1.ext.of_cell Hm1.out; have hb1w := Nat.lt_of_lt_of_le hb1 own1.ext.size)) | (go_at_call 68; refine (Hvb.out _ (Hfl.out.up own1.ext) (hb.up own1.ext)).mono ?_; rintro e w2 ⟨A3, c3, rfl, own2⟩))
  have E2 : Ext w w2 := own1.ext.trans own2.ext
  have ow1 := own1.reads.ext own2.ext
  have ow2 := own2.reads
  go_loopw [15, 16] (fun u i wr => ∃ k : Nat, k ≤ L.length ∧ i = .int .i64 (k : Int) ∧ u = .int .i64 (((L.take k).filter (overP M.d.fields L2)).length : Int) ∧ Ext w2 wr) (fun _ i _ => L.length - (intOf i).toNat)
  case atStart => exact ⟨0, Nat.zero_le _, rfl, by simp, Ext.refl _⟩
  case round =>
    obtain ⟨k, hk, rfl, rfl, hE⟩ := hrel
    have hcnt : ((L.take k).filter (overP M.d.fields L2)).length ≤ L.length := by
      have h1 := List.length_filter_le (overP M.d.fields L2) (L.take k)
      rw [List.length_take] at h1
      omega
    have hcnti : (((L.take k).filter (overP M.d.fields L2)).length : Int) ≤ 1000000000 := by omega
    by_cases hlt : k < L.length
    · have hlti : (k : Int) < L.length := by omega
      obtain ⟨wo, hwo⟩ : ∃ wo : World, wo = wr := ⟨_, rfl⟩
      rw [← hwo] at hE ⊢
      clear hwo
      obtain ⟨b3, off3, v, hA3, hv, hb3, g0, g1, g2, g3, g4, g5, g6⟩ := Reads.view' (ow1.ext hE) hlt
      subst hA3
      have ow2o := ow2.ext hE
      have hlf := HLf.out v (List.mem_of_getElem? hv)
      have hF := take_filter (p := overP M.d.fields L2) hv
      rw [overP_ref hlf] at hF
      generalize hcx : ((L.take k).filter (overP M.d.fields L2)).length = cx at *
      have Hcx := Lib.hid hcx
      have HF0 := Lib.hid hF
      have Hv := Lib.hid hv
      have Hlf := Lib.hid hlf
      clear hF hv hcx hlf g1 g2 g3 g4 g6
      go_wp2
      go_loopw [17, 18] (fun u i wq => ∃ j : Nat, j ≤ L2.length ∧ i = .int .i64 (j : Int) ∧ u = .bool (metB (L2.take j) v) ∧ Ext wo wq) (fun _ i _ => L2.length - (intOf i).toNat)
      case atStart => exact ⟨0, Nat.zero_le _, rfl, by simp [metB], Ext.refl _⟩
      case round =>
        rename World => wq
        obtain ⟨j, hj, rfl, rfl, hEq⟩ := hrel
        have y0 := hEq.of_cell g0
        have y5 := hEq.of_cell g5
        have hb3q := Nat.lt_of_lt_of_le hb3 hEq.size
        by_cases hltj : j < L2.length
        · have hltji : (j : Int) < L2.length := by omega
          obtain ⟨b4, off4, u, rfl, hu, hb4, z0, _, _, _, _, _, _⟩ := Reads.view' (ow2o.ext hEq) hltj
          have hms := metB_snoc (v := v) hu
          have Hms := Lib.hid hms
          have hsame : ((u.r.n : Int) == (v.r.n : Int)) = (u.r.n == v.r.n) := by rw [Bool.eq_iff_iff]; simp; omega
          have Hu := Lib.hid hu
          clear hms hu
          rcases hmb : metB (L2.take j) v with _ | _
          · rw [hmb] at Hms
            generalize (u.r.n == v.r.n) = bb at *
            clear hmb
            go_wp2
            go_quiet (fail)
            go_wp2
            go_roundw
            case rel => exact ⟨j + 1, by omega, by go_num, by rw [Hms.out]; simp, hEq.drewN _⟩
            case measure => simp [intOf]; omega
          · rw [hmb] at Hms
            clear hmb hsame
            go_wp2
            go_quiet (fail)
            go_wp2
            go_roundw
            case rel => exact ⟨j + 1, by omega, by go_num, by rw [Hms.out]; simp, hEq.drewN _⟩
            case measure => simp [intOf]; omega
        · obtain rfl : j = L2.length := by omega
          rw [List.take_length]
          have E3 : Ext w wq := E2.trans (hE.trans hEq)
          have n1 := E3.of_cell Hm1.out
          have hb1q := Nat.lt_of_lt_of_le hb1 E3.size
          generalize metB L2 v = mt at *
          rcases Hlf.out with hf0 | ⟨jj, f, hfj, hff, _⟩
          · rw [hf0] at y5 HF0
            simp only [show decide ((0 : Int) ≤ -1) = false from rfl, Bool.false_and] at HF0
            clear hf0
            go_wp2
            go_quiet (fail)
            go_wp2
            go_roundw
            case rel => exact ⟨k + 1, by omega, by go_num, by rw [HF0.out]; simp [Hcx.out], hE.trans (hEq.drewN _)⟩
            case measure => simp [intOf]; omega
          · have hlt2 := (List.getElem?_eq_some_iff.1 hff).1
            rw [Hfl.out.length] at hlt2
            obtain ⟨b2, off2, f', hA2, hf', hok, hb2, d0, d1, d2, d3, d4, d5⟩ := Hfl.out.field hlt2
            rw [hff] at hf'
            cases hf'
            rw [hA2] at n1
            have d2' := E3.of_cell d2
            have d3' := E3.of_cell d3
            have hb2q := Nat.lt_of_lt_of_le hb2 E3.size
            have hkk : ¬ ((jj : Int) < 0) := by omega
            have hk0 : (0 : Int) ≤ (jj : Int) := by omega
            have hjn : (jj : Int) < M.n := by omega
            rw [hfj] at y5 HF0
            simp only [if_neg hkk, Int.toNat_natCast, hff, show decide ((0 : Int) ≤ (jj : Int)) = true from decide_eq_true hk0, Bool.true_and] at HF0
            obtain ⟨fn, fx, fk, fr, fp, fo⟩ := f
            simp only at d2' d3' HF0
            clear hA2 hff hfj hok d0 d1 d2 d3 d4 d5
            rcases mt with _ | _
            · simp only [Bool.false_and] at HF0
              go_wp2
              go_quiet (fail)
              go_wp2
              go_roundw
              case rel => exact ⟨k + 1, by omega, by go_num, by rw [HF0.out]; simp [Hcx.out], hE.trans (hEq.drewN _)⟩
              case measure => simp [intOf]; omega
            · rcases fr with _ | _
              · by_cases h17 : fk = 17
                · have q17 : (fk != 17) = false := by rw [h17]; rfl
                  rw [q17] at HF0
                  clear h17
                  go_wp2
                  go_quiet (fail)
                  go_wp2
                  go_roundw
                  case rel => exact ⟨k + 1, by omega, by go_num, by rw [HF0.out]; simp [Hcx.out], hE.trans (hEq.drewN _)⟩
                  case measure => simp [intOf]; omega
                · have q17 : (fk != 17) = true := by rw [bne_iff_ne]; exact h17
                  rw [q17] at HF0
                  clear h17
                  go_wp2
                  go_quiet (fail)
                  go_wp2
                  go_roundw
                  case rel => exact ⟨k + 1, by omega, by go_num, by rw [HF0.out]; simp [Hcx.out], hE.trans (hEq.drewN _)⟩
                  case measure => simp [intOf]; omega
              · simp only [Bool.not_true, Bool.false_and, Bool.and_false] at HF0
                go_wp2
                go_quiet (fail)
                go_wp2
                go_roundw
                case rel => exact ⟨k + 1, by omega, by go_num, by rw [HF0.out]; simp [Hcx.out], hE.trans (hEq.drewN _)⟩
                case measure => simp [intOf]; omega
    · obtain rfl : k = L.length := by omega
      go_wp2
      go_ret
      refine ⟨?_, E2.trans hE⟩
      first | rfl | (rw [Hx.out, Hy.out]; rfl) | simp

end Go.Proofs.Ytpgbhgimjpbhoaa
