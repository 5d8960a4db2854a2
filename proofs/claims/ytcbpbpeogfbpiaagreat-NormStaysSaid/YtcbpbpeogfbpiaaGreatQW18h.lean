/- Contracts of layer 18: a field's records behind others. -/
import Derived.Test.YtcbpbpeogfbpiaaGreatQW18f4
import Derived.Test.YtcbpbpeogfbpiaaGreatQW18f2
import Derived.Test.YtcbpbpeogfbpiaaGreatQW18f5
import Derived.Test.YtcbpbpeogfbpiaaGreatQW18g
import Derived.Test.YtcbpbpeogfbpiaaGreatQS18
import Derived.Test.YtcbpbpeogfbpiaaGreatQWSortS
import Derived.Test.YtcbpbpeogfbpiaaGreatQW11b
import Derived.Test.YtcbpbpeogfbpiaaGreatQKSchemaChecks

namespace Go.Proofs.YtcbpbpeogfbpiaaGreat
open Go.RowKit Go.Shelf
set_option linter.unusedVariables false

section
variable {w0 w : World} {SA : Option Addr} {sn sc : Nat} {S : List MsgV} {f : FieldD} {xs : List UInt8} {A : Option Addr} {n c : Nat} {B : Option Addr} {bn bc : Nat} {bs : List UInt8} {V : Option Addr} {vc : Nat} {vs : List ViewD} {se : Nat → MsgT → List UInt8} {sub : Nat → List UInt8 → MsgT}

/-- A field's records, whatever its kind. -/
theorem nField {d : Nat} (ih : NormP S d se sub) (hsm : ∀ (o : Nat) (x : List UInt8), x.length ≤ 100000 → (se o (sub o x)).length ≤ 32 * x.length) (h : FieldPre w0 w SA sn sc S f xs A n c B bn bc bs V vc vs) (hd : bn ≤ d) (hof : f.kind = 17 → ∃ m : Nat, f.of_ = (m : Int) ∧ m < S.length) :
    Calls Tryz.prog 96 #[.slice A n c, .slice SA sn sc, fieldV f, .slice B bn bc, .slice V vs.length vc] w (FieldPost w0 w (xs ++ fieldE se sub f (vs.flatMap (wordsO f bs)) (vs.flatMap (piecesO f bs)))) := by
  have hrun := h.2.2.2.2.2.2.2.2.2.2.2.2.2.1
  rcases hk : numberB f.kind with _ | _
  · rw [words_none hk (hrun hk), pieces_map hk (hrun hk)]
    by_cases h17 : f.kind = 17
    · rcases hr : f.rep with _ | _
      · exact nFieldJoin ih hsm h hd (hof h17) h17 hr
      · exact nFieldSubs ih hsm h hd (hof h17) h17 hr
    · rcases hr : f.rep with _ | _
      · exact nFieldText h hk h17 hr
      · exact nFieldTexts h hk h17 hr
  · rw [pieces_number hk]
    rcases hr : f.rep with _ | _
    · exact nFieldWord h hk hr
    · exact nFieldRun h hk hr
end

end Go.Proofs.YtcbpbpeogfbpiaaGreat

/- Contracts of layer 18: the form of valid bytes. -/




namespace Go.Proofs.YtcbpbpeogfbpiaaGreat
open Go.RowKit Go.Shelf
set_option linter.unusedVariables false

section
variable {S : List MsgD} {m : Nat} {M : MsgD} {bs : List UInt8} {se : Nat → MsgT → List UInt8} {sub : Nat → List UInt8 → MsgT}

/-- A number's views are its field's. -/
theorem numV_own (hR : rightS S = true) (hM : S[m]? = some M) {i : Nat} {f : FieldD} (hf : M.fields[i]? = some f) : (viewsV M.fields bs).1.filter (numV f.number) = viewsO (viewsV M.fields bs).1 i := by
  unfold viewsO
  refine List.filter_congr fun v hv => ?_
  have hs := (viewsV_each M.fields bs v hv).2
  by_cases hneg : v.field < 0
  · unfold numV
    rw [decide_eq_true hneg]
    have : (v.field == (i : Int)) = false := by simp; omega
    rw [this]
    rfl
  · obtain ⟨k, hk⟩ := Int.eq_ofNat_of_zero_le (show 0 ≤ v.field by omega)
    obtain ⟨g, hg⟩ : ∃ g, M.fields[k]? = some g := by
      rcases view_is hv with q | ⟨k', g, e1, e2, _⟩
      · omega
      · obtain rfl : k' = k := by omega
        exact ⟨g, e2⟩
    obtain ⟨hn, _⟩ := seen_is hs hk hg
    unfold numV
    rw [decide_eq_false hneg, Bool.not_false, Bool.true_and, hk, Bool.eq_iff_iff]
    simp only [beq_iff_eq]
    constructor
    · intro e
      have h1 := (right_field hR hM hg).2
      have h2 := (right_field hR hM hf).2
      have : g.number = f.number := by rw [hn, e]
      rw [this, h2] at h1
      omega
    · intro e
      obtain rfl : k = i := by omega
      rw [hg] at hf
      cases hf
      exact hn.symm

theorem places_le (hR : rightS S = true) (hM : S[m]? = some M) (hb : bs.length ≤ 100000) (hsub : ∀ (o : Nat) (x : List UInt8), x.length ≤ 100000 → (se o (sub o x)).length ≤ 32 * x.length) (j : Nat) :
    (((sortK (keyF M.fields) M.fields.length).take j).flatMap (placeE se sub M.fields bs (viewsV M.fields bs).1)).length ≤ 32 * bs.length := by
  have hn : (sortK (keyF M.fields) M.fields.length).Nodup := (sortK_perm (keyF M.fields) M.fields.length).nodup_iff.2 List.nodup_range
  have hn2 : ((sortK (keyF M.fields) M.fields.length).take j).Nodup := List.Sublist.nodup (List.take_sublist _ _) hn
  have h1 := flat_sum (g := placeE se sub M.fields bs (viewsV M.fields bs).1) (c := fun i => weighL (viewsO (viewsV M.fields bs).1 i)) (l := (sortK (keyF M.fields) M.fields.length).take j) (fun i hi => by
    by_cases hne : viewsO (viewsV M.fields bs).1 i = []
    · rw [placeE_none hne]
      exact Nat.zero_le _
    · have hil := sortK_mem.1 (List.mem_of_mem_take hi)
      exact fieldE_le hR hM (List.getElem?_eq_getElem hil) hne hb (fun x hx => hsub _ x (by omega)))
  have h2 := weigh_places hn2 (viewsV M.fields bs).1
  have h3 := weighL_filter (fun v => !decide (v.field < 0)) (viewsV M.fields bs).1
  have h4 := viewsV_weigh M.fields bs
  omega

theorem places_step {l : List Nat} {j i : Nat} {g : Nat → List UInt8} (h : l[j]? = some i) : (l.take (j + 1)).flatMap g = (l.take j).flatMap g ++ g i := by
  rw [List.take_add_one, h, List.flatMap_append]
  simp

theorem own_runs (hR : rightS S = true) (hM : S[m]? = some M) {i : Nat} {f : FieldD} (hf : M.fields[i]? = some f) : (numberB f.kind = false → ∀ v ∈ viewsO (viewsV M.fields bs).1 i, v.run = false) ∧ (f.rep = false → ∀ v ∈ viewsO (viewsV M.fields bs).1 i, v.run = false) := by
  constructor
  · intro hk v hv
    rcases own_view (own_bd hv).1 (own_bd hv).2.1 hf with ⟨_, _, q⟩ | ⟨q, _⟩
    · rw [hk] at q
      cases q
    · exact q
  · intro hr v hv
    rcases own_view (own_bd hv).1 (own_bd hv).2.1 hf with ⟨_, q, _⟩ | ⟨q, _⟩
    · rw [hr] at q
      cases q
    · exact q
end

set_option maxRecDepth 100000 in
set_option maxHeartbeats 4000000 in
theorem nStep {S : List MsgV} {d : Nat} {se : Nat → MsgT → List UInt8} {sub : Nat → List UInt8 → MsgT} (hR : rightS (S.map MsgV.d) = true) (hd : d ≤ 100000) (hsm : ∀ (o : Nat) (x : List UInt8), x.length ≤ 100000 → (se o (sub o x)).length ≤ 32 * x.length) (ih : NormP S d se sub) :
    NormP S (d + 1) (fun m x => (encC se (S.map MsgV.d) m x).flatten) (ofM sub (S.map MsgV.d)) := by
  intro w SA sn sc m A n c bs hS hm hb hn
  have hSl := hS.length
  have hbl := hb.length
  obtain ⟨b1, off1, M, hSA, hM, hf, hnm, hb1, s0, s1⟩ := hS.msg (k := m) (by omega)
  subst hSA
  have hMd : (S.map MsgV.d)[m]? = some M.d := by rw [List.getElem?_map, hM]; rfl
  have hMr := right_msg hR hMd
  have hfl : M.d.fields.length = M.n := hf.length
  have hMn : M.n ≤ 1000000 := by have := hMr.2.2.1; omega
  rcases hv : viewsV M.d.fields bs with ⟨L, P, C⟩
  have hL1 : (viewsV M.d.fields bs).1 = L := by rw [hv]
  have hga := fun W (h1 : FieldsAt W M.A M.n M.c M.d.fields) (h2 : BytesAt W A n c bs) => nGather (nm := M.d.name) h1 (by omega) h2 (by omega) hv
  have hso := fun W (h : Ext w W) => sSorted (s := M.d.name) (hf.up h) (show M.n ≤ 1000000000000 by omega)
  have hple := places_le (bs := bs) hR hMd (by omega) hsm
  have hall := enc_of (se := se) (sub := sub) (bs := bs) hR hMd
  rw [hL1] at hple hall
  rw [unk_flat] at hall
  rw [hfl] at hple hall
  have hord : ∀ i, i ∈ sortK (keyF M.d.fields) M.n → i < M.n := fun i hi => sortK_mem.1 hi
  have hol : (sortK (keyF M.d.fields) M.n).length = M.n := sortK_length _ _
  show Calls _ _ _ w (fun e w' => ∃ A' c', e = .returned (.slice A' (encC se (S.map MsgV.d) m (ofM sub (S.map MsgV.d) m bs)).flatten.length c') ∧ Own w w' 5 1 A' (encC se (S.map MsgV.d) m (ofM sub (S.map MsgV.d) m bs)).flatten.length c' ((encC se (S.map MsgV.d) m (ofM sub (S.map MsgV.d) m bs)).flatten.map bv))
  rw [hall]
  have hpre : ∀ (i : Nat) (f : FieldD) (wq : World) (xs : List UInt8) (V : Option Addr) (vn vc : Nat) (R : RowG), M.d.fields[i]? = some f → Own w wq 5 1 V vn vc (xs.map bv) → vn = xs.length → vn ≤ 100000000 → Ext w wq → viewsO L i ≠ [] → R.vs = viewsO L i → Reads wq R.A R.vs.length R.c 7 (R.vs.flatMap viewC) →
      Calls Tryz.prog 96 #[.slice V vn vc, .slice (some ⟨b1, off1, none⟩) sn sc, fieldV f, .slice A n c, .slice R.A R.vs.length R.c] wq (FieldPost w wq (xs ++ placeE se sub M.d.fields bs L i)) := by
    intro i f wq xs V vn vc R hfi own hvn hv8 hX hne hRv hrd
    obtain ⟨⟨T, hT⟩, n1, n2, hkb⟩ := right_number hR hMd hfi
    have hruns := own_runs (bs := bs) hR hMd hfi
    rw [hL1] at hruns
    have hown : weighL (viewsO L i) ≤ bs.length := by have := own_weigh (fs := M.d.fields) (bs := bs) (i := i); rwa [hL1] at this
    have hbdv : ∀ v ∈ viewsO L i, v.r.a ≤ v.r.t ∧ v.r.t ≤ bs.length := fun v hv => by rw [← hL1] at hv; exact (own_bd hv).2.2
    have hr2 : rightB f.number 2 = true := by rw [hT]; exact rightB_of (by omega) (by omega) (by decide)
    have hrw : rightB f.number (wireI f.kind) = true := by
      rcases wire_cases hkb with ⟨_, q⟩ | ⟨_, _, q⟩ | ⟨_, _, q⟩ | ⟨_, q⟩
      · rw [hT, q]; exact rightB_of (by omega) (by omega) (by decide)
      · rw [hT, q]; exact rightB_of (by omega) (by omega) (by decide)
      · rw [hT, q]; exact rightB_of (by omega) (by omega) (by decide)
      · rw [hT, q]; exact rightB_of (by omega) (by omega) (by decide)
    have hp : placeE se sub M.d.fields bs L i = fieldE se sub f ((viewsO L i).flatMap (wordsO f bs)) ((viewsO L i).flatMap (piecesO f bs)) := placeE_at hfi hne
    rw [hp, ← hRv]
    refine nField (d := d) ih hsm ⟨own, hvn, hv8, hS.up hX, hb.up hX, by omega, hrd, by rw [hRv]; exact hne, by rw [hRv]; exact hbdv, by rw [hRv]; exact hown, hkb, hr2, hrw, by rw [hRv]; exact hruns.1, by rw [hRv]; exact hruns.2⟩ (by omega) (fun hk => ?_)
    obtain ⟨o, h1, h2⟩ := right_of hR hMd hfi hk
    exact ⟨o, h1, by simpa using h2⟩
  have hnv : ∀ (i : Nat) (f : FieldD), M.d.fields[i]? = some f → L.filter (numV f.number) = viewsO L i := fun i f hfi => by have := numV_own (bs := bs) hR hMd hfi; rwa [hL1] at this
  have hnum : ∀ (i : Nat) (f : FieldD), M.d.fields[i]? = some f → 0 ≤ f.number ∧ f.number ≤ 536870911 := fun i f hfi => by
    obtain ⟨⟨T, hT⟩, n1, n2, hkb⟩ := right_number hR hMd hfi
    omega
  obtain ⟨g, hg⟩ : ∃ g, g = placeE se sub M.d.fields bs L := ⟨_, rfl⟩
  have hg0 : ∀ i, viewsO L i = [] → g i = [] := fun i h => by rw [hg]; exact placeE_none h
  obtain ⟨uk, huk⟩ : ∃ uk, uk = unkL bs L := ⟨_, rfl⟩
  have hukl : uk.length ≤ bs.length := by
    have h1 := span_le M.d.fields bs
    have h2 := unkL_le bs (L := L) (fun v h => (by rw [← hL1] at h; have := view_bd h; omega)) L.length
    rw [List.take_length] at h2
    rw [hL1] at h1
    rw [huk]
    omega
  have huk' : ((L.filter fun v => decide (v.field < 0)).flatMap fun v => spanB bs v.r.f v.r.t) = uk := by rw [huk]; rfl
  rw [huk', ← hg]
  rw [← hg] at hpre hple
  rw [← huk] at hga
  obtain ⟨F, hF⟩ : ∃ F, F = (sortK (keyF M.d.fields) M.n).flatMap g ++ uk := ⟨_, rfl⟩
  rw [← hF]
  have HF := Lib.hid hF
  clear hF
  have Hga := Lib.hid hga
  have Hso := Lib.hid hso
  have Hple := Lib.hid hple
  have Hord := Lib.hid hord
  have Hpre := Lib.hid hpre
  have Hnv := Lib.hid hnv
  have Hnum := Lib.hid hnum
  have Hg0 := Lib.hid hg0
  have Hf := Lib.hid hf
  have Hb := Lib.hid hb
  have HS := Lib.hid hS
  clear hga hso hple hord hpre hnv hnum hg0 hv hL1 hall hMr hMd hM hR ih hsm hg huk huk' hf hb hS
  generalize sortK (keyF M.d.fields) M.n = order at *
  have hsn : m < sn := by omega
  go_enter Tryz.func48, Tryz.ntmps48
  go_wp2_with (first
    | (go_at_call 94; refine (Hga.out _ (Hf.out.up (by repeat with_reducible (first | exact Ext.refl _ | refine Ext.alloc ?_ _ | refine Ext.drew ?_ | refine Ext.drewN ?_ _ | refine Ext.setCell ?_ (by first | exact Nat.le_refl _ | omega | (simp; done) | (simp; omega)) _))) (Hb.out.up (by repeat with_reducible (first | exact Ext.refl _ | refine Ext.alloc ?_ _ | refine Ext.drew ?_ | refine Ext.drewN ?_ _ | refine Ext.setCell ?_ (by first | exact Nat.le_refl _ | omega | (simp; done) | (simp; omega)) _)))).mono ?_; rintro e w1 ⟨bm, E, U, uc, rfl, hG, hU, hRd, hEv, E1'⟩; have E1 : Ext w w1 := Ext.trans (by repeat with_reducible (first | exact Ext.refl _ | refine Ext.alloc ?_ _ | refine Ext.drew ?_ | refine Ext.drewN ?_ _ | refine Ext.setCell ?_ (by first | exact Nat.le_refl _ | omega | (simp; done) | (simp; omega)) _)) E1'; have s2 := E1.of_cell s0; have s3 := E1.of_cell s1; have hb2 := Nat.lt_of_lt_of_le hb1 E1.size; clear s0 s1)
    | (go_at_call 95; refine (Hso.out _ (E1.trans (by repeat with_reducible (first | exact Ext.refl _ | refine Ext.alloc ?_ _ | refine Ext.drew ?_ | refine Ext.drewN ?_ _ | refine Ext.setCell ?_ (by first | exact Nat.le_refl _ | omega | (simp; done) | (simp; omega)) _)))).mono ?_; rintro e w2 ⟨A6, c6, rfl, own6⟩))
  have B1 := (BlkT.new w1 153 #[.map (some bm), .slice U uk.length uc] rfl).up own6.ext
  have E2 : Ext w1 w2 := ((Ext.refl w1).alloc _).trans own6.ext
  have p0 : w2.cell? ⟨w1.heap.size, 0, none⟩ = some (.map (some bm)) := B1.cell 0
  have p1 : w2.cell? ⟨w1.heap.size, 1, none⟩ = some (.slice U uk.length uc) := B1.cell 1
  have pl := B1.lt
  have s4 := E2.of_cell s2
  have s5 := E2.of_cell s3
  have hb4 := Nat.lt_of_lt_of_le hb2 E2.size
  have hO := own6.reads
  have hG2 := hG.up E2
  have hRd2 := fun i => (hRd i).ext E2
  have hU2 := hU.up E2
  have X2 := E1.trans E2
  generalize w1.heap.size = bp at *
  have HG := Lib.hid hG2
  have HRd := Lib.hid hRd2
  have HEv := Lib.hid hEv
  have HU := Lib.hid hU2
  have HO := Lib.hid hO
  clear hG hRd hEv hU hG2 hRd2 hU2 hO B1 own6 s2 s3 hb2 E2 E1 E1'
  go_loopw [8, 25] (fun u i wq => ∃ (j : Nat) (V : Option Addr) (vn vc : Nat), j ≤ M.n ∧ i = .int .i64 (j : Int) ∧ u = .slice V vn vc ∧ vn = ((order.take j).flatMap g).length ∧ Own w wq 5 1 V vn vc (((order.take j).flatMap g).map bv) ∧ Ext w2 wq) (fun _ i _ => M.n - (intOf i).toNat)
  case atStart => exact ⟨0, none, 0, 0, Nat.zero_le _, rfl, rfl, rfl, Own.nil X2 _ _, Ext.refl _⟩
  case round =>
    rename World => wq
    obtain ⟨j, V, vn, vc, hj, rfl, rfl, hvn, own, Xq⟩ := hrel
    have q0 := Xq.of_cell p0
    have q1 := Xq.of_cell p1
    have ql := Nat.lt_of_lt_of_le pl Xq.size
    have t0 := Xq.of_cell s4
    have t1 := Xq.of_cell s5
    have tl := Nat.lt_of_lt_of_le hb4 Xq.size
    have hvl := Hple.out j
    rw [← hvn] at hvl
    clear p0 p1 s4 s5
    by_cases hlt : j < M.n
    · have hltI : (j : Int) < M.n := by omega
      obtain ⟨i, hij⟩ : ∃ i, order[j]? = some i := ⟨_, List.getElem?_eq_getElem (by rw [hol]; omega)⟩
      have him := Hord.out i (List.mem_of_getElem? hij)
      obtain ⟨b9, off9, hA6, hb9, hc9⟩ := (HO.out.ext Xq).at_ (by omega)
      have e9 : wq.cell? ⟨b9, off9 + j, none⟩ = some (.int .i64 (i : Int)) := hc9 j _ (by rw [List.getElem?_map, hij]; rfl)
      subst hA6
      obtain ⟨b8, off8, f, hA8, hfi, hok, hb8, g0, g1, g2, g3, g4, g5⟩ := (Hf.out.up (X2.trans Xq)).field him
      rw [hA8] at t1
      have hnumf := Hnum.out i f hfi
      have r1 := ((HG.out.up Xq).up ((Ext.refl wq).alloc (.cells #[.string f.name, .int .i64 f.number, .int .i64 f.kind, .bool f.rep, .bool f.packed, .int .i64 f.of_] 54))).look (n := f.number) ⟨by omega, by omega⟩
      have hEf := HEv.out f.number
      rw [Hnv.out i f hfi] at hEf
      have hrdf := HRd.out f.number
      have hstep := places_step (g := g) hij
      have Hstep := Lib.hid hstep
      have Hvn := Lib.hid hvn
      have Hown := Lib.hid own
      rcases hRE : E f.number with ⟨AE, cE, vsE⟩
      rw [hRE] at r1 hEf hrdf
      simp only at r1 hEf hrdf
      by_cases hne : viewsO L i = []
      · rw [hne] at hEf
        subst hEf
        rw [List.length_nil] at r1
        clear hA8 hRE hrdf hstep hvn own hij hfi hc9
        go_wp2
        go_roundw
        case rel => exact ⟨j + 1, V, vn, vc, by omega, by go_num, rfl, by rw [Hstep.out, Hg0.out i hne, List.append_nil]; exact Hvn.out, by rw [Hstep.out, Hg0.out i hne, List.append_nil]; exact Hown.out.alloc _, Xq.alloc _⟩
        case measure => simp [intOf]; omega
      · have hcall := fun (W : World) (X : Ext wq W) => Hpre.out i f W ((order.take j).flatMap g) V vn vc ⟨AE, cE, vsE⟩ hfi (own.up X) hvn (by omega) ((X2.trans Xq).trans X) hne hEf (hrdf.ext (Xq.trans X))
        have hpos : 1 ≤ vsE.length := by
          rcases vsE with _ | ⟨v, l⟩
          · exact absurd hEf.symm hne
          · simp
        have hposI : (0 : Int) < (vsE.length : Int) := by omega
        have hcall2 : ∀ W, Ext wq W → Calls Tryz.prog 96 #[.slice V vn vc, .slice (some ⟨b1, off1, none⟩) sn sc, fieldV f, .slice A n c, .slice AE vsE.length cE] W fun e w' => ∃ A' n' c', e = .returned (.slice A' n' c') ∧ Hid (n' = ((order.take (j + 1)).flatMap g).length) ∧ Own w w' 5 1 A' n' c' (((order.take (j + 1)).flatMap g).map bv) ∧ Ext W w' := fun W X => by
          refine (hcall W X).mono ?_
          rintro e w' ⟨A', c', h1, h2, h3⟩
          rw [← hstep] at h1 h2
          exact ⟨A', _, c', h1, Lib.hid rfl, h2, h3⟩
        unfold fieldV at hcall2
        have Hcall := Lib.hid hcall2
        clear hA8 hRE hrdf hstep hvn own hij hfi hc9 hcall hcall2 hEf
        go_wp2_with (go_at_call 96; refine (Hcall.out _ (by repeat with_reducible (first | exact Ext.refl _ | refine Ext.alloc ?_ _ | refine Ext.drew ?_ | refine Ext.drewN ?_ _ | refine Ext.setCell ?_ (by first | exact Nat.le_refl _ | omega | (simp; done) | (simp; omega)) _))).mono ?_; rintro e w7 ⟨A5, n5, c5, rfl, hn5, own5, X5⟩; have X7 : Ext w2 w7 := Xq.trans (Ext.trans (by repeat with_reducible (first | exact Ext.refl _ | refine Ext.alloc ?_ _ | refine Ext.drew ?_ | refine Ext.drewN ?_ _ | refine Ext.setCell ?_ (by first | exact Nat.le_refl _ | omega | (simp; done) | (simp; omega)) _)) X5))
        go_roundw
        case rel => exact ⟨j + 1, A5, n5, c5, by omega, by go_num, rfl, hn5.out, own5, X7⟩
        case measure => simp [intOf]; omega
    · obtain rfl : j = M.n := by omega
      have hltI : ¬ (M.n : Int) < M.n := by omega
      rw [List.take_of_length_le (by omega)] at hvn own
      have hU3 := HU.out.up Xq
      have Hown := Lib.hid own
      have Hvn := Lib.hid hvn
      have HU3 := Lib.hid hU3
      clear own hU3 hvn
      go_wp2_with (at_builtin; refine wpList_more elemB rfl (.tmp 52) (.tmp 54) rfl rfl (Hown.out.up (by repeat with_reducible (first | exact Ext.refl _ | refine Ext.alloc ?_ _ | refine Ext.drew ?_ | refine Ext.drewN ?_ _ | refine Ext.setCell ?_ (by first | exact Nat.le_refl _ | omega | (simp; done) | (simp; omega)) _))) rfl (HU3.out.up (by repeat with_reducible (first | exact Ext.refl _ | refine Ext.alloc ?_ _ | refine Ext.drew ?_ | refine Ext.drewN ?_ _ | refine Ext.setCell ?_ (by first | exact Nat.le_refl _ | omega | (simp; done) | (simp; omega)) _))) (bv_one _) (by omega) (by unfold maxLen; omega) ?_; intro A8 c8 w8 own8 g8)
      go_ret
      have hlen : F.length = vn + uk.length := by rw [HF.out, List.length_append, Hvn.out]
      refine ⟨A8, c8, by rw [hlen]; rfl, ?_⟩
      rw [hlen, HF.out, List.map_append]
      exact own8

end Go.Proofs.YtcbpbpeogfbpiaaGreat

/- Contracts of layer 18: norm.Form, Same, Is; the chapter's example. -/



namespace Go.Proofs.YtcbpbpeogfbpiaaGreat
open Go.RowKit Go.Shelf
set_option linter.unusedVariables false

theorem nForm {S : List MsgV} (hR : rightS (S.map MsgV.d) = true) : ∀ d, d ≤ 100000 → NormP S (d + 1) (encV (S.map MsgV.d) d) (ofV (S.map MsgV.d) d)
  | 0, _ => nStep (d := 0) (se := fun _ _ => []) (sub := fun _ _ => .mk () () [] []) hR (Nat.zero_le _) (fun _ _ _ => Nat.zero_le _) (fun w SA sn sc m A n c bs _ _ _ h => absurd h (Nat.not_lt_zero n))
  | d + 1, h => nStep hR (by omega) (fun o x hx => enc_small hR d o x hx) (nForm hR d (by omega))

/-- The normal form of any bytes, or nothing. -/
def formB (S : List MsgD) (root : Int) (bs : List UInt8) (d : Int) : List UInt8 := if (checkB S root bs d).2 = 0 then normB S root.toNat bs else []

theorem checked_right {S : List MsgD} {root d : Int} {bs : List UInt8} (h : (checkB S root bs d).2 = 0) : rightS S = true ∧ 0 ≤ root ∧ root < S.length ∧ 0 ≤ d ∧ d ≤ 64 ∧ (firstV S d.toNat root.toNat bs).2 = 0 := by
  unfold checkB at h
  by_cases h0 : argsV S root d = 0
  · rw [if_pos h0] at h
    unfold argsV at h0
    split at h0
    · cases h0
    · rename_i hr
      split at h0
      · cases h0
      · exact ⟨by simpa using hr, by omega, by omega, by omega, by omega, h⟩
  · rw [if_neg h0] at h
    exact absurd h h0

theorem nFormB {A : Option Addr} {n c : Nat} {S : List MsgV} {root d : Int} {B : Option Addr} {n' c' : Nat} {bs : List UInt8} {w : World} (hs : SchemaAt w A n c S) (hb : BytesAt w B n' c' bs) (hn : n' ≤ 100000) :
    Calls Tryz.prog 10 #[.slice A n c, .int .i64 root, .slice B n' c', .int .i64 d] w fun e w' => ∃ A' c2, e = .returned (.tuple #[.slice A' (formB (S.map MsgV.d) root bs d).length c2, .int .u8 ((checkB (S.map MsgV.d) root bs d).2 : Nat)]) ∧
      Own w w' 5 1 A' (formB (S.map MsgV.d) root bs d).length c2 ((formB (S.map MsgV.d) root bs d).map bv) := by
  have hc := fun W (h : SchemaAt W A n c S) (h2 : BytesAt W B n' c' bs) => vCheck (root := root) (d := d) h h2 (by omega)
  have Hc := Lib.hid hc
  clear hc
  by_cases h0 : (checkB (S.map MsgV.d) root bs d).2 = 0
  · obtain ⟨hR, r1, r2, _⟩ := checked_right h0
    obtain ⟨m, rfl⟩ := Int.eq_ofNat_of_zero_le r1
    have hm : m < S.length := by simpa using r2
    have ho := fun W (h : SchemaAt W A n c S) (h2 : BytesAt W B n' c' bs) => nForm hR 100000 (Nat.le_refl _) W A n c m B n' c' bs h hm h2 (by omega)
    have hO : formB (S.map MsgV.d) (m : Int) bs d = encV (S.map MsgV.d) 100000 m (ofV (S.map MsgV.d) 100000 m bs) := by unfold formB; rw [if_pos h0]; rfl
    rw [hO]
    generalize encV (S.map MsgV.d) 100000 m (ofV (S.map MsgV.d) 100000 m bs) = F at *
    have Ho := Lib.hid ho
    clear ho hO
    generalize checkB (S.map MsgV.d) (m : Int) bs d = V at *
    obtain ⟨p, C⟩ := V
    simp only at h0 Hc ⊢
    subst h0
    go_enter Tryz.func10, Tryz.ntmps10
    go_wp2_with (first
      | (go_at_call 47; refine (Hc.out _ (hs.up (by repeat with_reducible (first | exact Ext.refl _ | refine Ext.alloc ?_ _ | refine Ext.drew ?_ | refine Ext.drewN ?_ _ | refine Ext.setCell ?_ (by first | exact Nat.le_refl _ | omega | (simp; done) | (simp; omega)) _))) (hb.up (by repeat with_reducible (first | exact Ext.refl _ | refine Ext.alloc ?_ _ | refine Ext.drew ?_ | refine Ext.drewN ?_ _ | refine Ext.setCell ?_ (by first | exact Nat.le_refl _ | omega | (simp; done) | (simp; omega)) _)))).mono ?_; rintro e w1 ⟨rfl, E1'⟩; have E1 : Ext w w1 := Ext.trans (by repeat with_reducible (first | exact Ext.refl _ | refine Ext.alloc ?_ _ | refine Ext.drew ?_ | refine Ext.drewN ?_ _ | refine Ext.setCell ?_ (by first | exact Nat.le_refl _ | omega | (simp; done) | (simp; omega)) _)) E1')
      | (go_at_call 48; refine (Ho.out _ (hs.up (by repeat with_reducible (first | exact E1 | exact Ext.refl _ | refine Ext.alloc ?_ _ | refine Ext.drew ?_ | refine Ext.drewN ?_ _ | refine Ext.setCell ?_ (by first | exact Nat.le_refl _ | omega | (simp; done) | (simp; omega)) _))) (hb.up (by repeat with_reducible (first | exact E1 | exact Ext.refl _ | refine Ext.alloc ?_ _ | refine Ext.drew ?_ | refine Ext.drewN ?_ _ | refine Ext.setCell ?_ (by first | exact Nat.le_refl _ | omega | (simp; done) | (simp; omega)) _)))).mono ?_; rintro e w2 ⟨A2, c2, rfl, own2⟩; have own3 := own2.since (by repeat with_reducible (first | exact E1 | exact Ext.refl _ | refine Ext.alloc ?_ _ | refine Ext.drew ?_ | refine Ext.drewN ?_ _ | refine Ext.setCell ?_ (by first | exact Nat.le_refl _ | omega | (simp; done) | (simp; omega)) _))))
    go_ret2
    exact ⟨A2, c2, rfl, own3⟩
  · have hO : formB (S.map MsgV.d) root bs d = [] := if_neg h0
    rw [hO]
    generalize checkB (S.map MsgV.d) root bs d = V at *
    obtain ⟨p, C⟩ := V
    simp only at h0 Hc ⊢
    have h0' : ¬ ((C : Int) = 0) := by omega
    go_enter Tryz.func10, Tryz.ntmps10
    go_wp2_with (go_at_call 47; refine (Hc.out _ (hs.up (by repeat with_reducible (first | exact Ext.refl _ | refine Ext.alloc ?_ _ | refine Ext.drew ?_ | refine Ext.drewN ?_ _ | refine Ext.setCell ?_ (by first | exact Nat.le_refl _ | omega | (simp; done) | (simp; omega)) _))) (hb.up (by repeat with_reducible (first | exact Ext.refl _ | refine Ext.alloc ?_ _ | refine Ext.drew ?_ | refine Ext.drewN ?_ _ | refine Ext.setCell ?_ (by first | exact Nat.le_refl _ | omega | (simp; done) | (simp; omega)) _)))).mono ?_; rintro e w1 ⟨rfl, E1'⟩; have E1 : Ext w w1 := Ext.trans (by repeat with_reducible (first | exact Ext.refl _ | refine Ext.alloc ?_ _ | refine Ext.drew ?_ | refine Ext.drewN ?_ _ | refine Ext.setCell ?_ (by first | exact Nat.le_refl _ | omega | (simp; done) | (simp; omega)) _)) E1')
    go_ret2
    exact ⟨none, 0, rfl, Own.nil E1 _ _⟩

/-- The code of two messages. -/
def bothC (S : List MsgD) (root : Int) (a b : List UInt8) (d : Int) : Nat := if (checkB S root a d).2 = 0 then (checkB S root b d).2 else (checkB S root a d).2

theorem nSameB {A : Option Addr} {n c : Nat} {S : List MsgV} {root d : Int} {B D : Option Addr} {n1 c1 n2 c2 : Nat} {xs ys : List UInt8} {w : World} (hs : SchemaAt w A n c S) (ha : BytesAt w B n1 c1 xs) (hb : BytesAt w D n2 c2 ys) (hn1 : n1 ≤ 100000) (hn2 : n2 ≤ 100000) :
    Calls Tryz.prog 24 #[.slice A n c, .int .i64 root, .slice B n1 c1, .slice D n2 c2, .int .i64 d] w fun e w' => e = .returned (.tuple #[.bool (decide (bothC (S.map MsgV.d) root xs ys d = 0) && decide (formB (S.map MsgV.d) root xs d = formB (S.map MsgV.d) root ys d)), .int .u8 (bothC (S.map MsgV.d) root xs ys d : Nat)]) ∧ Ext w w' := by
  have hE := Ext.refl w
  have h1 := fun W (h : SchemaAt W A n c S) (h2 : BytesAt W B n1 c1 xs) => nFormB (root := root) (d := d) h h2 hn1
  have h2 := fun W (h : SchemaAt W A n c S) (h2 : BytesAt W D n2 c2 ys) => nFormB (root := root) (d := d) h h2 hn2
  unfold bothC
  generalize formB (S.map MsgV.d) root xs d = F at *
  generalize formB (S.map MsgV.d) root ys d = G at *
  generalize checkB (S.map MsgV.d) root xs d = V at *
  generalize checkB (S.map MsgV.d) root ys d = U at *
  obtain ⟨p, C⟩ := V
  obtain ⟨q, K⟩ := U
  simp only at h1 h2 ⊢
  generalize hfl : F.length = fl at *
  generalize hgl : G.length = gl at *
  have H1 := Lib.hid h1
  have H2 := Lib.hid h2
  clear h1 h2
  by_cases hC : C = 0
  · subst hC
    rw [if_pos rfl]
    by_cases hK : K = 0
    · subst hK
      go_enter Tryz.func24, Tryz.ntmps24
      go_wp2_with (first
        | (go_at_call 10; (with_reducible refine (H1.out _ (hs.up (by repeat with_reducible (first | exact Ext.refl _ | refine Ext.alloc ?_ _ | refine Ext.drew ?_ | refine Ext.drewN ?_ _ | refine Ext.setCell ?_ (by first | exact Nat.le_refl _ | omega | (simp; done) | (simp; omega)) _))) (ha.up (by repeat with_reducible (first | exact Ext.refl _ | refine Ext.alloc ?_ _ | refine Ext.drew ?_ | refine Ext.drewN ?_ _ | refine Ext.setCell ?_ (by first | exact Nat.le_refl _ | omega | (simp; done) | (simp; omega)) _)))).mono ?_); rintro e w1 ⟨A3, c3, rfl, own3⟩; clear H1; have X_ : Ext w w1 := Ext.trans (by repeat with_reducible (first | exact Ext.refl _ | refine Ext.alloc ?_ _ | refine Ext.drew ?_ | refine Ext.drewN ?_ _ | refine Ext.setCell ?_ (by first | exact Nat.le_refl _ | omega | (simp; done) | (simp; omega)) _)) own3.ext; replace hE := hE.up X_; replace hs := hs.up X_; replace hb := hb.up X_; clear X_)
        | (go_at_call 10; (with_reducible refine (H2.out _ (hs.up (by repeat with_reducible (first | exact Ext.refl _ | refine Ext.alloc ?_ _ | refine Ext.drew ?_ | refine Ext.drewN ?_ _ | refine Ext.setCell ?_ (by first | exact Nat.le_refl _ | omega | (simp; done) | (simp; omega)) _))) (hb.up (by repeat with_reducible (first | exact Ext.refl _ | refine Ext.alloc ?_ _ | refine Ext.drew ?_ | refine Ext.drewN ?_ _ | refine Ext.setCell ?_ (by first | exact Nat.le_refl _ | omega | (simp; done) | (simp; omega)) _)))).mono ?_); rintro e w2 ⟨A4, c4, rfl, own4⟩; clear H2; have X_ : Ext w1 w2 := Ext.trans (by repeat with_reducible (first | exact Ext.refl _ | refine Ext.alloc ?_ _ | refine Ext.drew ?_ | refine Ext.drewN ?_ _ | refine Ext.setCell ?_ (by first | exact Nat.le_refl _ | omega | (simp; done) | (simp; omega)) _)) own4.ext; replace hE := hE.up X_; replace own3 := own3.up X_; clear X_)
        | (go_at_call 49; refine (bEqual own3.bytes own4.bytes).mono ?_; rintro e w' ⟨rfl, rfl⟩))
      go_ret2
      exact ⟨by simp, hE⟩
    · have hK' : ¬ ((K : Int) = 0) := by omega
      go_enter Tryz.func24, Tryz.ntmps24
      go_wp2_with (first
        | (go_at_call 10; (with_reducible refine (H1.out _ (hs.up (by repeat with_reducible (first | exact Ext.refl _ | refine Ext.alloc ?_ _ | refine Ext.drew ?_ | refine Ext.drewN ?_ _ | refine Ext.setCell ?_ (by first | exact Nat.le_refl _ | omega | (simp; done) | (simp; omega)) _))) (ha.up (by repeat with_reducible (first | exact Ext.refl _ | refine Ext.alloc ?_ _ | refine Ext.drew ?_ | refine Ext.drewN ?_ _ | refine Ext.setCell ?_ (by first | exact Nat.le_refl _ | omega | (simp; done) | (simp; omega)) _)))).mono ?_); rintro e w1 ⟨A3, c3, rfl, own3⟩; clear H1; have X_ : Ext w w1 := Ext.trans (by repeat with_reducible (first | exact Ext.refl _ | refine Ext.alloc ?_ _ | refine Ext.drew ?_ | refine Ext.drewN ?_ _ | refine Ext.setCell ?_ (by first | exact Nat.le_refl _ | omega | (simp; done) | (simp; omega)) _)) own3.ext; replace hE := hE.up X_; replace hs := hs.up X_; replace hb := hb.up X_; clear X_)
        | (go_at_call 10; (with_reducible refine (H2.out _ (hs.up (by repeat with_reducible (first | exact Ext.refl _ | refine Ext.alloc ?_ _ | refine Ext.drew ?_ | refine Ext.drewN ?_ _ | refine Ext.setCell ?_ (by first | exact Nat.le_refl _ | omega | (simp; done) | (simp; omega)) _))) (hb.up (by repeat with_reducible (first | exact Ext.refl _ | refine Ext.alloc ?_ _ | refine Ext.drew ?_ | refine Ext.drewN ?_ _ | refine Ext.setCell ?_ (by first | exact Nat.le_refl _ | omega | (simp; done) | (simp; omega)) _)))).mono ?_); rintro e w2 ⟨A4, c4, rfl, own4⟩; clear H2; have X_ : Ext w1 w2 := Ext.trans (by repeat with_reducible (first | exact Ext.refl _ | refine Ext.alloc ?_ _ | refine Ext.drew ?_ | refine Ext.drewN ?_ _ | refine Ext.setCell ?_ (by first | exact Nat.le_refl _ | omega | (simp; done) | (simp; omega)) _)) own4.ext; replace hE := hE.up X_; replace own3 := own3.up X_; clear X_))
      go_ret2
      exact ⟨by simp [hK], hE⟩
  · have hC' : ¬ ((C : Int) = 0) := by omega
    rw [if_neg hC]
    go_enter Tryz.func24, Tryz.ntmps24
    go_wp2_with (first
      | (go_at_call 10; (with_reducible refine (H1.out _ (hs.up (by repeat with_reducible (first | exact Ext.refl _ | refine Ext.alloc ?_ _ | refine Ext.drew ?_ | refine Ext.drewN ?_ _ | refine Ext.setCell ?_ (by first | exact Nat.le_refl _ | omega | (simp; done) | (simp; omega)) _))) (ha.up (by repeat with_reducible (first | exact Ext.refl _ | refine Ext.alloc ?_ _ | refine Ext.drew ?_ | refine Ext.drewN ?_ _ | refine Ext.setCell ?_ (by first | exact Nat.le_refl _ | omega | (simp; done) | (simp; omega)) _)))).mono ?_); rintro e w1 ⟨A3, c3, rfl, own3⟩; clear H1; have X_ : Ext w w1 := Ext.trans (by repeat with_reducible (first | exact Ext.refl _ | refine Ext.alloc ?_ _ | refine Ext.drew ?_ | refine Ext.drewN ?_ _ | refine Ext.setCell ?_ (by first | exact Nat.le_refl _ | omega | (simp; done) | (simp; omega)) _)) own3.ext; replace hE := hE.up X_; replace hs := hs.up X_; replace hb := hb.up X_; clear X_))
    go_ret2
    exact ⟨by simp [hC], hE⟩

theorem form_a : formB [⟨⟨#[109]⟩, [⟨⟨#[97]⟩, 1, 3, false, false, 0⟩]⟩] 0 [8, 129, 0, 8, 130, 0] 0 = [8, 2] ∧ (checkB [⟨⟨#[109]⟩, [⟨⟨#[97]⟩, 1, 3, false, false, 0⟩]⟩] 0 [8, 129, 0, 8, 130, 0] 0).2 = 0 := by
  constructor
  · kernel_rfl
  · decide +kernel

theorem alive18 (w : World) : Calls Tryz.prog 8 #[] w fun e w' => e = .returned (.bool true) ∧ Ext w w' := by
  have hs := schema_lit (w := w) (nm := ⟨#[109]⟩) (f := ⟨⟨#[97]⟩, 1, 3, false, false, 0⟩) (by constructor <;> decide) (by decide)
  obtain ⟨v1, v2⟩ := form_a
  have h1 := fun (W : World) (A : Option Addr) (n c : Nat) (A' : Option Addr) (n' c' : Nat) (h : SchemaAt W A n c [⟨⟨⟨#[109]⟩, [⟨⟨#[97]⟩, 1, 3, false, false, 0⟩]⟩, A', n', c'⟩]) (B : Option Addr) (ha : BytesAt W B 6 6 [8, 129, 0, 8, 130, 0]) => nFormB (root := 0) (d := 0) h ha (by omega)
  simp only [List.map_cons, List.map_nil, v1, v2] at h1
  have Hs := Lib.hid hs
  have H1 := Lib.hid h1
  clear hs h1 v1 v2
  go_enter Tryz.func8, Tryz.ntmps8
  go_wp2_with fail
  refine (H1.out _ _ _ _ _ _ _ (Hs.out.up (by repeat with_reducible (first | exact Ext.refl _ | refine Ext.alloc ?_ _ | refine Ext.drew ?_ | refine Ext.drewN ?_ _ | refine Ext.setCell ?_ (by first | exact Nat.le_refl _ | omega | (simp; done) | (simp; omega)) _))) _ (bytes_lit _ _ _ [8, 129, 0, 8, 130, 0] 6 (by simp) (by simp [bv]) rfl (by simp [maxLen]))).mono ?_
  rintro e w1 ⟨A1, c1, rfl, own1⟩
  have X1 : Ext w w1 := Ext.trans (by repeat with_reducible (first | exact Ext.refl _ | refine Ext.alloc ?_ _ | refine Ext.drew ?_ | refine Ext.drewN ?_ _ | refine Ext.setCell ?_ (by first | exact Nat.le_refl _ | omega | (simp; done) | (simp; omega)) _)) own1.ext
  go_wp2_with fail
  refine (same (xs := [8, 2]) (ys := [8, 2]) (own1.up (by repeat with_reducible (first | exact Ext.refl _ | refine Ext.alloc ?_ _ | refine Ext.drew ?_ | refine Ext.drewN ?_ _ | refine Ext.setCell ?_ (by first | exact Nat.le_refl _ | omega | (simp; done) | (simp; omega)) _))).bytes (bytes_lit _ _ _ [8, 2] 2 (by simp) (by simp [bv]) rfl (by simp [maxLen]))).mono ?_
  rintro e w3 ⟨rfl, rfl⟩
  go_wp2
  go_ret
  exact ⟨by simp, X1.trans (by repeat with_reducible (first | exact Ext.refl _ | refine Ext.alloc ?_ _ | refine Ext.drew ?_ | refine Ext.drewN ?_ _ | refine Ext.setCell ?_ (by first | exact Nat.le_refl _ | omega | (simp; done) | (simp; omega)) _))⟩

end Go.Proofs.YtcbpbpeogfbpiaaGreat
