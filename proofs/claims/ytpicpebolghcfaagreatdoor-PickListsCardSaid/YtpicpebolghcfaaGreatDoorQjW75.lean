/- Contracts of layer 22: what is found at a path, its load, its things. -/
import Derived.Test.YtpicpebolghcfaaGreatDoorQjW72
import Derived.Test.YtpicpebolghcfaaGreatDoorQjW11

namespace Go.Proofs.YtpicpebolghcfaaGreatDoor
open Go.RowKit Go.Shelf
set_option linter.unusedVariables false
set_option linter.unusedSimpArgs false

theorem piecesW_one {S : List MsgD} {m : Nat} {bs : List UInt8} {x : Int} : piecesW S m bs [x] = piecesN (fieldsOf S m) bs x := by
  unfold piecesW
  rw [if_pos rfl]

theorem piecesW_step {S : List MsgD} {m : Nat} {bs : List UInt8} {x : Int} {l : List Int} {f : FieldD} (hl : l ≠ []) (hf : fieldAt S m x = some f) : piecesW S m bs (x :: l) = piecesW S f.of_.toNat (piecesN (fieldsOf S m) bs x).flatten l := by
  conv => lhs; unfold piecesW
  rw [if_neg hl, hf]

theorem pAlong {S : List MsgV} (hR : rightS (S.map MsgV.d) = true) : ∀ (way : List Int) (m : Nat) (g : FieldD) (bs : List UInt8) {A B C : Option Addr} {n c nb cb kc : Nat} {w : World}, OnWay (S.map MsgV.d) m way g → SchemaAt w A n c S → m < n → BytesAt w B nb cb bs → nb ≤ 1000000000 →
    Reads w C way.length kc 1 (way.map wyV) → way.length ≤ 1000 → Calls Tryz.prog 75 #[.slice A n c, .int .i64 (m : Int), .slice B nb cb, .slice C way.length kc] w (FoundPost g (piecesW (S.map MsgV.d) m bs way) w)
  | [], m, g, bs, A, B, C, n, c, nb, cb, kc, w, h, _, _, _, _, _, _ => absurd rfl h.ne
  | x :: rest, m, g, bs, A, B, C, n, c, nb, cb, kc, w, h, hs, hm, hb, hnb, hw, hk => by
    have ih := fun m' bs' {A B C : Option Addr} {n c nb cb kc : Nat} {w : World} a b c1 d e f1 g1 => pAlong hR rest m' g bs' (A := A) (B := B) (C := C) (n := n) (c := c) (nb := nb) (cb := cb) (kc := kc) (w := w) a b c1 d e f1 g1
    have hSl := hs.length
    cases h with
    | last hf =>
      exact pAlongS hs hR hm hf hb hnb rfl hw hk (fun _ => ⟨rfl, piecesW_one⟩) (fun h => absurd rfl h)
    | @step _ _ f _ _ hf h17 hrep t =>
      have hne := t.ne
      rw [piecesW_step hne hf]
      refine pAlongS hs hR hm hf hb hnb rfl hw hk (fun h => absurd h hne) (fun _ W A2 C2 m2 c2 k2 hX hb2 hw2 => ?_)
      obtain ⟨M, hM⟩ : ∃ M, (S.map MsgV.d)[m]? = some M := ⟨_, List.getElem?_eq_getElem (by rw [List.length_map]; omega)⟩
      obtain ⟨j, hj, _⟩ := find_idx hM hf
      obtain ⟨o, ho, ho2⟩ := right_of hR hM hj h17
      rw [List.length_map, hSl] at ho2
      rw [ho, Int.toNat_natCast] at t ⊢
      have hlen := pieces_le_len (fieldsOf (S.map MsgV.d) m) bs x
      have e1 := hb.length
      have e2 := hb2.length
      exact ih o _ t (hs.up hX) ho2 hb2 (by omega) (by simpa using hw2) (by simp at hk; omega)

theorem results_cell_tmp {P : Program} {fn : Func} {p u : Tmp} {ty : TypeId} (h : fn.results = #[.cell p ty, .tmp u]) (tmps : Array Value) (w : World) (g : Nat) (t : TypeId) (cs : Array Value) (fr : Nat × Nat) (d : TypeDesc)
    (hp : tmps.getD p undef = .pointer (some ⟨g, 0, none⟩)) (hg : w.heap[g]? = some (.cells cs t fr))
    (hu : P.underlying ty = some d) (hd : (match d with | .struct _ | .array _ _ => true | _ => false) = true) (hi : (P.info? ty).map (·.size) = some cs.size) :
    (results fn tmps).run P w = .ok (.tuple #[.agg cs, tmps.getD u undef]) w := by
  have hp' : tmps[p]?.getD undef = .pointer (some ⟨g, 0, none⟩) := by simpa using hp
  simp [results, h, hp', asAddr, run_loadVar_row w g t ty cs fr d hg hu hd hi]

theorem own_in {w w' : World} {e : TypeId} {size n c : Nat} {A : Option Addr} {xs : List Value} (own : Own w w' e size A n c xs) : InS (fun q => w.heap.size ≤ q) A := by
  intro a ha
  subst ha
  rcases own.row.2 with ⟨hv, _⟩ | ⟨g, cap, cur, hv, hb, _⟩
  · cases hv
  · cases hv
    exact hb

def noField : FieldD := ⟨⟨#[]⟩, 0, 0, false, false, 0⟩

def FindPost (S : List MsgD) (root d : Int) (p : ByteArray) (bs : List UInt8) (w : World) (e : Ending) (w' : World) : Prop :=
  ((wayAtV S root d p bs).2 ≠ 0 ∧ e = .returned (.tuple #[foundV noField none 0 0, .int .u8 ((wayAtV S root d p bs).2 : Nat)]) ∧ Ext w w') ∨
  ((wayAtV S root d p bs).2 = 0 ∧ ∃ f l A n c, OnWay S root.toNat (wayAtV S root d p bs).1 f ∧ e = .returned (.tuple #[foundV f A n c, .int .u8 0]) ∧ BRowsAt w' A n c l ∧ bytesR l = piecesW S root.toNat bs (wayAtV S root d p bs).1 ∧ Ext w w' ∧ InS (fun q => w.heap.size ≤ q) A)

theorem resolve_on {S : List MsgD} {root : Int} {p : ByteArray} (h : (resolveV S root p).2 = 0) : rightS S = true ∧ 0 ≤ root ∧ root < S.length ∧ ∃ f, OnWay S root.toNat (resolveV S root p).1 f ∧ (resolveV S root p).1.length ≤ 65 := by
  by_cases h0 : argsM S root = 0
  · obtain ⟨a, b, c⟩ := argsM_0 h0
    refine ⟨a, b, c, ?_⟩
    rcases hn : namesP p with _ | l
    · rw [resolve_name h0 hn] at h
      cases h
    · rcases hw : wayV S root.toNat l with _ | way
      · rw [resolve_way h0 hn hw] at h
        cases h
      · rw [resolve_ok h0 hn hw]
        have hl := names_len hn
        obtain ⟨f, hf, hlen⟩ := wayV_on a l root.toNat way (fun e => by rw [e] at hl; simp at hl) hw
        exact ⟨f, hf, by show way.length ≤ 65; omega⟩
  · rw [resolve_bad h0] at h
    exact absurd h h0

set_option maxRecDepth 100000 in
set_option maxHeartbeats 1000000 in
theorem pFind {A B : Option Addr} {n c m k : Nat} {S : List MsgV} {root d : Int} {p : ByteArray} {bs : List UInt8} {w : World} (hs : SchemaAt w A n c S) (hb : BytesAt w B m k bs) (hm : m ≤ 1000000000) (hp : p.size ≤ maxLen) :
    Calls Tryz.prog 44 #[.slice A n c, .int .i64 root, .slice B m k, .int .i64 d, .string p] w (FindPost (S.map MsgV.d) root d p bs w) := by
  have hl := hs.length
  have ha := fun W (h : SchemaAt W A n c S) => vArgs (root := root) (d := d) h
  have hr := fun W (h : SchemaAt W A n c S) => mResolve (root := root) h hp
  have hc := fun W (h : SchemaAt W A n c S) (q : BytesAt W B m k bs) => vCheck (root := root) (d := d) h q hm
  unfold WayPost at hr
  have BR := BlkT.new w 79 zeroFound rfl
  have X0 : Ext w (w.alloc (.cells zeroFound 79)) := (by repeat with_reducible (first | exact Ext.refl _ | refine Ext.alloc ?_ _ | refine Ext.drew ?_ | refine Ext.drewN ?_ _ | refine Ext.setCell ?_ (by first | exact Nat.le_refl _ | omega | (simp; done) | (simp; omega)) _))
  unfold zeroFound at BR X0
  by_cases h0 : argsV (S.map MsgV.d) root d = 0
  · rw [h0] at ha
    by_cases h1 : (resolveV (S.map MsgV.d) root p).2 = 0
    · have e : wayAtV (S.map MsgV.d) root d p bs = ((resolveV (S.map MsgV.d) root p).1, (checkB (S.map MsgV.d) root bs d).2) := by unfold wayAtV; rw [if_neg (by simp [h0]), if_neg (by simp [h1])]
      obtain ⟨hR, hr0, hr2, f, hf, hfl⟩ := resolve_on h1
      unfold FindPost
      rw [e]
      rw [h1] at hr
      obtain ⟨r, rfl⟩ : ∃ r : Nat, root = r := ⟨root.toNat, by omega⟩
      rw [Int.toNat_natCast] at hf ⊢
      rw [List.length_map, hl] at hr2
      have hal := fun W A2 c2 (h : SchemaAt W A n c S) (q : BytesAt W B m k bs) hw => pAlong hR (resolveV (S.map MsgV.d) (r : Int) p).1 r f bs (A := A) (B := B) (C := A2) (n := n) (c := c) (nb := m) (cb := k) (kc := c2) (w := W) hf h (by omega) q hm hw (by omega)
      simp only
      generalize (resolveV (S.map MsgV.d) (r : Int) p).1 = way at *
      generalize checkB (S.map MsgV.d) (r : Int) bs d = PK at hc ⊢
      obtain ⟨PL, K⟩ := PK
      simp only at hc ⊢
      have Ha := Lib.hid ha
      have Hr := Lib.hid hr
      have Hc := Lib.hid hc
      have Hf := Lib.hid hf
      have Hal := Lib.hid hal
      clear ha hr hc h0 h1 e hal hf
      by_cases hK : K = 0
      · subst hK
        go_enter Tryz.func44, Tryz.ntmps44
        go_wp2_with fail
        generalize w.alloc (.cells #[.string ⟨#[]⟩, .int .i64 0, .int .i64 0, .bool false, .bool false, .int .i64 0, .slice none 0 0] 79) = wx at *
        go_wp2_with (first
          | (go_at_call 72; refine (Ha.out _ (hs.up X0)).mono ?_; rintro e w1 ⟨rfl, E1⟩; have X1 := X0.trans E1; replace BR := BR.up E1)
          | (go_at_call 73; refine (Hr.out _ (hs.up X1)).mono ?_; rintro e w2 ⟨A2, c2, rfl, own2⟩; have X2 := X1.trans own2.ext; replace BR := BR.up own2.ext; have rd2 := own2.reads)
          | (go_at_call 74; refine (Hc.out _ (hs.up X2) (hb.up X2)).mono ?_; rintro e w3 ⟨rfl, E3⟩; have X3 := X2.trans E3; replace BR := BR.up E3; have rd3 := rd2.ext E3)
          | (go_at_call 75; refine (Hal.out _ _ _ (hs.up X3) (hb.up X3) rd3).mono ?_; rintro e w4 ⟨l4, A4, n4, c4, rfl, own4, hl4, hp4⟩; unfold foundV; have X4 := X3.trans own4.ext; have hb3 := BR.lt; replace BR := BR.up own4.ext; have y0 : w4.cell? ⟨w.heap.size, 0, none⟩ = some (.string ⟨#[]⟩) := BR.cell 0; have y1 := BR.cell 1; have y2 := BR.cell 2; have y3 := BR.cell 3; have y4 := BR.cell 4; have y5 := BR.cell 5; have y6 := BR.cell 6; have x0 := BR.free 0; have x1 := BR.free 1; have x2 := BR.free 2; have x3 := BR.free 3; have x4 := BR.free 4; have x5 := BR.free 5; have x6 := BR.free 6; have yl := BR.lt))
        have hfp := FoundPost.stored (f := f) (g := noField) (Nat.le_refl _) X3 hb3 BR own4 hl4 hp4
        refine bodyPost_ret (results_cell_tmp (ty := 79) rfl _ _ w.heap.size _ _ (0, 0) _ rfl (storeF_blk (f := f) (g := noField) BR) Tryz.underlying79 rfl (by kernel_rfl)) rfl ?_
        obtain ⟨l5, A5, n5, c5, e5, own5, hl5, hp5⟩ := hfp
        obtain ⟨rfl, rfl, rfl⟩ : A4 = A5 ∧ n4 = n5 ∧ c4 = c5 := by
          injection e5 with e5
          injection e5 with e5
          simp only [foundC, Array.mk.injEq, List.cons.injEq, Value.slice.injEq] at e5
          exact ⟨e5.2.2.2.2.2.2.1.1, e5.2.2.2.2.2.2.1.2.1, e5.2.2.2.2.2.2.1.2.2⟩
        exact .inr ⟨trivial, f, l5, A4, n4, c4, Hf.out, rfl, ⟨own5.reads, hl5⟩, hp5, own5.ext, own_in own5⟩
      · have q : ((K : Int) != 0) = true := by rw [bne_iff_ne]; omega
        have HK := Lib.hid hK
        clear hK
        go_enter Tryz.func44, Tryz.ntmps44
        go_wp2_with fail
        generalize w.alloc (.cells #[.string ⟨#[]⟩, .int .i64 0, .int .i64 0, .bool false, .bool false, .int .i64 0, .slice none 0 0] 79) = wx at *
        go_wp2_with (first
          | (go_at_call 72; refine (Ha.out _ (hs.up X0)).mono ?_; rintro e w1 ⟨rfl, E1⟩; have X1 := X0.trans E1; replace BR := BR.up E1)
          | (go_at_call 73; refine (Hr.out _ (hs.up X1)).mono ?_; rintro e w2 ⟨A2, c2, rfl, own2⟩; have X2 := X1.trans own2.ext; replace BR := BR.up own2.ext; have rd2 := own2.reads)
          | (go_at_call 74; refine (Hc.out _ (hs.up X2) (hb.up X2)).mono ?_; rintro e w3 ⟨rfl, E3⟩; have X3 := X2.trans E3; replace BR := BR.up E3; have y0 : w3.cell? ⟨w.heap.size, 0, none⟩ = some (.string ⟨#[]⟩) := BR.cell 0; have y1 := BR.cell 1; have y2 := BR.cell 2; have y3 := BR.cell 3; have y4 := BR.cell 4; have y5 := BR.cell 5; have y6 := BR.cell 6; have x0 := BR.free 0; have x1 := BR.free 1; have x2 := BR.free 2; have x3 := BR.free 3; have x4 := BR.free 4; have x5 := BR.free 5; have x6 := BR.free 6; have yl := BR.lt))
        refine bodyPost_ret (results_cell_tmp (ty := 79) rfl _ _ w.heap.size _ _ (0, 0) _ rfl (storeF_blk (f := noField) (g := noField) BR) Tryz.underlying79 rfl (by kernel_rfl)) rfl ?_
        exact .inl ⟨HK.out, rfl, storeF_ext (f := noField) X3 (Nat.le_refl _)⟩
    · have e : wayAtV (S.map MsgV.d) root d p bs = ([], (resolveV (S.map MsgV.d) root p).2) := by unfold wayAtV; rw [if_neg (by simp [h0]), if_pos h1]
      unfold FindPost
      rw [e]
      rw [resolve_nil h1] at hr
      simp only
      generalize (resolveV (S.map MsgV.d) root p).2 = K at *
      have q : ((K : Int) != 0) = true := by rw [bne_iff_ne]; omega
      have H1 := Lib.hid h1
      have Ha := Lib.hid ha
      have Hr := Lib.hid hr
      clear ha hr hc h0 h1 e
      go_enter Tryz.func44, Tryz.ntmps44
      go_wp2_with fail
      generalize w.alloc (.cells #[.string ⟨#[]⟩, .int .i64 0, .int .i64 0, .bool false, .bool false, .int .i64 0, .slice none 0 0] 79) = wx at *
      go_wp2_with (first
        | (go_at_call 72; refine (Ha.out _ (hs.up X0)).mono ?_; rintro e w1 ⟨rfl, E1⟩; have X1 := X0.trans E1; replace BR := BR.up E1)
        | (go_at_call 73; refine (Hr.out _ (hs.up X1)).mono ?_; rintro e w2 ⟨A2, c2, rfl, own2⟩; have X2 := X1.trans own2.ext; replace BR := BR.up own2.ext; have y0 : w2.cell? ⟨w.heap.size, 0, none⟩ = some (.string ⟨#[]⟩) := BR.cell 0; have y1 := BR.cell 1; have y2 := BR.cell 2; have y3 := BR.cell 3; have y4 := BR.cell 4; have y5 := BR.cell 5; have y6 := BR.cell 6; have x0 := BR.free 0; have x1 := BR.free 1; have x2 := BR.free 2; have x3 := BR.free 3; have x4 := BR.free 4; have x5 := BR.free 5; have x6 := BR.free 6; have yl := BR.lt))
      refine bodyPost_ret (results_cell_tmp (ty := 79) rfl _ _ w.heap.size _ _ (0, 0) _ rfl (storeF_blk (f := noField) (g := noField) BR) Tryz.underlying79 rfl (by kernel_rfl)) rfl ?_
      exact .inl ⟨H1.out, rfl, storeF_ext (f := noField) X2 (Nat.le_refl _)⟩
  · have e : wayAtV (S.map MsgV.d) root d p bs = ([], argsV (S.map MsgV.d) root d) := by unfold wayAtV; rw [if_pos h0]
    unfold FindPost
    rw [e]
    simp only
    generalize argsV (S.map MsgV.d) root d = K at *
    have q : ((K : Int) != 0) = true := by rw [bne_iff_ne]; omega
    have HK := Lib.hid h0
    have Ha := Lib.hid ha
    clear ha hr hc h0 e
    go_enter Tryz.func44, Tryz.ntmps44
    go_wp2_with fail
    generalize w.alloc (.cells #[.string ⟨#[]⟩, .int .i64 0, .int .i64 0, .bool false, .bool false, .int .i64 0, .slice none 0 0] 79) = wx at *
    go_wp2_with (go_at_call 72; refine (Ha.out _ (hs.up X0)).mono ?_; rintro e w1 ⟨rfl, E1⟩; have X1 := X0.trans E1; replace BR := BR.up E1; have y0 : w1.cell? ⟨w.heap.size, 0, none⟩ = some (.string ⟨#[]⟩) := BR.cell 0; have y1 := BR.cell 1; have y2 := BR.cell 2; have y3 := BR.cell 3; have y4 := BR.cell 4; have y5 := BR.cell 5; have y6 := BR.cell 6; have x0 := BR.free 0; have x1 := BR.free 1; have x2 := BR.free 2; have x3 := BR.free 3; have x4 := BR.free 4; have x5 := BR.free 5; have x6 := BR.free 6; have yl := BR.lt)
    refine bodyPost_ret (results_cell_tmp (ty := 79) rfl _ _ w.heap.size _ _ (0, 0) _ rfl (storeF_blk (f := noField) (g := noField) BR) Tryz.underlying79 rfl (by kernel_rfl)) rfl ?_
    exact .inl ⟨HK.out, rfl, storeF_ext (f := noField) X1 (Nat.le_refl _)⟩

end Go.Proofs.YtpicpebolghcfaaGreatDoor
