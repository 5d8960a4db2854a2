/- Contracts of layer 11: checks. -/
import Derived.Test.YtlhbllaojjelcaaDoorW11
namespace Go.Proofs.YtlhbllaojjelcaaDoor
open Go.RowKit
set_option linter.unusedVariables false

theorem fromC_zero {sub : Option (Nat → List UInt8 → Nat × Nat)} {fs : List FieldD} {bs : List UInt8} {p : Nat} (h : (fromC sub fs bs p).2 = 0) : fromC sub fs bs p = (0, 0) := by
  unfold fromC at h ⊢
  by_cases c : (scan (stepC sub fs bs) ViewD.to bs.length p).2.2 = 0
  · rw [if_pos c]
  · rw [if_neg c] at h; exact absurd h c

theorem firstV_zero {S : List MsgD} {d m : Nat} {bs : List UInt8} (h : (firstV S d m bs).2 = 0) : firstV S d m bs = (0, 0) := by
  rw [firstV_eq] at h ⊢
  unfold checkM at h ⊢
  rcases hm : S[m]? with _ | M
  · rfl
  · simp only [hm] at h ⊢
    exact fromC_zero h

/-- What a check tells: the place, how deep, the code. -/
def ChkP (S : List MsgD) (root : Int) (bs : List UInt8) (d : Int) (w : World) (e : Ending) (w' : World) : Prop :=
  ∃ D : Nat, e = .returned (.tuple #[.int .i64 ((checkB S root bs d).1 : Nat), .int .i64 (D : Int), .int .u8 ((checkB S root bs d).2 : Nat)]) ∧ ((checkB S root bs d).2 = 0 → D = deepV S d.toNat root.toNat bs) ∧ Ext w w'

set_option maxRecDepth 100000 in
set_option maxHeartbeats 1000000 in
theorem vCheck0 {A : Option Addr} {n c : Nat} {S : List MsgV} {root d : Int} {B : Option Addr} {n' c' : Nat} {bs : List UInt8} {w : World} (hs : SchemaAt w A n c S) (hb : BytesAt w B n' c' bs) (hn : n' ≤ 1000000000) :
    Calls Tryd.prog 47 #[.slice A n c, .int .i64 root, .slice B n' c', .int .i64 d] w (ChkP (S.map MsgV.d) root bs d w) := by
  have ha := fun (W : World) (h : SchemaAt W A n c S) => vArgs (root := root) (d := d) h
  have hal := argsV_le (S.map MsgV.d) root d
  by_cases h0 : argsV (S.map MsgV.d) root d = 0
  · rw [h0] at ha
    have hck : checkB (S.map MsgV.d) root bs d = firstV (S.map MsgV.d) d.toNat root.toNat bs := by unfold checkB; rw [if_pos h0]
    have hR : rightS (S.map MsgV.d) = true := by
      unfold argsV at h0
      by_cases h : rightS (S.map MsgV.d) = false
      · rw [if_pos h] at h0; omega
      · simpa using h
    obtain ⟨r0, r1, d0, d1⟩ : 0 ≤ root ∧ root < n ∧ 0 ≤ d ∧ d ≤ 64 := by
      unfold argsV at h0
      rw [if_neg (by rw [hR]; simp), List.length_map, hs.length] at h0
      by_cases h : root < 0 ∨ (n : Int) ≤ root ∨ d < 0 ∨ 64 < d
      · rw [if_pos h] at h0; omega
      · omega
    obtain ⟨m, rfl⟩ := Int.eq_ofNat_of_zero_le r0
    obtain ⟨k, rfl⟩ := Int.eq_ofNat_of_zero_le d0
    rw [Int.toNat_natCast, Int.toNat_natCast] at hck
    obtain ⟨M, hM⟩ : ∃ M, S[m]? = some M := ⟨_, List.getElem?_eq_getElem (by rw [hs.length]; omega)⟩
    have hcall := fun (w1 : World) (E1 : Ext w w1) => (vAll k).1 (w0 := w1) (w := w1.alloc (.cells #[.slice A n c, .int .i64 0] 122)) (cb := w1.heap.size) (D := 0) (fr := 0) (depth := 0) (mo := k) (hs.up E1) hR hM (hb.up E1) ⟨BlkT.new w1 _ _ rfl, Ext.alloc (Ext.refl w1) _, Nat.le_refl _⟩ (by omega) (by omega) (by omega) (by omega)
    rw [show ((0 : Nat) : Int) = 0 from rfl] at hcall
    unfold ChkP
    rw [hck, Int.toNat_natCast, Int.toNat_natCast]
    have hz := @firstV_zero (S.map MsgV.d) k m bs
    generalize firstV (S.map MsgV.d) k m bs = V at *
    generalize deepV (S.map MsgV.d) k m bs = dp at *
    have Hcall := Lib.hid hcall
    have Ha := Lib.hid ha
    have Hz := Lib.hid hz
    have hki : (k : Int) ≤ 64 := d1
    clear hcall ha hz h0 hck hR r0 r1 d0 d1 hM hal
    go_enter Tryd.func47, Tryd.ntmps47
    go_wp2_with (first | (go_at_call 29; refine (Ha.out _ hs).mono ?_; rintro e w1 ⟨rfl, E1⟩) | (go_at_call 57; refine (Hcall.out _ E1).mono ?_; rintro e w2 ⟨⟨P, D', rfl, p1, p2, p3, p4, p5, p6⟩, p7⟩; have y1 := p3.cell 1; have yl := p3.lt; have E2 : Ext w1 w2 := p2.toExt (Ext.alloc (Ext.refl w1) _) (Nat.le_refl _); have P1 := Lib.hid p1; have P6 := Lib.hid p6; have P7 := Lib.hid p7; clear p1 p2 p3 p6 p7))
    go_quiet (fail)
    go_wp2
    go_ret3
    have hP : P = V.1 := by
      by_cases h : V.2 = 0
      · have h1 := P7.out h
        have h2 := Hz.out h
        injection h1 with h1
        injection h1 with h1
        have h3 := congrArg (fun l => l[0]?) h1
        simp at h3
        rw [h2]
        exact h3
      · have := P1.out h; omega
    subst hP
    exact ⟨D', rfl, fun h => by rw [P6.out h]; omega, (E1.trans E2).drewN _⟩
  · have hck : checkB (S.map MsgV.d) root bs d = (0, argsV (S.map MsgV.d) root d) := by unfold checkB; rw [if_neg h0]
    unfold ChkP
    rw [hck]
    generalize argsV (S.map MsgV.d) root d = C at *
    have Ha := Lib.hid ha
    have q : ((C : Int) != 0) = true := by rw [bne_iff_ne]; omega
    have H0 := Lib.hid h0
    clear ha hck h0
    go_enter Tryd.func47, Tryd.ntmps47
    go_wp2_with (go_at_call 29; refine (Ha.out _ hs).mono ?_; rintro e w1 ⟨rfl, E1⟩)
    go_ret3
    exact ⟨0, rfl, fun h => absurd h H0.out, E1⟩

theorem checkB_le (S : List MsgD) (root : Int) (bs : List UInt8) (d : Int) : (checkB S root bs d).2 ≤ 12 := by
  have hsub : ∀ k m bs, (firstV S k m bs).2 ≤ 12 := by
    have key : ∀ (sub : Option (Nat → List UInt8 → Nat × Nat)), (∀ g, sub = some g → ∀ m bs, (g m bs).2 ≤ 12) → ∀ m bs, (checkM sub S m bs).2 ≤ 12 := by
      intro sub hs m bs
      unfold checkM
      rcases S[m]? with _ | M
      · simp
      · simp only
        unfold fromC
        split
        · simp
        · refine scan_le' (stepC_and sub M.fields bs).1 (fun p => ?_) bs.length 0 (by omega)
          unfold stepC
          split
          · simp only
            unfold valueC
            split
            · simp
            · split
              · simp
              · split
                · have := codeV_le' ‹FieldD›.kind (spanB bs (lookV M.fields bs p).1.r.a (lookV M.fields bs p).1.r.t)
                  simp only
                  omega
                · split
                  · simp only
                    split <;> simp
                  · split
                    · split
                      · simp
                      · exact hs _ rfl _ _
                    · simp
          · have := lookV_le M.fields bs p
            simp only
            omega
    intro k
    induction k with
    | zero => exact key none (fun g h => by cases h)
    | succ k ih => exact key (some (firstV S k)) (fun g h => by cases h; exact ih)
  unfold checkB
  split
  · exact hsub _ _ _
  · have := argsV_le S root d
    simp only
    omega

theorem vCheck {A : Option Addr} {n c : Nat} {S : List MsgV} {root d : Int} {B : Option Addr} {n' c' : Nat} {bs : List UInt8} {w : World} (hs : SchemaAt w A n c S) (hb : BytesAt w B n' c' bs) (hn : n' ≤ 1000000000) :
    Calls Tryd.prog 31 #[.slice A n c, .int .i64 root, .slice B n' c', .int .i64 d] w fun e w' => e = .returned (.tuple #[.int .i64 ((checkB (S.map MsgV.d) root bs d).1 : Nat), .int .u8 ((checkB (S.map MsgV.d) root bs d).2 : Nat)]) ∧ Ext w w' := by
  have hc := vCheck0 (root := root) (d := d) hs hb hn
  unfold ChkP at hc
  generalize checkB (S.map MsgV.d) root bs d = V at *
  generalize deepV (S.map MsgV.d) d.toNat root.toNat bs = dp at *
  have Hc := Lib.hid hc
  clear hc
  go_enter Tryd.func31, Tryd.ntmps31
  go_wp2_with (go_at_call 47; refine Hc.out.mono ?_; rintro e w1 ⟨D, rfl, p1, E1⟩; have P1 := Lib.hid p1; clear p1)
  go_ret2
  exact ⟨rfl, E1⟩

/-- Valid? -/
def validB (S : List MsgD) (root : Int) (bs : List UInt8) (d : Int) : Bool := decide ((checkB S root bs d).2 = 0)

/-- How deep valid bytes are, the code. -/
def depthV (S : List MsgD) (root : Int) (bs : List UInt8) : Nat × Nat := if (checkB S root bs 64).2 = 0 then (deepV S 64 root.toNat bs, 0) else (0, (checkB S root bs 64).2)

/-- Valid bytes are valid just from their depth on. -/
theorem valid_at {S : List MsgD} {root : Int} {bs : List UInt8} (h : (checkB S root bs 64).2 = 0) {k : Nat} (hk : k ≤ 64) : deepV S 64 root.toNat bs ≤ 64 ∧ validB S root bs (k : Int) = decide (deepV S 64 root.toNat bs ≤ k) := by
  have ha : argsV S root 64 = 0 := by
    by_cases c : argsV S root 64 = 0
    · exact c
    · unfold checkB at h
      rw [if_neg c] at h
      exact absurd h c
  have hak : argsV S root (k : Int) = 0 := by
    unfold argsV at ha ⊢
    by_cases c : rightS S = false
    · rw [if_pos c] at ha; omega
    · rw [if_neg c] at ha ⊢
      by_cases c2 : root < 0 ∨ (S.length : Int) ≤ root ∨ (64 : Int) < 0 ∨ 64 < (64 : Int)
      · rw [if_pos c2] at ha; omega
      · rw [if_neg (by omega)]
  unfold checkB at h
  rw [if_pos ha, show (64 : Int).toNat = 64 from rfl] at h
  have hm := firstV_mono S 64 64 root.toNat bs (Nat.le_refl _) h
  refine ⟨hm.2.2, ?_⟩
  unfold validB checkB
  rw [if_pos hak, Int.toNat_natCast, Bool.eq_iff_iff, decide_eq_true_iff, decide_eq_true_iff]
  constructor
  · intro hv
    have h1 := firstV_mono S k 64 root.toNat bs hk hv
    omega
  · intro hd
    exact firstV_deep S 64 k root.toNat bs hk h hd

theorem depthV_le (S : List MsgD) (root : Int) (bs : List UInt8) : (depthV S root bs).2 ≤ 12 := by
  have := checkB_le S root bs 64
  unfold depthV
  split
  · simp
  · exact this

theorem valid_args {S : List MsgD} {root : Int} {bs : List UInt8} {d : Int} (h : validB S root bs d = true) : argsV S root d = 0 ∧ (firstV S d.toNat root.toNat bs).2 = 0 ∧ 0 ≤ d ∧ d ≤ 64 ∧ 0 ≤ root ∧ root < S.length ∧ rightS S = true := by
  unfold validB checkB at h
  have h := of_decide_eq_true h
  by_cases ha : argsV S root d = 0
  · rw [if_pos ha] at h
    refine ⟨ha, h, ?_⟩
    unfold argsV at ha
    by_cases c : rightS S = false
    · rw [if_pos c] at ha; omega
    · rw [if_neg c] at ha
      by_cases c2 : root < 0 ∨ (S.length : Int) ≤ root ∨ d < 0 ∨ 64 < d
      · rw [if_pos c2] at ha; omega
      · exact ⟨by omega, by omega, by omega, by omega, by simpa using c⟩
  · rw [if_neg ha] at h
    exact absurd h ha

theorem args_ok {S : List MsgD} {root d : Int} (hR : rightS S = true) (h0 : 0 ≤ root) (h1 : root < S.length) (h2 : 0 ≤ d) (h3 : d ≤ 64) : argsV S root d = 0 := by
  unfold argsV
  rw [if_neg (by rw [hR]; simp), if_neg (by omega)]

theorem valid_iff {S : List MsgD} {root : Int} {bs : List UInt8} {d : Int} (ha : argsV S root d = 0) : validB S root bs d = decide ((firstV S d.toNat root.toNat bs).2 = 0) := by
  unfold validB checkB
  rw [if_pos ha]

/-- With the first valid, both are just if the second is. -/
theorem valid_both {S : List MsgD} {root : Int} {a b : List UInt8} {d : Int} (h : validB S root a d = true) : validB S root (a ++ b) d = validB S root b d := by
  obtain ⟨ha, h1, _⟩ := valid_args h
  rw [valid_iff ha, valid_iff ha, Bool.eq_iff_iff, decide_eq_true_iff, decide_eq_true_iff]
  exact (firstV_append b h1).1

theorem valid_more {S : List MsgD} {root : Int} {a : List UInt8} {d : Int} (h : validB S root a d = true) (hd : d < 64) : validB S root a (d + 1) = true := by
  obtain ⟨ha, h1, h2, h3, h4, h5, h6⟩ := valid_args h
  rw [valid_iff (args_ok h6 h4 h5 (by omega) (by omega))]
  exact decide_eq_true (firstV_mono S d.toNat (d + 1).toNat root.toNat a (by omega) h1).1

theorem valid_nil {S : List MsgD} {root : Int} {b : List UInt8} {d : Int} (h : validB S root [] d = false) : validB S root b d = false := by
  rcases hb : validB S root b d with _ | _
  · rfl
  · obtain ⟨ha, _⟩ := valid_args hb
    rw [valid_iff ha] at h
    have : (firstV S d.toNat root.toNat []).2 = 0 := by
      rw [firstV_eq]
      unfold checkM
      rcases hm : S[root.toNat]? with _ | M
      · rfl
      · simp only
        rw [fromC_end (by simp)]
    rw [this] at h
    simp at h

theorem depth_of {S : List MsgD} {root : Int} {a : List UInt8} {d : Int} (h : validB S root a d = true) : depthV S root a = (deepV S 64 root.toNat a, 0) ∧ deepV S 64 root.toNat a ≤ d ∧ (checkB S root a 64).2 = 0 := by
  obtain ⟨ha, h1, h2, h3, h4, h5, h6⟩ := valid_args h
  have hm := firstV_mono S d.toNat 64 root.toNat a (by omega) h1
  have hc : (checkB S root a 64).2 = 0 := by
    unfold checkB
    rw [if_pos (args_ok h6 h4 h5 (by omega) (by omega))]
    exact hm.1
  refine ⟨by unfold depthV; rw [if_pos hc], by omega, hc⟩

theorem depth_both {S : List MsgD} {root : Int} {a b : List UInt8} {d : Int} (h1 : validB S root a d = true) (h2 : validB S root b d = true) : deepV S 64 root.toNat (a ++ b) = max (deepV S 64 root.toNat a) (deepV S 64 root.toNat b) := by
  obtain ⟨a1, a2, a3, a4, a5, a6, a7⟩ := valid_args h1
  obtain ⟨b1, b2, _⟩ := valid_args h2
  exact (firstV_append b (firstV_mono S d.toNat 64 root.toNat a (by omega) a2).1).2 (firstV_mono S d.toNat 64 root.toNat b (by omega) b2).1

/-- A schema of one message of one field, as the examples lay it. -/
theorem schema_lit {w : World} {nm : ByteArray} {f : FieldD} (hf : f.Ok) (hn : nm.size ≤ 9223372036854775807) :
    SchemaAt ((w.alloc (.cells #[.string f.name, .int .i64 f.number, .int .i64 f.kind, .bool f.rep, .bool f.packed, .int .i64 f.of_] 43)).alloc (.cells #[.string nm, .slice (some ⟨w.heap.size, 0, none⟩) 1 1] 46)) (some ⟨w.heap.size + 1, 0, none⟩) 1 1 [⟨⟨nm, [f]⟩, some ⟨w.heap.size, 0, none⟩, 1, 1⟩] := by
  have r1 : Reads (w.alloc (.cells #[.string f.name, .int .i64 f.number, .int .i64 f.kind, .bool f.rep, .bool f.packed, .int .i64 f.of_] 43)) (some ⟨w.heap.size, 0, none⟩) 1 1 6 (fieldC f) :=
    (Own.made (Ext.refl w) 43 6 (cs := fieldC f) (n := 1) (by simp [maxLen]) rfl).reads
  have r2 := (Own.made (Ext.refl (w.alloc (.cells #[.string f.name, .int .i64 f.number, .int .i64 f.kind, .bool f.rep, .bool f.packed, .int .i64 f.of_] 43))) 46 2 (cs := msgC ⟨⟨nm, [f]⟩, some ⟨w.heap.size, 0, none⟩, 1, 1⟩) (n := 1) (by simp [maxLen]) rfl).reads
  rw [World.size_alloc] at r2
  refine ⟨r2, fun m hm => ?_⟩
  simp only [List.mem_singleton] at hm
  subst hm
  refine ⟨⟨?_, fun g hg => ?_⟩, hn⟩
  · exact r1.ext (Ext.alloc (Ext.refl _) _)
  · simp only [List.mem_singleton] at hg
    subst hg
    exact hf

end Go.Proofs.YtlhbllaojjelcaaDoor
