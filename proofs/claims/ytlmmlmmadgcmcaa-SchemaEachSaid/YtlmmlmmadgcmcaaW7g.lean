/- Contracts of layer 7: what is found by a name, by a number. -/
import Derived.Test.YtlmmlmmadgcmcaaW7e
import Derived.Test.YtlmmlmmadgcmcaaW7
namespace Go.Proofs.Ytlmmlmmadgcmcaa
open Go.RowKit Go.Shelf
set_option linter.unusedVariables false

set_option maxRecDepth 100000 in
theorem idxMsg {A : Option Addr} {n c : Nat} {l : List MsgV} {w : World} {g : FuncId} {lb : Array Value} {p : MsgV → Bool} (eg : ∀ args w, (callFunc g args).run Try.prog w = .ok (.enter g args) w) (hb : SchemaAt w A n c l) (hn : n ≤ 1000000000000)
    (hp : ∀ (W : World) (m : MsgV), Ext w W → Calls Try.prog g (#[msgV m] ++ lb) W fun e W' => e = .returned (.bool (p m)) ∧ Ext W W') :
    Calls Try.prog 61 #[.slice A n c, .func (.func g) #[] lb] w fun e w' => e = .returned (.int .i64 (idxB p l)) ∧ Ext w w' := by
  have hl := hb.length
  have Hl := Lib.hid hl
  have Hp := Lib.hid hp
  clear hl hp
  go_enter Try.func61, Try.ntmps61
  go_wp2
  go_loopw [5, 8] (fun _ i wr => ∃ k : Nat, k ≤ n ∧ i = .int .i64 k ∧ Ext w wr ∧ Hid (∀ (j : Nat) y, j < k → l[j]? = some y → p y = false)) (fun _ i _ => n - (intOf i).toNat)
  case atStart => exact ⟨0, Nat.zero_le _, rfl, Ext.refl _, fun j y h => absurd h (Nat.not_lt_zero j)⟩
  case round =>
    obtain ⟨k, hk, rfl, hW, hN⟩ := hrel
    by_cases hlt : k < n
    · have hlt2 : (k : Int) < n := by omega
      obtain ⟨b, off, f, rfl, hf, _, _, hb1, c0, c1⟩ := (hb.up hW).msg hlt
      have Hf := Lib.hid hf
      clear hf
      rcases hq : p f with _ | _
      · have hcall := Hp.out wr f hW
        rw [hq] at hcall
        unfold msgV at hcall
        have Hc := Lib.hid hcall
        have Hq := Lib.hid hq
        clear hcall hq
        go_wp2_with (go_at_fn g; refine Hc.out.mono ?_; rintro e w1 ⟨rfl, E1⟩)
        go_roundw
        case rel =>
          refine ⟨k + 1, by omega, by go_num, hW.trans E1, fun j y hj hy => ?_⟩
          by_cases e : j = k
          · subst e
            have := Hf.out.symm.trans hy
            cases this
            exact Hq.out
          · exact hN.out j y (by omega) hy
        case measure => simp [intOf]; omega
      · have hcall := Hp.out wr f hW
        rw [hq] at hcall
        unfold msgV at hcall
        have Hc := Lib.hid hcall
        have hi := idxB_found Hf.out hq hN.out
        have Hi := Lib.hid hi
        clear hcall hq hi
        go_wp2_with (go_at_fn g; refine Hc.out.mono ?_; rintro e w1 ⟨rfl, E1⟩)
        go_ret
        exact ⟨ret_int Hi.out.symm, hW.trans E1⟩
    · have hk2 : k = n := by omega
      subst hk2
      have hi : idxB p l = -1 := idxB_none (fun j y hy => hN.out j y (by have := (List.getElem?_eq_some_iff.1 hy).1; have := Hl.out; omega) hy)
      have Hi := Lib.hid hi
      clear hi
      go_wp2
      go_ret
      exact ⟨ret_int Hi.out.symm, hW⟩

/-- Has a message, a field this name? -/
def mnameP (s : ByteArray) (m : MsgV) : Bool := decide (m.d.name = s)

def fnameP (s : ByteArray) (f : FieldD) : Bool := decide (f.name = s)

theorem sMessage1 {m : MsgV} {b : Nat} {s : ByteArray} {w : World} (hc : w.cell? ⟨b, 0, none⟩ = some (.string s)) :
    Calls Try.prog 62 #[msgV m, .pointer (some ⟨b, 0, none⟩)] w fun e w' => e = .returned (.bool (mnameP s m)) ∧ Ext w w' := by
  have hb := World.block_lt_of_cell? w _ hc
  simp only at hb
  unfold msgV
  go_enter Try.func62, Try.ntmps62
  go_wp2
  go_ret
  exact ⟨ret_bool (by unfold mnameP; rw [str_eq]), (by repeat with_reducible (first | exact Ext.refl _ | refine Ext.alloc ?_ _ | refine Ext.drew ?_ | refine Ext.drewN ?_ _ | refine Ext.setCell ?_ (by first | exact Nat.le_refl _ | omega | (simp; done) | (simp; omega)) _))⟩

theorem sByName1 {f : FieldD} {b : Nat} {s : ByteArray} {w : World} (hc : w.cell? ⟨b, 0, none⟩ = some (.string s)) :
    Calls Try.prog 65 #[fieldV f, .pointer (some ⟨b, 0, none⟩)] w fun e w' => e = .returned (.bool (fnameP s f)) ∧ Ext w w' := by
  have hb := World.block_lt_of_cell? w _ hc
  simp only at hb
  unfold fieldV
  go_enter Try.func65, Try.ntmps65
  go_wp2
  go_ret
  exact ⟨ret_bool (by unfold fnameP; rw [str_eq]), (by repeat with_reducible (first | exact Ext.refl _ | refine Ext.alloc ?_ _ | refine Ext.drew ?_ | refine Ext.drewN ?_ _ | refine Ext.setCell ?_ (by first | exact Nat.le_refl _ | omega | (simp; done) | (simp; omega)) _))⟩

theorem sByNumber1 {f : FieldD} {b : Nat} {x : Int} {w : World} (hc : w.cell? ⟨b, 0, none⟩ = some (.int .i64 x)) :
    Calls Try.prog 64 #[fieldV f, .pointer (some ⟨b, 0, none⟩)] w fun e w' => e = .returned (.bool (f.number == x)) ∧ Ext w w' := by
  have hb := World.block_lt_of_cell? w _ hc
  simp only at hb
  unfold fieldV
  go_enter Try.func64, Try.ntmps64
  go_wp2
  go_ret
  exact ⟨rfl, (by repeat with_reducible (first | exact Ext.refl _ | refine Ext.alloc ?_ _ | refine Ext.drew ?_ | refine Ext.drewN ?_ _ | refine Ext.setCell ?_ (by first | exact Nat.le_refl _ | omega | (simp; done) | (simp; omega)) _))⟩

theorem sMessage {A : Option Addr} {n c : Nat} {S : List MsgV} {s : ByteArray} {I : Int} {w : World} (hs : SchemaAt w A n c S) (hn : n ≤ 1000000000000) (h : idxB (mnameP s) S = I) :
    Calls Try.prog 20 #[.slice A n c, .string s] w fun e w' => e = .returned (.tuple #[.int .i64 (if I < 0 then 0 else I), .int .u8 (if I < 0 then 11 else 0)]) ∧ Ext w w' := by
  have eg : ∀ args w, (callFunc 62 args).run Try.prog w = .ok (.enter 62 args) w := enters_of Try.func62 (by kernel_rfl) rfl
  have H := Lib.hid h
  have hI := (idxB_bd (mnameP s) S).1
  rw [h] at hI
  clear h
  by_cases h0 : I < 0
  all_goals
    simp only [h0, if_true, if_false]
    go_enter Try.func20, Try.ntmps20
    go_wp2_with fail
    have B := Ext.new_blk (Ext.refl (w.alloc (.cells #[.string s] 9)))
    refine (idxMsg (p := mnameP s) eg (hs.up (by repeat with_reducible (first | exact Ext.refl _ | refine Ext.alloc ?_ _ | refine Ext.drew ?_ | refine Ext.drewN ?_ _ | refine Ext.setCell ?_ (by first | exact Nat.le_refl _ | omega | (simp; done) | (simp; omega)) _))) hn ?_).mono ?_
    · intro W m hE
      exact sMessage1 (hE.of_cell (B.cell 0))
    · rintro e w1 ⟨rfl, E1⟩
      rw [H.out]
      go_wp2
      go_ret2
      exact ⟨rfl, Ext.trans (by repeat with_reducible (first | exact Ext.refl _ | refine Ext.alloc ?_ _ | refine Ext.drew ?_ | refine Ext.drewN ?_ _ | refine Ext.setCell ?_ (by first | exact Nat.le_refl _ | omega | (simp; done) | (simp; omega)) _)) E1⟩

set_option maxHeartbeats 1000000 in
theorem sBy {s : ByteArray} {A : Option Addr} {n c : Nat} {l : List FieldD} {w : World} {g : FuncId} {lb : Array Value} {p : FieldD → Bool} {I : Int} (eg : ∀ args w, (callFunc g args).run Try.prog w = .ok (.enter g args) w) (hb : FieldsAt w A n c l) (hn : n ≤ 1000000000000)
    (hp : ∀ (W : World) (f : FieldD), f.Ok → Ext w W → Calls Try.prog g (#[fieldV f] ++ lb) W fun e W' => e = .returned (.bool (p f)) ∧ Ext W W') (h : idxB p l = I) :
    Calls Try.prog 63 #[.agg #[.string s, .slice A n c], .func (.func g) #[] lb] w fun e w' => e = .returned (.tuple #[.int .i64 (max I 0), .bool (decide (0 ≤ I))]) ∧ Ext w w' := by
  have H := Lib.hid h
  have Hp := Lib.hid hp
  have hmx := fun ts t w => run_max_i (P := Try.prog) ts t .i64 .i64 I 0 w
  clear h hp
  go_enter Try.func63, Try.ntmps63
  go_wp2_with fail
  refine (idxField (p := p) eg (hb.up (by repeat with_reducible (first | exact Ext.refl _ | refine Ext.alloc ?_ _ | refine Ext.drew ?_ | refine Ext.drewN ?_ _ | refine Ext.setCell ?_ (by first | exact Nat.le_refl _ | omega | (simp; done) | (simp; omega)) _))) hn (fun W f hf hE => Hp.out W f hf (Ext.trans (by repeat with_reducible (first | exact Ext.refl _ | refine Ext.alloc ?_ _ | refine Ext.drew ?_ | refine Ext.drewN ?_ _ | refine Ext.setCell ?_ (by first | exact Nat.le_refl _ | omega | (simp; done) | (simp; omega)) _)) hE))).mono ?_
  rintro e w1 ⟨rfl, E1⟩
  rw [H.out]
  go_wp2
  go_ret2
  exact ⟨rfl, Ext.trans (by repeat with_reducible (first | exact Ext.refl _ | refine Ext.alloc ?_ _ | refine Ext.drew ?_ | refine Ext.drewN ?_ _ | refine Ext.setCell ?_ (by first | exact Nat.le_refl _ | omega | (simp; done) | (simp; omega)) _)) E1⟩

set_option maxHeartbeats 1000000 in
theorem sByNumber {s : ByteArray} {A : Option Addr} {n c : Nat} {l : List FieldD} {x I : Int} {w : World} (hb : FieldsAt w A n c l) (hn : n ≤ 1000000000000) (h : idxB (fun f => f.number == x) l = I) :
    Calls Try.prog 21 #[.agg #[.string s, .slice A n c], .int .i64 x] w fun e w' => e = .returned (.tuple #[.int .i64 (max I 0), .bool (decide (0 ≤ I))]) ∧ Ext w w' := by
  have eg : ∀ args w, (callFunc 64 args).run Try.prog w = .ok (.enter 64 args) w := enters_of Try.func64 (by kernel_rfl) rfl
  have H := Lib.hid h
  clear h
  go_enter Try.func21, Try.ntmps21
  go_wp2_with fail
  have B := Ext.new_blk (Ext.refl ((w.alloc (.cells #[.string s, .slice A n c] 37)).alloc (.cells #[.int .i64 x] 3)))
  refine (sBy (p := fun f => f.number == x) eg (hb.up (by repeat with_reducible (first | exact Ext.refl _ | refine Ext.alloc ?_ _ | refine Ext.drew ?_ | refine Ext.drewN ?_ _ | refine Ext.setCell ?_ (by first | exact Nat.le_refl _ | omega | (simp; done) | (simp; omega)) _))) hn ?_ H.out).mono ?_
  · intro W f hf hE
    have c0 : W.cell? ⟨w.heap.size + 1, 0, none⟩ = some (.int .i64 x) := by have := hE.of_cell (B.cell 0); simpa using this
    exact sByNumber1 c0
  · rintro e w1 ⟨rfl, E1⟩
    go_wp2
    go_ret2
    exact ⟨rfl, Ext.trans (by repeat with_reducible (first | exact Ext.refl _ | refine Ext.alloc ?_ _ | refine Ext.drew ?_ | refine Ext.drewN ?_ _ | refine Ext.setCell ?_ (by first | exact Nat.le_refl _ | omega | (simp; done) | (simp; omega)) _)) E1⟩

set_option maxHeartbeats 1000000 in
theorem sByName {s t : ByteArray} {A : Option Addr} {n c : Nat} {l : List FieldD} {I : Int} {w : World} (hb : FieldsAt w A n c l) (hn : n ≤ 1000000000000) (h : idxB (fnameP t) l = I) :
    Calls Try.prog 22 #[.agg #[.string s, .slice A n c], .string t] w fun e w' => e = .returned (.tuple #[.int .i64 (max I 0), .bool (decide (0 ≤ I))]) ∧ Ext w w' := by
  have eg : ∀ args w, (callFunc 65 args).run Try.prog w = .ok (.enter 65 args) w := enters_of Try.func65 (by kernel_rfl) rfl
  have H := Lib.hid h
  clear h
  go_enter Try.func22, Try.ntmps22
  go_wp2_with fail
  have B := Ext.new_blk (Ext.refl ((w.alloc (.cells #[.string s, .slice A n c] 37)).alloc (.cells #[.string t] 9)))
  refine (sBy (p := fnameP t) eg (hb.up (by repeat with_reducible (first | exact Ext.refl _ | refine Ext.alloc ?_ _ | refine Ext.drew ?_ | refine Ext.drewN ?_ _ | refine Ext.setCell ?_ (by first | exact Nat.le_refl _ | omega | (simp; done) | (simp; omega)) _))) hn ?_ H.out).mono ?_
  · intro W f hf hE
    have c0 : W.cell? ⟨w.heap.size + 1, 0, none⟩ = some (.string t) := by have := hE.of_cell (B.cell 0); simpa using this
    exact sByName1 c0
  · rintro e w1 ⟨rfl, E1⟩
    go_wp2
    go_ret2
    exact ⟨rfl, Ext.trans (by repeat with_reducible (first | exact Ext.refl _ | refine Ext.alloc ?_ _ | refine Ext.drew ?_ | refine Ext.drewN ?_ _ | refine Ext.setCell ?_ (by first | exact Nat.le_refl _ | omega | (simp; done) | (simp; omega)) _)) E1⟩

end Go.Proofs.Ytlmmlmmadgcmcaa
