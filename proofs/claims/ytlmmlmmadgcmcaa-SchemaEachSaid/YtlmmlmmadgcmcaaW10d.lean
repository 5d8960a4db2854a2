/- Contracts of layer 10: the views that are so. -/
import Derived.Test.YtlmmlmmadgcmcaaW10c
import Derived.Test.YtlmmlmmadgcmcaaLib4
namespace Go.Proofs.Ytlmmlmmadgcmcaa
open Go.RowKit Go.Shelf
set_option linter.unusedVariables false

theorem Reads.view' {w : World} {A : Option Addr} {n c : Nat} {l : List ViewD} (h : Reads w A n c 7 (l.flatMap viewC)) {k : Nat} (hk : k < n) :
    ∃ b off v, A = some ⟨b, off, none⟩ ∧ l[k]? = some v ∧ b < w.heap.size ∧ w.cell? ⟨b, off + k * 7, none⟩ = some (.int .i64 (v.r.n : Int)) ∧ w.cell? ⟨b, off + k * 7 + 1, none⟩ = some (.int .i64 (v.r.w : Int)) ∧
      w.cell? ⟨b, off + k * 7 + 2, none⟩ = some (.int .i64 (v.r.f : Int)) ∧ w.cell? ⟨b, off + k * 7 + 3, none⟩ = some (.int .i64 (v.r.a : Int)) ∧ w.cell? ⟨b, off + k * 7 + 4, none⟩ = some (.int .i64 (v.r.t : Int)) ∧
      w.cell? ⟨b, off + k * 7 + 5, none⟩ = some (.int .i64 v.field) ∧ w.cell? ⟨b, off + k * 7 + 6, none⟩ = some (.bool v.run) := by
  obtain ⟨b, off, r, e, hx, hb, hj⟩ := h.elem (size := 7) (fun _ => rfl) (by omega) hk
  exact ⟨b, off, r, e, hx, hb, hj 0 _ rfl, hj 1 _ rfl, hj 2 _ rfl, hj 3 _ rfl, hj 4 _ rfl, hj 5 _ rfl, hj 6 _ rfl⟩

set_option maxRecDepth 100000 in
theorem idxView {A : Option Addr} {n c : Nat} {l : List ViewD} {w : World} {g : FuncId} {lb : Array Value} {p : ViewD → Bool} (eg : ∀ args w, (callFunc g args).run Try.prog w = .ok (.enter g args) w) (hb : Reads w A n c 7 (l.flatMap viewC)) (hn : n ≤ 1000000000000)
    (hp : ∀ (W : World) (f : ViewD), Ext w W → Calls Try.prog g (#[viewV f] ++ lb) W fun e W' => e = .returned (.bool (p f)) ∧ Ext W W') :
    Calls Try.prog 113 #[.slice A n c, .func (.func g) #[] lb] w fun e w' => e = .returned (.int .i64 (idxB p l)) ∧ Ext w w' := by
  have hl : l.length = n := by have := hb.len; rw [flat_length (size := 7) (fun _ => rfl)] at this; omega
  have Hl := Lib.hid hl
  have Hp := Lib.hid hp
  clear hl hp
  go_enter Try.func113, Try.ntmps113
  go_wp2
  go_loopw [5, 8] (fun _ i wr => ∃ k : Nat, k ≤ n ∧ i = .int .i64 k ∧ Ext w wr ∧ Hid (∀ (j : Nat) y, j < k → l[j]? = some y → p y = false)) (fun _ i _ => n - (intOf i).toNat)
  case atStart => exact ⟨0, Nat.zero_le _, rfl, Ext.refl _, fun j y h => absurd h (Nat.not_lt_zero j)⟩
  case round =>
    obtain ⟨k, hk, rfl, hW, hN⟩ := hrel
    by_cases hlt : k < n
    · have hlt2 : (k : Int) < n := by omega
      obtain ⟨b, off, f, rfl, hf, hb1, c0, c1, c2, c3, c4, c5, c6⟩ := (hb.up hW).view' hlt
      have Hf := Lib.hid hf
      clear hf
      rcases hq : p f with _ | _
      · have hcall := Hp.out wr f hW
        rw [hq] at hcall
        unfold viewV at hcall
        have Hc := Lib.hid hcall
        have Hq := Lib.hid hq
        clear hcall hq
        go_wp2_with (go_at_fn g; refine Hc.out.mono ?_; rintro e w1 ⟨rfl, E1⟩)
        go_roundw
        case rel =>
          refine ⟨k + 1, by omega, by go_num, hW.trans E1, fun j y hj hy => ?_⟩
          by_cases e : j = k
          · subst e
            have := Hf.out.symm.trans hy
            cases this
            exact Hq.out
          · exact hN.out j y (by omega) hy
        case measure => simp [intOf]; omega
      · have hcall := Hp.out wr f hW
        rw [hq] at hcall
        unfold viewV at hcall
        have Hc := Lib.hid hcall
        have hi := idxB_found Hf.out hq hN.out
        have Hi := Lib.hid hi
        clear hcall hq hi
        go_wp2_with (go_at_fn g; refine Hc.out.mono ?_; rintro e w1 ⟨rfl, E1⟩)
        go_ret
        exact ⟨ret_int Hi.out.symm, hW.trans E1⟩
    · have hk2 : k = n := by omega
      subst hk2
      have hi : idxB p l = -1 := idxB_none (fun j y hy => hN.out j y (by have := (List.getElem?_eq_some_iff.1 hy).1; have := Hl.out; omega) hy)
      have Hi := Lib.hid hi
      clear hi
      go_wp2
      go_ret
      exact ⟨ret_int Hi.out.symm, hW⟩

theorem flat_take {α : Type} {f : α → List Value} {size : Nat} (hf : ∀ x, (f x).length = size) : ∀ (l : List α) (k : Nat), (l.flatMap f).take (k * size) = (l.take k).flatMap f
  | [], k => by simp
  | x :: l, 0 => by simp
  | x :: l, k + 1 => by
    rw [List.flatMap_cons, List.take_succ_cons, List.flatMap_cons, List.take_append, hf, Nat.succ_mul, Nat.add_sub_cancel, flat_take hf l k, List.take_of_length_le (by rw [hf]; omega)]

theorem set_view (X : List ViewD) {i : Nat} (hi : i < X.length) (v : ViewD) :
    (((((((X.flatMap viewC).set (i * 7) (.int .i64 (v.r.n : Int))).set (i * 7 + 1) (.int .i64 (v.r.w : Int))).set (i * 7 + 2) (.int .i64 (v.r.f : Int))).set (i * 7 + 3) (.int .i64 (v.r.a : Int))).set (i * 7 + 4) (.int .i64 (v.r.t : Int))).set (i * 7 + 5) (.int .i64 v.field)).set (i * 7 + 6) (.bool v.run) = (X.set i v).flatMap viewC := by
  have hsp : X = X.take i ++ X[i] :: X.drop (i + 1) := by rw [← List.drop_eq_getElem_cons hi, List.take_append_drop]
  have hlt : (X.take i).length = i := by rw [List.length_take]; omega
  have hfl : ((X.take i).flatMap viewC).length = i * 7 := by rw [flat_length (size := 7) (fun _ => rfl), hlt]
  generalize hA : X.take i = A at *
  generalize X[i] = x at *
  generalize X.drop (i + 1) = B at *
  subst hsp
  have hset : (A ++ x :: B).set i v = A ++ v :: B := by rw [List.set_append_right _ _ (by omega), hlt]; simp
  rw [hset]
  simp only [List.flatMap_append, List.flatMap_cons]
  generalize A.flatMap viewC = A' at *
  rw [List.set_append_right _ _ (by omega), List.set_append_right _ _ (by omega), List.set_append_right _ _ (by omega), List.set_append_right _ _ (by omega), List.set_append_right _ _ (by omega), List.set_append_right _ _ (by omega), List.set_append_right _ _ (by omega), hfl]
  congr 1
  simp [viewC]

end Go.Proofs.Ytlmmlmmadgcmcaa
