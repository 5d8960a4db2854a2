/- Contracts of layer 14: the place of a word, a text, a meaning, a value in a slice; whether there is one. (Printed by gen_idx.py.) -/
import Derived.Test.YtnnphodgegcddaaGreatQfM14
import Derived.Test.YtnnphodgegcddaaGreatQfW10

namespace Go.Proofs.YtnnphodgegcddaaGreat
open Go.RowKit
set_option linter.unusedVariables false

theorem wordAt {w : World} {A : Option Addr} {n c k : Nat} {l : List Nat} (h : Reads w A n c 1 (l.map uv)) (hk : k < n) :
  ∃ b off x, A = some ⟨b, off, none⟩ ∧ l[k]? = some x ∧ b < w.heap.size ∧ w.cell? ⟨b, off + k, none⟩ = some (.int .u64 (x : Int)) := by
 obtain ⟨b, off, e, hb, hc⟩ := h.at_ (by omega)
 have hl : l.length = n := by have := h.len; simpa using this
 have hx : l[k]? = some (l[k]'(by omega)) := List.getElem?_eq_getElem (by omega)
 exact ⟨b, off, _, e, hx, hb, hc k _ (by rw [List.getElem?_map, hx]; rfl)⟩

theorem idx_any {α : Type} (p : α → Bool) (l : List α) : decide (0 ≤ idxB p l) = l.any p := by
 rcases idxB_cases p l with ⟨h1, h2⟩ | ⟨k, x, h1, h2, h3, _⟩
 · rw [h1, decide_eq_false (by omega)]
   symm
   rw [List.any_eq_false]
   intro x hx
   simp [h2 x hx]
 · rw [h1, decide_eq_true (by omega)]
   symm
   rw [List.any_eq_true]
   exact ⟨x, List.mem_of_getElem? h2, h3⟩

set_option maxRecDepth 100000 in
theorem idxWord {A : Option Addr} {n c : Nat} {l : List Nat} {w : World} {g : FuncId} {lb : Array Value} {p : Nat → Bool} (eg : ∀ args w, (callFunc g args).run Tryz.prog w = .ok (.enter g args) w) (hb : Reads w A n c 1 (l.map uv)) (hsm : ∀ f ∈ l, f < 18446744073709551616) (hn : n ≤ 4000000000000)
  (hp : ∀ (W : World) (f : Nat), f < 18446744073709551616 → Ext w W → Calls Tryz.prog g (#[.int .u64 (f : Int)] ++ lb) W fun e W' => e = .returned (.bool (p f)) ∧ Ext W W') :
  Calls Tryz.prog 159 #[.slice A n c, .func (.func g) #[] lb] w fun e w' => e = .returned (.int .i64 (idxB p l)) ∧ Ext w w' := by
 have hl : l.length = n := by have := hb.len; simpa using this
 have Hl := Lib.hid hl
 have Hp := Lib.hid hp
 clear hl hp
 obtain ⟨N, hN0⟩ : ∃ N : Nat, N = n := ⟨_, rfl⟩
 rw [← hN0] at hn ⊢
 have HN := Lib.hid hN0
 clear hN0
 go_enter Tryz.func159, Tryz.ntmps159
 go_wp2
 go_loopw [5, 8] (fun _ i wr => ∃ k : Nat, k ≤ N ∧ i = .int .i64 k ∧ Ext w wr ∧ Hid (∀ (j : Nat) y, j < k → l[j]? = some y → p y = false)) (fun _ i _ => N - (intOf i).toNat)
 case atStart => exact ⟨0, Nat.zero_le _, rfl, Ext.refl _, fun j y h => absurd h (Nat.not_lt_zero j)⟩
 case round =>
  obtain ⟨k, hk, rfl, hW, hN⟩ := hrel
  by_cases hlt : k < N
  · have hlt2 : (k : Int) < N := by omega
    obtain ⟨b, off, f, rfl, hf, hb1, c0⟩ := wordAt (hb.ext hW) (k := k) (by have := HN.out; omega)
    have Hf := Lib.hid hf
    rcases hq : p f with _ | _
    · have hcall := Hp.out wr f (hsm f (List.mem_of_getElem? hf)) hW
      rw [hq] at hcall
      skip
      have Hc := Lib.hid hcall
      have Hq := Lib.hid hq
      clear hcall hq hf
      go_wp2_with (go_at_fn g; refine Hc.out.mono ?_; rintro e w1 ⟨rfl, E1⟩)
      go_roundw
      case rel =>
       refine ⟨k + 1, by omega, by go_num, hW.trans E1, fun j y hj hy => ?_⟩
       by_cases e : j = k
       · subst e
         have := Hf.out.symm.trans hy
         cases this
         exact Hq.out
       · exact hN.out j y (by omega) hy
      case measure => simp [intOf]; omega
    · have hcall := Hp.out wr f (hsm f (List.mem_of_getElem? hf)) hW
      rw [hq] at hcall
      skip
      have Hc := Lib.hid hcall
      have hi := idxB_found Hf.out hq hN.out
      have Hi := Lib.hid hi
      clear hcall hq hf hi
      go_wp2_with (go_at_fn g; refine Hc.out.mono ?_; rintro e w1 ⟨rfl, E1⟩)
      go_ret
      exact ⟨ret_int Hi.out.symm, hW.trans E1⟩
  · have hge : ¬ (k : Int) < N := by omega
    have hi : idxB p l = -1 := idxB_none (fun j y hy => hN.out j y (by have := (List.getElem?_eq_some_iff.1 hy).1; have := Hl.out; have := HN.out; omega) hy)
    have Hi := Lib.hid hi
    clear hi
    go_wp2
    go_ret
    exact ⟨ret_int Hi.out.symm, hW⟩

theorem hasWord {A : Option Addr} {n c : Nat} {l : List Nat} {w : World} {g : FuncId} {lb : Array Value} {p : Nat → Bool} (eg : ∀ args w, (callFunc g args).run Tryz.prog w = .ok (.enter g args) w) (hb : Reads w A n c 1 (l.map uv)) (hsm : ∀ f ∈ l, f < 18446744073709551616) (hn : n ≤ 4000000000000)
  (hp : ∀ (W : World) (f : Nat), f < 18446744073709551616 → Ext w W → Calls Tryz.prog g (#[.int .u64 (f : Int)] ++ lb) W fun e W' => e = .returned (.bool (p f)) ∧ Ext W W') :
  Calls Tryz.prog 112 #[.slice A n c, .func (.func g) #[] lb] w fun e w' => e = .returned (.bool (l.any p)) ∧ Ext w w' := by
 have h := idxWord eg hb hsm hn hp
 rw [← idx_any]
 generalize idxB p l = I at *
 have H := Lib.hid h
 clear h hp hb
 go_enter Tryz.func112, Tryz.ntmps112
 go_wp2_with (go_at_call 159; refine H.out.mono ?_; rintro e w1 ⟨rfl, E1⟩)
 all_goals
  go_ret
  exact ⟨by simp, E1⟩

set_option maxRecDepth 100000 in
theorem idxText {A : Option Addr} {c : Nat} {l : List ByteArray} {w : World} {g : FuncId} {lb : Array Value} {p : ByteArray → Bool} (eg : ∀ args w, (callFunc g args).run Tryz.prog w = .ok (.enter g args) w) (hb : TextsAt w (A, c) l)  (hn : l.length ≤ 4000000000000)
  (hp : ∀ (W : World) (f : ByteArray), (f ∈ l ∧ f.size ≤ maxLen) → Ext w W → Calls Tryz.prog g (#[.string f] ++ lb) W fun e W' => e = .returned (.bool (p f)) ∧ Ext W W') :
  Calls Tryz.prog 167 #[.slice A l.length c, .func (.func g) #[] lb] w fun e w' => e = .returned (.int .i64 (idxB p l)) ∧ Ext w w' := by
 have hl : l.length = l.length := rfl
 have Hl := Lib.hid hl
 have Hp := Lib.hid hp
 clear hl hp
 obtain ⟨N, hN0⟩ : ∃ N : Nat, N = l.length := ⟨_, rfl⟩
 rw [← hN0] at hn ⊢
 have HN := Lib.hid hN0
 clear hN0
 go_enter Tryz.func167, Tryz.ntmps167
 go_wp2
 go_loopw [5, 8] (fun _ i wr => ∃ k : Nat, k ≤ N ∧ i = .int .i64 k ∧ Ext w wr ∧ Hid (∀ (j : Nat) y, j < k → l[j]? = some y → p y = false)) (fun _ i _ => N - (intOf i).toNat)
 case atStart => exact ⟨0, Nat.zero_le _, rfl, Ext.refl _, fun j y h => absurd h (Nat.not_lt_zero j)⟩
 case round =>
  obtain ⟨k, hk, rfl, hW, hN⟩ := hrel
  by_cases hlt : k < N
  · have hlt2 : (k : Int) < N := by omega
    obtain ⟨b, off, f, hA, hf, hb1, hsz, c0⟩ := TextsAt.text (hb.up hW) (k := k) (by have := HN.out; omega)
    simp only at hA
    subst hA
    have Hf := Lib.hid hf
    rcases hq : p f with _ | _
    · have hcall := Hp.out wr f ⟨List.mem_of_getElem? hf, hsz⟩ hW
      rw [hq] at hcall
      skip
      have Hc := Lib.hid hcall
      have Hq := Lib.hid hq
      clear hcall hq hf
      go_wp2_with (go_at_fn g; refine Hc.out.mono ?_; rintro e w1 ⟨rfl, E1⟩)
      go_roundw
      case rel =>
       refine ⟨k + 1, by omega, by go_num, hW.trans E1, fun j y hj hy => ?_⟩
       by_cases e : j = k
       · subst e
         have := Hf.out.symm.trans hy
         cases this
         exact Hq.out
       · exact hN.out j y (by omega) hy
      case measure => simp [intOf]; omega
    · have hcall := Hp.out wr f ⟨List.mem_of_getElem? hf, hsz⟩ hW
      rw [hq] at hcall
      skip
      have Hc := Lib.hid hcall
      have hi := idxB_found Hf.out hq hN.out
      have Hi := Lib.hid hi
      clear hcall hq hf hi
      go_wp2_with (go_at_fn g; refine Hc.out.mono ?_; rintro e w1 ⟨rfl, E1⟩)
      go_ret
      exact ⟨ret_int Hi.out.symm, hW.trans E1⟩
  · have hge : ¬ (k : Int) < N := by omega
    have hi : idxB p l = -1 := idxB_none (fun j y hy => hN.out j y (by have := (List.getElem?_eq_some_iff.1 hy).1; have := Hl.out; have := HN.out; omega) hy)
    have Hi := Lib.hid hi
    clear hi
    go_wp2
    go_ret
    exact ⟨ret_int Hi.out.symm, hW⟩

theorem hasText {A : Option Addr} {c : Nat} {l : List ByteArray} {w : World} {g : FuncId} {lb : Array Value} {p : ByteArray → Bool} (eg : ∀ args w, (callFunc g args).run Tryz.prog w = .ok (.enter g args) w) (hb : TextsAt w (A, c) l)  (hn : l.length ≤ 4000000000000)
  (hp : ∀ (W : World) (f : ByteArray), (f ∈ l ∧ f.size ≤ maxLen) → Ext w W → Calls Tryz.prog g (#[.string f] ++ lb) W fun e W' => e = .returned (.bool (p f)) ∧ Ext W W') :
  Calls Tryz.prog 118 #[.slice A l.length c, .func (.func g) #[] lb] w fun e w' => e = .returned (.bool (l.any p)) ∧ Ext w w' := by
 have h := idxText eg hb  hn hp
 rw [← idx_any]
 generalize idxB p l = I at *
 have H := Lib.hid h
 clear h hp hb
 go_enter Tryz.func118, Tryz.ntmps118
 go_wp2_with (go_at_call 167; refine H.out.mono ?_; rintro e w1 ⟨rfl, E1⟩)
 all_goals
  go_ret
  exact ⟨by simp, E1⟩

set_option maxRecDepth 100000 in
theorem idxTree {A : Option Addr} {n c : Nat} {l : List MsgR} {w : World} {g : FuncId} {lb : Array Value} {p : MsgR → Bool} (eg : ∀ args w, (callFunc g args).run Tryz.prog w = .ok (.enter g args) w) (hb : Reads w A n c 2 (l.flatMap treeC))  (hn : n ≤ 4000000000000)
  (hp : ∀ (W : World) (f : MsgR), f ∈ l → Ext w W → Calls Tryz.prog g (#[treeV f] ++ lb) W fun e W' => e = .returned (.bool (p f)) ∧ Ext W W') :
  Calls Tryz.prog 163 #[.slice A n c, .func (.func g) #[] lb] w fun e w' => e = .returned (.int .i64 (idxB p l)) ∧ Ext w w' := by
 have hl : l.length = n := by have := hb.len; rw [flat_length (size := 2) (fun _ => rfl)] at this; omega
 have Hl := Lib.hid hl
 have Hp := Lib.hid hp
 clear hl hp
 obtain ⟨N, hN0⟩ : ∃ N : Nat, N = n := ⟨_, rfl⟩
 rw [← hN0] at hn ⊢
 have HN := Lib.hid hN0
 clear hN0
 go_enter Tryz.func163, Tryz.ntmps163
 go_wp2
 go_loopw [5, 8] (fun _ i wr => ∃ k : Nat, k ≤ N ∧ i = .int .i64 k ∧ Ext w wr ∧ Hid (∀ (j : Nat) y, j < k → l[j]? = some y → p y = false)) (fun _ i _ => N - (intOf i).toNat)
 case atStart => exact ⟨0, Nat.zero_le _, rfl, Ext.refl _, fun j y h => absurd h (Nat.not_lt_zero j)⟩
 case round =>
  obtain ⟨k, hk, rfl, hW, hN⟩ := hrel
  by_cases hlt : k < N
  · have hlt2 : (k : Int) < N := by omega
    obtain ⟨b, off, f, rfl, hf, hb1, c0, c1⟩ := treeCells (hb.ext hW) (k := k) (by have := HN.out; omega)
    have Hf := Lib.hid hf
    rcases hq : p f with _ | _
    · have hcall := Hp.out wr f (List.mem_of_getElem? hf) hW
      rw [hq] at hcall
      unfold treeV at hcall
      have Hc := Lib.hid hcall
      have Hq := Lib.hid hq
      clear hcall hq hf
      go_wp2_with (go_at_fn g; refine Hc.out.mono ?_; rintro e w1 ⟨rfl, E1⟩)
      go_roundw
      case rel =>
       refine ⟨k + 1, by omega, by go_num, hW.trans E1, fun j y hj hy => ?_⟩
       by_cases e : j = k
       · subst e
         have := Hf.out.symm.trans hy
         cases this
         exact Hq.out
       · exact hN.out j y (by omega) hy
      case measure => simp [intOf]; omega
    · have hcall := Hp.out wr f (List.mem_of_getElem? hf) hW
      rw [hq] at hcall
      unfold treeV at hcall
      have Hc := Lib.hid hcall
      have hi := idxB_found Hf.out hq hN.out
      have Hi := Lib.hid hi
      clear hcall hq hf hi
      go_wp2_with (go_at_fn g; refine Hc.out.mono ?_; rintro e w1 ⟨rfl, E1⟩)
      go_ret
      exact ⟨ret_int Hi.out.symm, hW.trans E1⟩
  · have hge : ¬ (k : Int) < N := by omega
    have hi : idxB p l = -1 := idxB_none (fun j y hy => hN.out j y (by have := (List.getElem?_eq_some_iff.1 hy).1; have := Hl.out; have := HN.out; omega) hy)
    have Hi := Lib.hid hi
    clear hi
    go_wp2
    go_ret
    exact ⟨ret_int Hi.out.symm, hW⟩

theorem hasTree {A : Option Addr} {n c : Nat} {l : List MsgR} {w : World} {g : FuncId} {lb : Array Value} {p : MsgR → Bool} (eg : ∀ args w, (callFunc g args).run Tryz.prog w = .ok (.enter g args) w) (hb : Reads w A n c 2 (l.flatMap treeC))  (hn : n ≤ 4000000000000)
  (hp : ∀ (W : World) (f : MsgR), f ∈ l → Ext w W → Calls Tryz.prog g (#[treeV f] ++ lb) W fun e W' => e = .returned (.bool (p f)) ∧ Ext W W') :
  Calls Tryz.prog 115 #[.slice A n c, .func (.func g) #[] lb] w fun e w' => e = .returned (.bool (l.any p)) ∧ Ext w w' := by
 have h := idxTree eg hb  hn hp
 rw [← idx_any]
 generalize idxB p l = I at *
 have H := Lib.hid h
 clear h hp hb
 go_enter Tryz.func115, Tryz.ntmps115
 go_wp2_with (go_at_call 163; refine H.out.mono ?_; rintro e w1 ⟨rfl, E1⟩)
 all_goals
  go_ret
  exact ⟨by simp, E1⟩

end Go.Proofs.YtnnphodgegcddaaGreat
