/- Contracts of layer 9: the reference. -/
import Derived.Test.YtpicpebolghcfaaGreatDoorQjW9
import Derived.Test.YtpicpebolghcfaaGreatDoorQjSA
import Derived.Test.YtpicpebolghcfaaGreatDoorQjW6
import Derived.Test.YtpicpebolghcfaaGreatDoorQjKScalarReads

/- Contracts of layer 9: the reference's ends of a run's values. -/
namespace Go.Proofs.YtpicpebolghcfaaGreatDoor
open Go.RowKit
set_option linter.unusedVariables false

def IntsAt (w : World) (A : Option Addr) (n c : Nat) (l : List Nat) : Prop := Reads w A n c 1 (l.map iv)

theorem uEndsR_no {A : Option Addr} {n c : Nat} {k : Int} {w : World} (hk : numberB k = false) :
    Calls Tryz.prog 52 #[.int .i64 k, .slice A n c] w fun e w' => e = .returned (.tuple #[.slice none 0 0, .int .i64 2]) ∧ w = w' := by
  have kn := fun W : World => kNumberR k W
  rw [hk] at kn
  have Kn := Lib.hid kn
  clear kn
  go_enter Tryz.func52, Tryz.ntmps52
  go_wp2_with (go_at_call 14; refine (Kn.out _).mono ?_; rintro e w' ⟨rfl, rfl⟩)
  go_ret2
  exact ⟨rfl, rfl⟩

set_option maxRecDepth 100000 in
set_option maxHeartbeats 1000000 in
theorem uEndsR {A : Option Addr} {n c : Nat} {bs : List UInt8} {k : Int} {w : World} (hb : BytesAt w A n c bs) (hn : n ≤ 1000000000) (hk : numberB k = true) :
    Calls Tryz.prog 52 #[.int .i64 k, .slice A n c] w fun e w' => ∃ A' c', e = .returned (.tuple #[.slice A' (endsV k bs).1.length c', .int .i64 ((endsV k bs).2 : Nat)]) ∧ Own w w' 3 1 A' (endsV k bs).1.length c' ((endsV k bs).1.map iv) := by
  have hlen := hb.length
  have kn := fun W : World => kNumberR k W
  rw [hk] at kn
  have Kn := Lib.hid kn
  have H0 := Lib.hid (SoFar.start hk bs)
  have Hk := Lib.hid hk
  clear kn hk
  go_enter Tryz.func52, Tryz.ntmps52
  go_wp2_with (go_at_call 14; refine (Kn.out _).mono ?_; rintro e w' ⟨rfl, rfl⟩)
  go_loopw [6, 7] (fun u i wr => ∃ (p : Nat) (A2 : Option Addr) (c2 : Nat) (d : List (List UInt8 × Nat)), p ≤ n ∧ i = .int .i64 p ∧ u = .slice A2 d.length c2 ∧ Own w wr 3 1 A2 d.length c2 ((endsOf 0 d).map iv) ∧ Hid (SoFar k bs d p)) (fun _ i _ => n - (intOf i).toNat)
  case atStart => exact ⟨0, none, 0, [], Nat.zero_le _, rfl, rfl, Own.nil (Ext.refl _) 3 1, H0⟩
  case round =>
    obtain ⟨p, A2, c2, d, hp, rfl, rfl, own, hS⟩ := hrel
    by_cases hlt : (p : Int) < n
    · have hdl := hS.out.len
      have hpl : p < bs.length := by omega
      have hdp : (bs.drop p).length = n - p := by rw [List.length_drop, hlen]
      by_cases h12 : k < 12
      · by_cases h9 : k < 9
        · rcases hv : readV (bs.drop p) with ⟨W, N, C⟩
          have hbd := readV_bd (bs.drop p)
          rw [hv] at hbd
          simp only at hbd
          obtain ⟨_, b2, _, b4, b5, b6⟩ := hbd
          have Hv := Lib.hid hv
          have hst : stepN k (bs.drop p) = (N, C) := by unfold stepN; rw [if_pos h9, hv]
          by_cases hC : C = 0
          · subst hC
            have b5' := b5 rfl
            have hfit : ¬ (n : Int) < (p : Int) + N := by omega
            have q : (((0 : Nat) : Int) != 0) = false := rfl
            have hsp : stepN k (bs.drop p) = (N, 0) := hst
            obtain ⟨s1, s2⟩ := hS.out.more hpl hsp
            have S1 := Lib.hid s1
            have S2 := Lib.hid s2
            clear hsp s1 s2 hpl hdp hlen hst hv b2 b4 b5 b6
            go_wp2_with (first | (go_at_call 70; refine (vReadR (hb.ext own.ext) rfl hp (by omega) Hv.out).mono ?_; rintro e w2 ⟨rfl, rfl⟩) | (at_builtin; refine wpList_one elemI rfl (.tmp 43) (.tmp 45) rfl rfl own rfl (by first | rfl | simp) rfl (by omega) (by unfold maxLen; omega) ?_; intro A4 c4 w4 own4 _))
            go_roundw
            case rel =>
              refine ⟨p + N, A4, c4, _, by omega, by go_num, ?_, ?_, S1⟩
              · simp only [List.length_append, List.length_singleton]
              · rw [S2.out]; simpa [iv] using own4
            case measure => simp [intOf]; omega
          · have q : ((C : Int) != 0) = true := by rw [bne_iff_ne]; omega
            have hN := (b6 hC).2
            subst hN
            have hsp : stepN k (bs.drop p) = (0, C) := hst
            have he := hS.out.bad hpl hsp (by omega)
            have He := Lib.hid he
            clear hsp he hpl hdp hlen hst hv b2 b4 b5 b6 hC
            go_wp2_with (go_at_call 70; refine (vReadR (hb.ext own.ext) rfl hp (by omega) Hv.out).mono ?_; rintro e w2 ⟨rfl, rfl⟩)
            rw [He.out]
            go_ret2
            exact ⟨none, 0, rfl, Own.nil own.ext 3 1⟩
        · by_cases hf : bs.length - p < 4
          · have hfit : (n : Int) < (p : Int) + 4 := by omega
            have hsp : stepN k (bs.drop p) = (0, 3) := by unfold stepN; rw [if_neg h9, if_pos h12, if_pos (by omega)]
            have he := hS.out.bad hpl hsp (by omega)
            have He := Lib.hid he
            clear hsp he hpl hdp hlen hf
            go_wp2
            rw [He.out]
            go_ret2
            exact ⟨none, 0, rfl, Own.nil own.ext 3 1⟩
          · have hfit : ¬ (n : Int) < (p : Int) + 4 := by omega
            have hsp : stepN k (bs.drop p) = (4, 0) := by unfold stepN; rw [if_neg h9, if_pos h12, if_neg (by omega)]
            obtain ⟨s1, s2⟩ := hS.out.more hpl hsp
            have S1 := Lib.hid s1
            have S2 := Lib.hid s2
            clear hsp s1 s2 hpl hdp hlen hf
            go_wp2_with (first | (at_builtin; refine wpList_one elemI rfl (.tmp 43) (.tmp 45) rfl rfl own rfl (by first | rfl | simp) rfl (by omega) (by unfold maxLen; omega) ?_; intro A4 c4 w4 own4 _))
            go_roundw
            case rel =>
              refine ⟨p + 4, A4, c4, _, by omega, by go_num, ?_, ?_, S1⟩
              · simp only [List.length_append, List.length_singleton]
              · rw [S2.out]; simpa [iv] using own4
            case measure => simp [intOf]; omega
      · have h9 : ¬ k < 9 := by omega
        by_cases hf : bs.length - p < 8
        · have hfit : (n : Int) < (p : Int) + 8 := by omega
          have hsp : stepN k (bs.drop p) = (0, 3) := by unfold stepN; rw [if_neg h9, if_neg h12, if_pos (by omega)]
          have he := hS.out.bad hpl hsp (by omega)
          have He := Lib.hid he
          clear hsp he hpl hdp hlen hf
          go_wp2
          rw [He.out]
          go_ret2
          exact ⟨none, 0, rfl, Own.nil own.ext 3 1⟩
        · have hfit : ¬ (n : Int) < (p : Int) + 8 := by omega
          have hsp : stepN k (bs.drop p) = (8, 0) := by unfold stepN; rw [if_neg h9, if_neg h12, if_neg (by omega)]
          obtain ⟨s1, s2⟩ := hS.out.more hpl hsp
          have S1 := Lib.hid s1
          have S2 := Lib.hid s2
          clear hsp s1 s2 hpl hdp hlen hf
          go_wp2_with (first | (at_builtin; refine wpList_one elemI rfl (.tmp 43) (.tmp 45) rfl rfl own rfl (by first | rfl | simp) rfl (by omega) (by unfold maxLen; omega) ?_; intro A4 c4 w4 own4 _))
          go_roundw
          case rel =>
            refine ⟨p + 8, A4, c4, _, by omega, by go_num, ?_, ?_, S1⟩
            · simp only [List.length_append, List.length_singleton]
            · rw [S2.out]; simpa [iv] using own4
          case measure => simp [intOf]; omega
    · have he := hS.out.ends (by omega)
      have He := Lib.hid he
      clear he hlen
      go_wp2
      rw [He.out]
      go_ret2
      refine ⟨A2, c2, ?_, ?_⟩
      · rw [endsOf_len]; rfl
      · rw [endsOf_len]; exact own

end Go.Proofs.YtpicpebolghcfaaGreatDoor

/- Contracts of layer 9: the reference's words of a run. -/
namespace Go.Proofs.YtpicpebolghcfaaGreatDoor
open Go.RowKit
set_option linter.unusedVariables false

theorem IntsAt.num {w : World} {A : Option Addr} {n c : Nat} {l : List Nat} (h : IntsAt w A n c l) {k : Nat} (hk : k < n) :
    ∃ b off x, A = some ⟨b, off, none⟩ ∧ l[k]? = some x ∧ w.cell? ⟨b, off + k, none⟩ = some (.int .i64 (x : Int)) := by
  obtain ⟨b, off, e, _, hc⟩ := Reads.at_ h (by omega)
  have hl : l.length = n := by have := Reads.len h; simpa using this
  have hx : l[k]? = some (l[k]'(by omega)) := List.getElem?_eq_getElem (by omega)
  exact ⟨b, off, _, e, hx, hc k _ (by rw [List.getElem?_map, hx]; rfl)⟩

theorem span_at9 {w : World} {A : Option Addr} {n c : Nat} {bs : List UInt8} (hb : BytesAt w A n c bs) {l m : Nat} (hl : l ≤ m) (hm : m ≤ n) :
    ∃ A', (∀ W : World, (Instr.slice 24 (.slice A n c) (some (.int .i64 (l : Int))) (some (.int .i64 (m : Int))) none).run Tryz.prog W = .ok (.slice A' (m - l) (c - l)) W) ∧ BytesAt w A' (m - l) (c - l) ((bs.take m).drop l) := by
  obtain ⟨A', h1, h2⟩ := cut_both elemB hb .i64 .i64 hl hm
  exact ⟨A', h1, by simpa [BytesAt, List.map_drop, List.map_take] using h2⟩

theorem endsV_no {k : Int} {bs : List UInt8} (hk : numberB k = false) : endsV k bs = ([], 2) := by
  unfold endsV
  rw [codeV_no hk]
  rfl

theorem uEndsRA {A : Option Addr} {n c : Nat} {bs : List UInt8} {k : Int} {w : World} (hb : BytesAt w A n c bs) (hn : n ≤ 1000000000) :
    Calls Tryz.prog 52 #[.int .i64 k, .slice A n c] w fun e w' => ∃ A' c', e = .returned (.tuple #[.slice A' (endsV k bs).1.length c', .int .i64 ((endsV k bs).2 : Nat)]) ∧ Own w w' 3 1 A' (endsV k bs).1.length c' ((endsV k bs).1.map iv) := by
  rcases hk : numberB k with _ | _
  · rw [endsV_no hk]
    refine (uEndsR_no hk).mono ?_
    rintro e w' ⟨rfl, rfl⟩
    exact ⟨none, 0, rfl, Own.nil (Ext.refl _) 3 1⟩
  · exact uEndsR hb hn hk

theorem words_ends (k : Int) (bs : List UInt8) : (wordsV k bs).1.length = (endsV k bs).1.length ∧ (wordsV k bs).2 = (endsV k bs).2 ∧ (endsV k bs).1.length ≤ bs.length + 1 := by
  have := valsV_len k bs
  unfold wordsV endsV
  by_cases h : codeV k bs = 0
  · simp only [if_pos h, List.length_map, endsOf_len]
    exact ⟨trivial, trivial, this⟩
  · simp only [if_neg h, List.length_nil]
    exact ⟨trivial, trivial, Nat.zero_le _⟩

theorem word_at {k : Int} {bs : List UInt8} {p : Nat} (hp : p < (endsV k bs).1.length) :
    ∃ (S0 S1 : Nat) (W C : Nat), (endsV k bs).1[p]? = some S1 ∧ (p = 0 → S0 = 0) ∧ (∀ q, p = q + 1 → (endsV k bs).1[q]? = some S0) ∧ S0 ≤ S1 ∧ S1 ≤ bs.length ∧ readS k ((bs.take S1).drop S0) = (W, C) ∧ (wordsV k bs).1[p]? = some W := by
  have h0 : codeV k bs = 0 := by
    by_cases h : codeV k bs = 0
    · exact h
    · unfold endsV at hp
      simp only [if_neg h, List.length_nil] at hp
      omega
  unfold endsV at hp ⊢
  unfold wordsV
  simp only [if_pos h0, endsOf_len] at hp ⊢
  have hx : (valsV k bs)[p]? = some ((valsV k bs)[p]) := List.getElem?_eq_getElem hp
  obtain ⟨c1, c2, c3⟩ := joinL_cut _ p _ hx
  rw [valsV_join h0] at c1 c3
  refine ⟨sumL ((valsV k bs).take p), sumL ((valsV k bs).take (p + 1)), (readS k (valsV k bs)[p].1).1, (readS k (valsV k bs)[p].1).2, ?_, fun h => by subst h; rfl, fun q hq => ?_, by omega, c3, by rw [c1], by rw [List.getElem?_map, hx]; rfl⟩
  · rw [endsOf_at _ 0 p hp, Nat.zero_add]
  · subst hq
    rw [endsOf_at _ 0 q (by omega), Nat.zero_add]

set_option maxRecDepth 100000 in
set_option maxHeartbeats 1000000 in
theorem uWordsR {A : Option Addr} {n c : Nat} {bs : List UInt8} {k : Int} {w : World} (hb : BytesAt w A n c bs) (hn : n ≤ 1000000000) :
    Calls Tryz.prog 23 #[.int .i64 k, .slice A n c] w fun e w' => ∃ A' c', e = .returned (.tuple #[.slice A' (wordsV k bs).1.length c', .int .i64 ((wordsV k bs).2 : Nat)]) ∧ Own w w' 68 1 A' (wordsV k bs).1.length c' ((wordsV k bs).1.map uv) := by
  have hlen := hb.length
  obtain ⟨e1, e2, e3⟩ := words_ends k bs
  have Hw := Lib.hid (fun p => @word_at k bs p)
  have hE := uEndsRA (k := k) hb hn
  rw [e1, e2]
  generalize hL : (endsV k bs).1 = L at *
  generalize (endsV k bs).2 = C0 at *
  generalize hWs : (wordsV k bs).1 = Ws at *
  have HL := Lib.hid hL
  have HWs := Lib.hid hWs
  have HE := Lib.hid hE
  have He1 := Lib.hid e1
  clear hL hWs hE e1 e2
  go_enter Tryz.func23, Tryz.ntmps23
  go_wp2_with (go_at_call 52; refine HE.out.mono ?_; rintro e w1 ⟨A1, c1, rfl, own1⟩)
  go_loopw [8, 9] (fun u i wr => ∃ (p : Nat) (A2 : Option Addr) (c2 : Nat), p ≤ L.length ∧ i = .int .i64 p ∧ u = .slice A2 p c2 ∧ Own w1 wr 68 1 A2 p c2 ((Ws.take p).map uv)) (fun _ i _ => L.length - (intOf i).toNat)
  case atStart => exact ⟨0, none, 0, Nat.zero_le _, rfl, rfl, Own.nil (Ext.refl _) 68 1⟩
  case round =>
    obtain ⟨p, A2, c2, hp, rfl, rfl, own⟩ := hrel
    by_cases hlt : p < L.length
    · have hlti : (p : Int) < L.length := by omega
      have hw2 := Hw.out p hlt
      obtain ⟨S0, S1, W, C, g1, g2, g3, g4, g5, g6, g7⟩ := hw2
      obtain ⟨b, off, x, rfl, hx, hcell⟩ := IntsAt.num (l := L) (Reads.ext own1.reads own.ext) hlt
      have hx2 : x = S1 := by have := g1.symm.trans hx; injection this with this; exact this.symm
      subst hx2
      obtain ⟨A5, hcut, hb5⟩ := span_at9 hb g4 (by omega : x ≤ n)
      have G6 := Lib.hid g6
      have hs : Ws.take (p + 1) = Ws.take p ++ [W] := by rw [List.take_add_one, g7]; rfl
      have Hs := Lib.hid hs
      have hi1 : (S0 : Int) ≤ x := by omega
      have hi2 : (x : Int) ≤ n := by omega
      have hcap := Reads.cap hb
      by_cases hp0 : p = 0
      · have hS0 := g2 hp0
        subst hS0
        subst hp0
        rw [Nat.add_zero] at hcell
        simp only [Nat.sub_zero, show ((0 : Nat) : Int) = 0 from rfl] at hcut hb5
        clear g1 g3 g6 g7 hx hs g2
        go_wp2_with (first | (go_at_call 39; refine (sReadR (hb5.up (own1.ext.trans own.ext)) (by omega) G6.out).mono ?_; rintro e w2 ⟨rfl, rfl⟩) | (at_builtin; refine wpList_one elemU rfl (.tmp 44) (.tmp 46) rfl rfl own rfl (by first | rfl | simp) rfl (by omega) (by unfold maxLen; omega) ?_; intro A4 c4 w4 own4 _))
        go_roundw
        case rel => exact ⟨0 + 1, A4, c4, by omega, by go_num, rfl, by rw [Hs.out]; simpa [uv] using own4⟩
        case measure => simp [intOf]; omega
      · obtain ⟨q, rfl⟩ : ∃ q, p = q + 1 := ⟨p - 1, by omega⟩
        have hq := g3 q rfl
        obtain ⟨b', off', y, e, hy, hcell2⟩ := IntsAt.num (l := L) (Reads.ext own1.reads own.ext) (show q < L.length by omega)
        cases e
        have hy2 : y = S0 := by have := hq.symm.trans hy; injection this with this; exact this.symm
        subst hy2
        clear g1 g2 g3 g6 g7 hx hs hq hy hp0
        have hq0 : (0 : Int) < ((q + 1 : Nat) : Int) := by omega
        go_wp2_with (first | (go_at_call 39; refine (sReadR (hb5.up (own1.ext.trans own.ext)) (by omega) G6.out).mono ?_; rintro e w2 ⟨rfl, rfl⟩) | (at_builtin; refine wpList_one elemU rfl (.tmp 44) (.tmp 46) rfl rfl own rfl (by first | rfl | simp) rfl (by omega) (by unfold maxLen; omega) ?_; intro A4 c4 w4 own4 _))
        go_roundw
        case rel => exact ⟨q + 1 + 1, A4, c4, by omega, by go_num, rfl, by rw [Hs.out]; simpa [uv] using own4⟩
        case measure => simp [intOf]; omega
    · have hpn : p = L.length := by omega
      subst hpn
      go_wp2
      go_ret2
      refine ⟨A2, c2, rfl, ?_⟩
      have := own.since own1.ext
      rwa [List.take_of_length_le (by have := He1.out; omega)] at this

end Go.Proofs.YtpicpebolghcfaaGreatDoor

/- Contracts of layer 9: the word of a place. -/
namespace Go.Proofs.YtpicpebolghcfaaGreatDoor
open Go.RowKit
set_option linter.unusedVariables false

end Go.Proofs.YtpicpebolghcfaaGreatDoor
