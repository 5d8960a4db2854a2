/- The walk of the law VarintList, out of its callees' contracts. -/
import Derived.Test.YtdihgdjinghnbaaKVarintReads
namespace Go.Proofs.Ytdihgdjinghnbaa
open Go.RowKit
set_option linter.unusedVariables false

theorem varintList_words {w : World} {A : Option Addr} {n c : Nat} {zs : List Int} (h : Reads w A n c 1 (zs.map (Value.int .u64))) (hw : ∀ z ∈ zs, (Lit.int .u64 z).wf = true) :
    ∃ l : List Nat, WordsAt w A n c l ∧ ∀ x ∈ l, x < 18446744073709551616 := by
  have hb : ∀ z ∈ zs, 0 ≤ z ∧ z < 18446744073709551616 := by
    intro z hz
    have := hw z hz
    simp [Lit.wf, IntKind.min, IntKind.max, IntKind.signed, IntKind.bits] at this
    omega
  refine ⟨zs.map Int.toNat, ?_, ?_⟩
  · unfold WordsAt
    rw [List.map_map]
    have e : zs.map (uv ∘ Int.toNat) = zs.map (Value.int .u64) := by
      apply List.map_congr_left
      intro z hz
      simp only [Function.comp_apply, uv]
      congr 1
      have := hb z hz
      omega
    rw [e]
    exact h
  · intro x hx
    obtain ⟨z, hz, rfl⟩ := List.mem_map.1 hx
    have := hb z hz
    omega

theorem varintList_walk {A : Option Addr} {n c : Nat} {zs : List Int} {w : World} (h : Reads w A n c 1 (zs.map (Value.int .u64)) ∧ ∀ z ∈ zs, (Lit.int .u64 z).wf = true) :
    Calls Try.prog 9 #[.slice A n c] w fun e w' => e = .returned (.bool true) ∧ Ext w w' := by
  obtain ⟨l, hb, hl64⟩ := varintList_words h.1 h.2
  have hmax := Reads.max hb
  have hcap := Reads.cap hb
  unfold maxLen at hmax
  clear h
  have hE := Ext.refl w
  by_cases hn : (300 : Int) < n
  · go_enter Try.func9, Try.ntmps9
    go_wp2_with (go_at_call 34; refine (alive02 _).mono ?_; rintro e w1 ⟨rfl, E1⟩)
    go_ret
    exact ⟨rfl, E1⟩
  · have hl := hb.length
    have Hl := Lib.hid hl
    have H64 := Lib.hid hl64
    clear hl hl64
    go_enter Try.func9, Try.ntmps9
    go_wp2_with (go_at_call 34; refine (alive02 _).mono ?_; rintro e w1 ⟨rfl, E1⟩; replace hE := hE.trans E1; clear E1)
    go_loopw [3, 4] (fun v i wr => ∃ (k m : Nat) (A1 : Option Addr) (c1 : Nat) (bs : List UInt8), k ≤ n ∧ i = .int .i64 k ∧ v = .slice A1 m c1 ∧ Own w wr 5 1 A1 m c1 (bs.map bv) ∧ Hid (bs = (l.take k).flatMap Lib.uvarint) ∧ m ≤ 10 * k) (fun _ i _ => n - (intOf i).toNat)
    case atStart => exact ⟨0, 0, none, 0, [], Nat.zero_le _, rfl, rfl, Own.nil hE 5 1, rfl, Nat.zero_le _⟩
    case round =>
      obtain ⟨k, m, A1, c1, bs, hk, rfl, rfl, own, hbs, hm⟩ := hrel
      by_cases hlt : (k : Int) < n
      · obtain ⟨b, off, x, rfl, hx, hcell⟩ := WordsAt.word (hb.ext own.ext) (show k < n by omega)
        have hx64 : x < 18446744073709551616 := H64.out x (List.mem_of_getElem? hx)
        have hsn := take_snoc l k x hx
        have hul := Lib.uvarint_length64 hx64
        have Hs := Lib.hid hsn
        have Hx := Lib.hid hx
        clear hsn hx
        go_wp2_with (go_at_call 43; refine (vPut own.reads (by omega) (by omega) (by omega)).mono ?_; rintro e w3 ⟨A3, c3, rfl, own3⟩; rw [Int.toNat_natCast] at own3)
        go_roundw
        case rel =>
          refine ⟨k + 1, m + (Lib.uvarint x).length, A3, c3, bs ++ Lib.uvarint x, by omega, by go_num, rfl, own3.since own.ext, ?_, by omega⟩
          show _ = _
          rw [Hs.out, List.flatMap_append, hbs.out]
          simp
        case measure => simp [intOf]; omega
      · have hkn : l.take k = l := List.take_of_length_le (by have := Hl.out; omega)
        have hall := allV_uvarints l H64.out
        have hb2 := hbs.out
        rw [hkn] at hb2
        rw [← hb2] at hall
        have hlen := own.reads.len
        have ha := fun (w' : World) (h : BytesAt w' A1 m c1 bs) => vAll h (by omega)
        rw [hall] at ha
        have hll := Hl.out
        simp only [hll] at ha
        have Ha := Lib.hid ha
        clear ha hkn hall hlen hll
        have hE2 := own.ext
        by_cases hn0 : (n : Int) = 0
        · have q0 : ((n : Int) == 0) = true := by simp; omega
          have Hn := Lib.hid hn0
          clear hn0
          go_wp2_with (first | (go_at_call 38; refine (Ha.out _ own.reads).mono ?_; rintro e w4 ⟨A4, c4, rfl, own4⟩; replace hE2 := hE2.trans own4.ext) | (go_at_call 41; refine (sameU own4.reads (hb.ext hE2) (by omega)).mono ?_; rintro e w5 ⟨rfl, E5⟩; replace hE2 := hE2.trans E5))
          go_ret
          exact ⟨rfl, hE2⟩
        · have q0 : ((n : Int) == 0) = false := by simp; omega
          have hn1 : (1 : Int) ≤ n := by omega
          clear hn0
          obtain ⟨b, off, x, rfl, hx, hcell⟩ := WordsAt.word hb (show n - 1 < n by omega)
          have Hc := Lib.hid hcell
          have Hx := Lib.hid hx
          clear hcell hx
          by_cases h128 : (x : Int) < 128
          · go_wp2_with (first | (go_at_call 38; refine (Ha.out _ own.reads).mono ?_; rintro e w4 ⟨A4, c4, rfl, own4⟩; replace hE2 := hE2.trans own4.ext) | (go_at_call 41; refine (sameU own4.reads (hb.ext hE2) (by omega)).mono ?_; rintro e w5 ⟨rfl, E5⟩; replace hE2 := hE2.trans E5; have hcl := hE2.of_cell Hc.out))
            go_ret
            exact ⟨rfl, hE2⟩
          · have hx64 : x < 18446744073709551616 := H64.out x (List.mem_of_getElem? Hx.out)
            have hup := Lib.uvarint_big (show 128 ≤ x by omega)
            have hsplit : l = l.take (n - 1) ++ [x] := by
              have := take_snoc l (n - 1) x Hx.out
              rw [show n - 1 + 1 = n by omega, List.take_of_length_le (by have := Hl.out; omega)] at this
              exact this
            have hbl : bs = (l.take (n - 1)).flatMap Lib.uvarint ++ Lib.uvarint x := by
              rw [hb2]
              conv => lhs; rw [hsplit]
              rw [List.flatMap_append]
              simp
            have hmm : m = bs.length := by have := own.reads.len; simpa using this.symm
            have hpos := Lib.uvarint_pos x
            have hpos2 : 2 ≤ (Lib.uvarint x).length := by
              rw [hup]
              have := Lib.uvarint_pos (x / 128)
              simp; omega
            have hless := allV_less (l.take (n - 1)) ((Lib.uvarint x).take ((Lib.uvarint x).length - 1)) (fun y hy => H64.out y (List.mem_of_mem_take hy)) (by intro h; have := congrArg List.length h; rw [List.length_take] at this; simp at this; omega) (readV_less x hx64)
            have hdrop : bs.take (m - 1) = (l.take (n - 1)).flatMap Lib.uvarint ++ (Lib.uvarint x).take ((Lib.uvarint x).length - 1) := by
              rw [hbl, List.take_append, hmm, hbl, List.length_append]
              rw [List.take_of_length_le (by omega)]
              congr 2
              omega
            rw [← hdrop] at hless
            have hm1 : 1 ≤ m := by rw [hmm, hbl, List.length_append]; omega
            obtain ⟨A7, hrun7, hr7⟩ := cut_to elemB own.reads .i64 (m := m - 1) (by omega)
            have hr7' : BytesAt wr A7 (m - 1) c1 (bs.take (m - 1)) := by simpa [BytesAt, List.map_take] using hr7
            have hrun8 : ∀ W : World, (Instr.slice 31 (.slice A1 m c1) none (some (.int .i64 ((m : Int) - 1))) none).run Try.prog W = .ok (.slice A7 (m - 1) c1) W := by
              rw [show ((m : Int) - 1) = ((m - 1 : Nat) : Int) by omega]
              exact hrun7
            have ha2 := fun (w' : World) (h : BytesAt w' A7 (m - 1) c1 (bs.take (m - 1))) => vAll h (by omega)
            rw [hless] at ha2
            simp only [List.length_nil, List.map_nil] at ha2
            have Ha2 := Lib.hid ha2
            have hd : decide ((x : Int) < 128) = false := decide_eq_false h128
            clear ha2 hless hdrop hmm hpos hpos2 hbl hsplit hup hr7 hrun7 hb2
            go_wp2_with (first | (go_at_call 38; refine (Ha.out _ own.reads).mono ?_; rintro e w4 ⟨A4, c4, rfl, own4⟩; replace hE2 := hE2.trans own4.ext; replace hr7' := hr7'.ext own4.ext; clear own) | (go_at_call 41; refine (sameU own4.reads (hb.ext hE2) (by omega)).mono ?_; rintro e w5 ⟨rfl, E5⟩; replace hE2 := hE2.trans E5; have hcl := hE2.of_cell Hc.out; replace hr7' := hr7'.ext E5) | (go_at_call 38; refine (Ha2.out _ hr7').mono ?_; rintro e w6 ⟨A6, c6, rfl, own6⟩; replace hE2 := hE2.trans own6.ext))
            go_ret
            exact ⟨rfl, hE2⟩

end Go.Proofs.Ytdihgdjinghnbaa
