/- The walk of the law SchemaFinds, out of its callees' contracts. -/
import Derived.Test.YtalhnggfilgmjaaKSchemaChecks
import Derived.Test.YtalhnggfilgmjaaW7h
import Derived.Test.YtalhnggfilgmjaaWI
import Derived.Test.YtalhnggfilgmjaaW10
namespace Go.Proofs.Ytalhnggfilgmjaa
open Go.RowKit
set_option linter.unusedVariables false

theorem rNamed {s t : ByteArray} {A : Option Addr} {n c : Nat} {l : List FieldD} {w : World} (hb : FieldsAt w A n c l) (hn : n ≤ 1000000000000) :
    Calls Try.prog 21 #[.agg #[.string s, .slice A n c], .string t] w fun e w' => e = .returned (.int .i64 (idxB (fnameP t) l)) ∧ Ext w w' := by
  have hl := hb.length
  have Hl := Lib.hid hl
  clear hl
  have hbw : FieldsAt (w.alloc (.cells #[.string s, .slice A n c] 36)) A n c l := hb.up (by repeat with_reducible (first | exact Ext.refl _ | refine Ext.alloc ?_ _ | refine Ext.drew ?_ | refine Ext.drewN ?_ _ | refine Ext.setCell ?_ (by first | exact Nat.le_refl _ | omega | (simp; done) | (simp; omega)) _))
  go_enter Try.func21, Try.ntmps21
  go_wp2
  go_loop [5] (fun i => ∃ k : Nat, k ≤ n ∧ i = .int .i64 k ∧ Hid (∀ (j : Nat) y, j < k → l[j]? = some y → fnameP t y = false)) (fun i => n - (intOf i).toNat)
  case atStart => exact ⟨0, Nat.zero_le _, rfl, fun j y h => absurd h (Nat.not_lt_zero j)⟩
  case round =>
    obtain ⟨k, hk, rfl, hN⟩ := hrel
    by_cases hlt : k < n
    · have hlt2 : (k : Int) < n := by omega
      obtain ⟨b, off, f, rfl, hf, hok, hb1, c0, c1, c2, c3, c4, c5⟩ := hbw.field hlt
      by_cases hq : f.name = t
      · have hp : fnameP t f = true := decide_eq_true hq
        have hi := idxB_found hf hp hN.out
        have Hi := Lib.hid hi
        subst hq
        clear hi hp
        go_wp2
        go_ret
        exact ⟨ret_int Hi.out.symm, (by repeat with_reducible (first | exact Ext.refl _ | refine Ext.alloc ?_ _ | refine Ext.drew ?_ | refine Ext.drewN ?_ _ | refine Ext.setCell ?_ (by first | exact Nat.le_refl _ | omega | (simp; done) | (simp; omega)) _))⟩
      · have hp : fnameP t f = false := decide_eq_false hq
        have hs := str_ne hq
        have Hf := Lib.hid hf
        have Hp := Lib.hid hp
        clear hf hp hq
        go_wp2
        go_round
        case rel =>
          refine ⟨k + 1, by omega, by go_num, fun j y hj hy => ?_⟩
          by_cases e : j = k
          · subst e
            have := Hf.out.symm.trans hy
            cases this
            exact Hp.out
          · exact hN.out j y (by omega) hy
        case measure => simp [intOf]; omega
    · have hk2 : k = n := by omega
      subst hk2
      have hi : idxB (fnameP t) l = -1 := idxB_none (fun j y hy => hN.out j y (by have := (List.getElem?_eq_some_iff.1 hy).1; have := Hl.out; omega) hy)
      have Hi := Lib.hid hi
      clear hi
      go_wp2
      go_ret
      exact ⟨ret_int Hi.out.symm, (by repeat with_reducible (first | exact Ext.refl _ | refine Ext.alloc ?_ _ | refine Ext.drew ?_ | refine Ext.drewN ?_ _ | refine Ext.setCell ?_ (by first | exact Nat.le_refl _ | omega | (simp; done) | (simp; omega)) _))⟩

/-- The first from a place on. -/
def FromP (s : ByteArray) (S : List MsgV) (k : Nat) (W : Int) : Prop :=
  (W = -1 ∧ ∀ (j : Nat) x, k ≤ j → S[j]? = some x → mnameP s x = false) ∨ ∃ (j : Nat) (x : MsgV), k ≤ j ∧ W = (j : Nat) ∧ S[j]? = some x ∧ mnameP s x = true ∧ ∀ (i : Nat) y, k ≤ i → i < j → S[i]? = some y → mnameP s y = false

theorem FromP.all {s : ByteArray} {S : List MsgV} {W : Int} (h : FromP s S 0 W) : W = idxB (mnameP s) S := by
  rcases h with ⟨rfl, h⟩ | ⟨j, x, _, rfl, hx, hp, hn⟩
  · exact (idxB_none (fun j y hy => h j y (Nat.zero_le _) hy)).symm
  · exact (idxB_found hx hp (fun i y hi hy => hn i y (Nat.zero_le _) hi hy)).symm

theorem FromP.yes {s : ByteArray} {S : List MsgV} {k : Nat} {x : MsgV} (h : S[k]? = some x) (hp : mnameP s x = true) : FromP s S k (k : Nat) :=
  .inr ⟨k, x, Nat.le_refl _, rfl, h, hp, fun i y h1 h2 => by omega⟩

theorem FromP.no {s : ByteArray} {S : List MsgV} {k : Nat} {W : Int} {x : MsgV} (h : S[k]? = some x) (hp : mnameP s x = false) (hF : FromP s S (k + 1) W) : FromP s S k W := by
  have hk : ∀ y, S[k]? = some y → mnameP s y = false := fun y hy => by
    rw [h] at hy
    cases hy
    exact hp
  rcases hF with ⟨rfl, h2⟩ | ⟨j, y, h1, rfl, hy, hp2, hn⟩
  · refine .inl ⟨rfl, fun j y hj hy => ?_⟩
    rcases Nat.lt_or_ge k j with g | g
    · exact h2 j y g hy
    · obtain rfl : j = k := by omega
      exact hk y hy
  · refine .inr ⟨j, y, by omega, rfl, hy, hp2, fun i z hi hij hz => ?_⟩
    rcases Nat.lt_or_ge k i with g | g
    · exact hn i z g hij hz
    · obtain rfl : i = k := by omega
      exact hk z hz

theorem copied_n {w w' : World} {A B : Option Addr} {n c m d K : Nat} {S T : List MsgV} (h : SchemaAt w A n c S) (k : SchemaAt w' B m d T) (e : S.map MsgV.d = T.map MsgV.d) (hT : ∀ y ∈ T, y.n ≤ K) : ∀ x ∈ S, x.n ≤ K := by
  intro x hx
  have hmd : x.d ∈ T.map MsgV.d := by rw [← e]; exact List.mem_map.2 ⟨x, hx, rfl⟩
  obtain ⟨y, hy, e2⟩ := List.mem_map.1 hmd
  have h1 := (h.2 x hx).1.length
  have h2 := (k.2 y hy).1.length
  rw [e2] at h2
  have := hT y hy
  omega

set_option maxRecDepth 100000 in
set_option maxHeartbeats 4000000 in
theorem schemaFinds_walk {A B C : Option Addr} {n c m d q e : Nat} {S T : List MsgV} {fs : List FieldD} {mn nm : ByteArray} {num : Int} {w : World} (hs : SchemaAt w A n c S) (hSc : ∀ x ∈ S, x.c ≤ 2932031007317) (hc : c ≤ 3518437208780) (ht : SchemaAt w B m d T) (hTc : ∀ x ∈ T, x.c ≤ 2932031007317) (hd : d ≤ 3518437208780)
    (hf : FieldsAt w C q e fs) (hnm : nm.size ≤ maxLen) (hnum : -9223372036854775808 ≤ num ∧ num < 9223372036854775808) :
    Calls Try.prog 4 #[.slice A n c, .slice B m d, .agg #[.string mn, .slice C q e], .string nm, .int .i64 num] w fun e w' => e = .returned (.bool true) ∧ Ext w w' := by
  have hnc := Reads.cap hs.1
  have hmd := Reads.cap ht.1
  have hSn : ∀ x ∈ S, x.n ≤ 2932031007317 := fun x hx => by have := (hs.2 x hx).1.1.cap; have := hSc x hx; omega
  have hTn : ∀ x ∈ T, x.n ≤ 2932031007317 := fun x hx => by have := (ht.2 x hx).1.1.cap; have := hTc x hx; omega
  have HSn := Lib.hid hSn
  have HTn := Lib.hid hTn
  clear hSc hTc hSn hTn hnm
  obtain ⟨I, hI⟩ : ∃ I, I = idxB (mnameP nm) S := ⟨_, rfl⟩
  have hIb := idxB_bd (mnameP nm) S
  rw [← hI] at hIb
  have HI := Lib.hid hI
  clear hI
  go_enter Try.func4, Try.ntmps4
  go_upto_region 3 with (go_at_call 15; refine (alive07 _).mono ?_; rintro x w1 ⟨rfl, E1⟩)
  have BM := E1.new_blk
  have X1 : Ext w w1 := Ext.trans (by repeat with_reducible (first | exact Ext.refl _ | refine Ext.alloc ?_ _ | refine Ext.drew ?_ | refine Ext.drewN ?_ _ | refine Ext.setCell ?_ (by first | exact Nat.le_refl _ | omega | (simp; done) | (simp; omega)) _)) E1
  have m0 : w1.cell? ⟨w.heap.size, 0, none⟩ = some (.string mn) := BM.cell 0
  have m1 : w1.cell? ⟨w.heap.size, 1, none⟩ = some (.slice C q e) := BM.cell 1
  have ml := BM.lt
  go_cut [41] (fun t wz => ∃ b, t = .bool b ∧ (b = false → q ≤ 300) ∧ Ext w1 wz)
  case first =>
    have hs1 := hs.up X1
    have ht1 := ht.up X1
    go_wp2_with (first
      | (go_at_call 16; refine (few07 hs1).mono ?_; rintro y w2 ⟨x, rfl, E2⟩; replace ht1 := ht1.up E2; clear hs1; have n1 := E2.of_cell m1; have nl := Nat.lt_of_lt_of_le ml E2.size)
      | (go_at_call 16; refine (few07 ht1).mono ?_; rintro y w3 ⟨x', rfl, E3⟩; have k1 := E3.of_cell n1; have kl := Nat.lt_of_lt_of_le nl E3.size))
    all_goals
      go_meet
      refine ⟨_, rfl, ?_, by first | exact E2.trans E3 | exact E2⟩
      first | (intro h; cases h; done) | (intro h; simp at h; omega)
  case rest =>
    obtain ⟨b, rfl, hb, Xc⟩ := hcut
    rcases b with _ | _
    · have hq300 := hb rfl
      clear hb E1 BM
      by_cases hI0 : I < 0
      · obtain rfl : I = -1 := by omega
        have hsc := hs.up (X1.trans Xc)
        have c1 := Xc.of_cell m1
        have c0 := Xc.of_cell m0
        have cl := Nat.lt_of_lt_of_le ml Xc.size
        have hmsg := sMessage hsc (by omega) HI.out.symm
        have Hmsg := Lib.hid hmsg
        clear hmsg
        go_wp2_with (go_at_call 17; refine Hmsg.out.mono ?_; rintro y w2 ⟨rfl, E2⟩)
        have X2 : Ext w w2 := (X1.trans Xc).trans E2
        have k1 := E2.of_cell c1
        have k0 := E2.of_cell c0
        have kl := Nat.lt_of_lt_of_le cl E2.size
        clear Hmsg
        go_loopw [13, 14] (fun u v wr => ∃ (k : Nat) (W : Int), k ≤ n ∧ v = .int .i64 ((k : Int) - 1) ∧ u = .int .i64 W ∧ Hid (FromP nm S k W) ∧ wr = w2) (fun _ v _ => (intOf v + 1).toNat)
        case atStart => exact ⟨n, -1, Nat.le_refl _, rfl, rfl, .inl ⟨rfl, fun j x hj hx => by rw [List.getElem?_eq_none (by rw [hs.length]; exact hj)] at hx; cases hx⟩, rfl⟩
        case round =>
          obtain ⟨k, W, hk, rfl, rfl, hF, rfl⟩ := hrel
          rcases k with _ | p
          · have hW : W = -1 := hF.out.all.trans HI.out.symm
            subst hW
            obtain ⟨J1, hJ1⟩ : ∃ J, J = idxB (numP num) fs := ⟨_, rfl⟩
            obtain ⟨J2, hJ2⟩ : ∃ J, J = idxB (fnameP nm) fs := ⟨_, rfl⟩
            have hnum' := fun W (h : Ext w W) => sByNumber (s := mn) (x := num) (hf.up h) (by omega) hJ1.symm
            have hnam' := fun W (h : Ext w W) => sByName (s := mn) (t := nm) (hf.up h) (by omega) hJ2.symm
            have hfie' := fun W (h : Ext w W) => rField (s := mn) (x := num) (hf.up h) (by omega)
            have hned' := fun W (h : Ext w W) => rNamed (s := mn) (t := nm) (hf.up h) (by omega)
            rw [← hJ1] at hfie'
            rw [← hJ2] at hned'
            have Hnum := Lib.hid hnum'
            have Hnam := Lib.hid hnam'
            have Hfie := Lib.hid hfie'
            have Hned := Lib.hid hned'
            have mx1 := fun ts t w => run_max_i (P := Try.prog) ts t .i64 .i64 J1 0 w
            have mx2 := fun ts t w => run_max_i (P := Try.prog) ts t .i64 .i64 J2 0 w
            have mx3 : ∀ ts t w, (Builtin.max_ ts t #[.int .i64 (-1), .int .i64 0]).run Try.prog w = .ok (.int .i64 0) w := fun ts t w => by rw [run_max_i]; rfl
            clear hnum' hnam' hfie' hned' hJ1 hJ2 HI hF
            go_wp2_with (first
              | (go_at_call 18; refine (Hnum.out _ X2).mono ?_; rintro y w3 ⟨rfl, E3⟩; have X3 := X2.trans E3; have p1 := E3.of_cell k1; have p0 := E3.of_cell k0; have pl := Nat.lt_of_lt_of_le kl E3.size)
              | (go_at_call 19; refine (Hnam.out _ X3).mono ?_; rintro y w4 ⟨rfl, E4⟩; have X4 := X3.trans E4; have r1 := E4.of_cell p1; have r0 := E4.of_cell p0; have rl := Nat.lt_of_lt_of_le pl E4.size))
            go_region_held3 (fun W => Ext w4 W ∧ ∀ b o, b < w4.heap.size → W.cell? ⟨b, o, none⟩ = w4.cell? ⟨b, o, none⟩) ((refine Ext.keep ?_; repeat with_reducible (first | assumption | exact Ext.refl _ | refine Ext.alloc ?_ _ | refine Ext.drew ?_ | refine Ext.drewN ?_ _ | refine Ext.setCell ?_ (by first | exact Nat.le_refl _ | omega | (simp; done) | (simp; omega)) _))) (first
              | (go_split_ands; go_at_call 20; refine (Hfie.out _ (X4.trans (by with_reducible assumption))).mono ?_; rintro y w5 ⟨rfl, E5⟩; have q5 : Ext w4 w5 := Ext.trans (by with_reducible assumption) E5)
              | (go_split_ands; go_at_call 21; refine (Hned.out _ (X4.trans (by with_reducible assumption))).mono ?_; rintro y w6 ⟨rfl, E6⟩; have q6 : Ext w4 w6 := Ext.trans (by with_reducible assumption) E6))
            have X6 : Ext w w6 := X4.trans q6
            have u1 := q6.of_cell r1
            have u0 := q6.of_cell r0
            have ul := Nat.lt_of_lt_of_le rl q6.size
            have hsS := fun W (h : Ext w W) => sSameS (hs.up h) (ht.up h) (by omega) (fun x hx => by have := HSn.out x hx; omega)
            have hsR := fun W (h : Ext w W) => sSameR (hs.up h) (ht.up h) (by omega) (fun x hx => by have := HSn.out x hx; omega)
            have hCo := fun W (h : Ext w W) => sCopy (hs.up h) (by omega) HSn.out
            generalize decide (S.map MsgV.d = T.map MsgV.d) = DD at hsS hsR
            have HsS := Lib.hid hsS
            have HsR := Lib.hid hsR
            have HCo := Lib.hid hCo
            clear hsS hsR hCo mx3
            rename Ext w4 w6 ∧ _ => hh
            clear hh
            go_wp2
            go_region_held3 (fun W => Ext w6 W ∧ ∀ b o, b < w6.heap.size → W.cell? ⟨b, o, none⟩ = w6.cell? ⟨b, o, none⟩) ((refine Ext.keep ?_; repeat with_reducible (first | assumption | exact Ext.refl _ | refine Ext.alloc ?_ _ | refine Ext.drew ?_ | refine Ext.drewN ?_ _ | refine Ext.setCell ?_ (by first | exact Nat.le_refl _ | omega | (simp; done) | (simp; omega)) _))) (first
              | (go_split_ands; go_at_call 23; refine (sSorted (hf.up (X6.trans (by with_reducible assumption))) (by omega)).mono ?_; rintro y w7 ⟨A7, c7, rfl, own7⟩; have q7 : Ext w6 w7 := Ext.trans (by with_reducible assumption) own7.ext; have i7 := own7.reads)
              | (go_split_ands; go_at_call 24; refine (sSortedR (hf.up (X6.trans (by with_reducible assumption))) (by omega)).mono ?_; rintro y w8 ⟨A8, c8, rfl, own8⟩; have q8 : Ext w6 w8 := Ext.trans (by with_reducible assumption) own8.ext; have i8 := own8.reads; have j7 := i7.up (Ext.trans (by repeat with_reducible (first | exact Ext.refl _ | refine Ext.alloc ?_ _ | refine Ext.drew ?_ | refine Ext.drewN ?_ _ | refine Ext.setCell ?_ (by first | exact Nat.le_refl _ | omega | (simp; done) | (simp; omega)) _)) own8.ext))
              | (go_split_ands; go_at_call 22; refine (sameI (j7.up (by repeat with_reducible (first | exact Ext.refl _ | refine Ext.alloc ?_ _ | refine Ext.drew ?_ | refine Ext.drewN ?_ _ | refine Ext.setCell ?_ (by first | exact Nat.le_refl _ | omega | (simp; done) | (simp; omega)) _))) (i8.up (by repeat with_reducible (first | exact Ext.refl _ | refine Ext.alloc ?_ _ | refine Ext.drew ?_ | refine Ext.drewN ?_ _ | refine Ext.setCell ?_ (by first | exact Nat.le_refl _ | omega | (simp; done) | (simp; omega)) _))) (by omega)).mono ?_; rintro y w9 ⟨rfl, E9⟩; have q9 : Ext w6 w9 := Ext.trans (by with_reducible assumption) E9)
              | (go_split_ands; go_at_call 25; refine (HsS.out _ (X6.trans (by with_reducible assumption))).mono ?_; rintro y wA ⟨rfl, EA⟩; have qA : Ext w6 wA := Ext.trans (by with_reducible assumption) EA)
              | (go_split_ands; go_at_call 26; with_reducible refine (HsR.out _ (X6.trans (by with_reducible assumption))).mono ?_; rintro y wB ⟨rfl, EB⟩; have qB : Ext w6 wB := Ext.trans (by with_reducible assumption) EB)
              | (go_split_ands; go_at_call 27; refine (HCo.out _ (X6.trans (by with_reducible assumption))).mono ?_; rintro y wC ⟨AC, cC, SC, rfl, hsC, hdC, EC⟩; have qC : Ext w6 wC := Ext.trans (by with_reducible assumption) EC)
              | (go_split_ands; go_at_call 26; refine (sSameR (hsC.up (by repeat with_reducible (first | exact Ext.refl _ | refine Ext.alloc ?_ _ | refine Ext.drew ?_ | refine Ext.drewN ?_ _ | refine Ext.setCell ?_ (by first | exact Nat.le_refl _ | omega | (simp; done) | (simp; omega)) _))) (hs.up (X6.trans (by with_reducible assumption))) (by omega) (fun x hx => by have := HSn.out; have := copied_n hsC hs hdC (fun y hy => HSn.out y hy) x hx; omega)).mono ?_; rintro y wD ⟨rfl, ED⟩; have qD : Ext w6 wD := Ext.trans (by with_reducible assumption) ED; rw [decide_eq_true hdC]))
            go_wp2
            go_ret
            exact ⟨rfl, X6.trans qD⟩
          · have hpn : p < n := by omega
            have hpI : (p : Int) < n := by omega
            obtain ⟨b1, off1, x, rfl, hx, _, _, hb1, d0, d1⟩ := (hs.up X2).msg hpn
            have Hx := Lib.hid hx
            have z1 : ((p + 1 : Nat) : Int) - 1 = p := by omega
            by_cases hq : x.d.name = nm
            · have hp : mnameP nm x = true := decide_eq_true hq
              have Hp := Lib.hid hp
              have hq2 : (x.d.name.toList == nm.toList) = true := by rw [str_eq]; exact decide_eq_true hq
              clear hx hp hq
              go_wp2
              go_roundw
              case rel => exact ⟨p, p, by omega, by go_num, congrArg (Value.int .i64) (by omega), FromP.yes Hx.out Hp.out, by first | rfl | trivial⟩
              case measure => simp [intOf]
            · have hp : mnameP nm x = false := decide_eq_false hq
              have Hp := Lib.hid hp
              have hq2 := str_ne hq
              clear hx hp hq
              go_wp2
              go_roundw
              case rel => exact ⟨p, W, by omega, by go_num, rfl, hF.out.no Hx.out Hp.out, by first | rfl | trivial⟩
              case measure => simp [intOf]
      · obtain ⟨p0, rfl⟩ : ∃ p0 : Nat, I = p0 := ⟨I.toNat, by omega⟩
        have hsc := hs.up (X1.trans Xc)
        have c1 := Xc.of_cell m1
        have c0 := Xc.of_cell m0
        have cl := Nat.lt_of_lt_of_le ml Xc.size
        have hmsg := sMessage hsc (by omega) HI.out.symm
        rw [if_neg hI0, if_neg hI0] at hmsg
        have Hmsg := Lib.hid hmsg
        clear hmsg
        go_wp2_with (go_at_call 17; refine Hmsg.out.mono ?_; rintro y w2 ⟨rfl, E2⟩)
        have X2 : Ext w w2 := (X1.trans Xc).trans E2
        have k1 := E2.of_cell c1
        have k0 := E2.of_cell c0
        have kl := Nat.lt_of_lt_of_le cl E2.size
        clear Hmsg
        go_loopw [13, 14] (fun u v wr => ∃ (k : Nat) (W : Int), k ≤ n ∧ v = .int .i64 ((k : Int) - 1) ∧ u = .int .i64 W ∧ Hid (FromP nm S k W) ∧ wr = w2) (fun _ v _ => (intOf v + 1).toNat)
        case atStart => exact ⟨n, -1, Nat.le_refl _, rfl, rfl, .inl ⟨rfl, fun j x hj hx => by rw [List.getElem?_eq_none (by rw [hs.length]; exact hj)] at hx; cases hx⟩, rfl⟩
        case round =>
          obtain ⟨k, W, hk, rfl, rfl, hF, rfl⟩ := hrel
          rcases k with _ | p
          · have hW : W = (p0 : Int) := hF.out.all.trans HI.out.symm
            subst hW
            obtain ⟨J1, hJ1⟩ : ∃ J, J = idxB (numP num) fs := ⟨_, rfl⟩
            obtain ⟨J2, hJ2⟩ : ∃ J, J = idxB (fnameP nm) fs := ⟨_, rfl⟩
            have hnum' := fun W (h : Ext w W) => sByNumber (s := mn) (x := num) (hf.up h) (by omega) hJ1.symm
            have hnam' := fun W (h : Ext w W) => sByName (s := mn) (t := nm) (hf.up h) (by omega) hJ2.symm
            have hfie' := fun W (h : Ext w W) => rField (s := mn) (x := num) (hf.up h) (by omega)
            have hned' := fun W (h : Ext w W) => rNamed (s := mn) (t := nm) (hf.up h) (by omega)
            rw [← hJ1] at hfie'
            rw [← hJ2] at hned'
            have Hnum := Lib.hid hnum'
            have Hnam := Lib.hid hnam'
            have Hfie := Lib.hid hfie'
            have Hned := Lib.hid hned'
            have mx1 := fun ts t w => run_max_i (P := Try.prog) ts t .i64 .i64 J1 0 w
            have mx2 := fun ts t w => run_max_i (P := Try.prog) ts t .i64 .i64 J2 0 w
            have mx3 : ∀ ts t w, (Builtin.max_ ts t #[.int .i64 (p0 : Int), .int .i64 0]).run Try.prog w = .ok (.int .i64 (p0 : Int)) w := fun ts t w => by rw [run_max_i, show max (p0 : Int) 0 = p0 by omega]
            clear hnum' hnam' hfie' hned' hJ1 hJ2 HI hF
            go_wp2_with (first
              | (go_at_call 18; refine (Hnum.out _ X2).mono ?_; rintro y w3 ⟨rfl, E3⟩; have X3 := X2.trans E3; have p1 := E3.of_cell k1; have p0 := E3.of_cell k0; have pl := Nat.lt_of_lt_of_le kl E3.size)
              | (go_at_call 19; refine (Hnam.out _ X3).mono ?_; rintro y w4 ⟨rfl, E4⟩; have X4 := X3.trans E4; have r1 := E4.of_cell p1; have r0 := E4.of_cell p0; have rl := Nat.lt_of_lt_of_le pl E4.size))
            go_region_held3 (fun W => Ext w4 W ∧ ∀ b o, b < w4.heap.size → W.cell? ⟨b, o, none⟩ = w4.cell? ⟨b, o, none⟩) ((refine Ext.keep ?_; repeat with_reducible (first | assumption | exact Ext.refl _ | refine Ext.alloc ?_ _ | refine Ext.drew ?_ | refine Ext.drewN ?_ _ | refine Ext.setCell ?_ (by first | exact Nat.le_refl _ | omega | (simp; done) | (simp; omega)) _))) (first
              | (go_split_ands; go_at_call 20; refine (Hfie.out _ (X4.trans (by with_reducible assumption))).mono ?_; rintro y w5 ⟨rfl, E5⟩; have q5 : Ext w4 w5 := Ext.trans (by with_reducible assumption) E5)
              | (go_split_ands; go_at_call 21; refine (Hned.out _ (X4.trans (by with_reducible assumption))).mono ?_; rintro y w6 ⟨rfl, E6⟩; have q6 : Ext w4 w6 := Ext.trans (by with_reducible assumption) E6))
            have X6 : Ext w w6 := X4.trans q6
            have u1 := q6.of_cell r1
            have u0 := q6.of_cell r0
            have ul := Nat.lt_of_lt_of_le rl q6.size
            have hsS := fun W (h : Ext w W) => sSameS (hs.up h) (ht.up h) (by omega) (fun x hx => by have := HSn.out x hx; omega)
            have hsR := fun W (h : Ext w W) => sSameR (hs.up h) (ht.up h) (by omega) (fun x hx => by have := HSn.out x hx; omega)
            have hCo := fun W (h : Ext w W) => sCopy (hs.up h) (by omega) HSn.out
            generalize decide (S.map MsgV.d = T.map MsgV.d) = DD at hsS hsR
            have HsS := Lib.hid hsS
            have HsR := Lib.hid hsR
            have HCo := Lib.hid hCo
            clear hsS hsR hCo mx3
            rename Ext w4 w6 ∧ _ => hh
            clear hh
            go_wp2
            go_region_held3 (fun W => Ext w6 W ∧ ∀ b o, b < w6.heap.size → W.cell? ⟨b, o, none⟩ = w6.cell? ⟨b, o, none⟩) ((refine Ext.keep ?_; repeat with_reducible (first | assumption | exact Ext.refl _ | refine Ext.alloc ?_ _ | refine Ext.drew ?_ | refine Ext.drewN ?_ _ | refine Ext.setCell ?_ (by first | exact Nat.le_refl _ | omega | (simp; done) | (simp; omega)) _))) (first
              | (go_split_ands; go_at_call 23; refine (sSorted (hf.up (X6.trans (by with_reducible assumption))) (by omega)).mono ?_; rintro y w7 ⟨A7, c7, rfl, own7⟩; have q7 : Ext w6 w7 := Ext.trans (by with_reducible assumption) own7.ext; have i7 := own7.reads)
              | (go_split_ands; go_at_call 24; refine (sSortedR (hf.up (X6.trans (by with_reducible assumption))) (by omega)).mono ?_; rintro y w8 ⟨A8, c8, rfl, own8⟩; have q8 : Ext w6 w8 := Ext.trans (by with_reducible assumption) own8.ext; have i8 := own8.reads; have j7 := i7.up (Ext.trans (by repeat with_reducible (first | exact Ext.refl _ | refine Ext.alloc ?_ _ | refine Ext.drew ?_ | refine Ext.drewN ?_ _ | refine Ext.setCell ?_ (by first | exact Nat.le_refl _ | omega | (simp; done) | (simp; omega)) _)) own8.ext))
              | (go_split_ands; go_at_call 22; refine (sameI (j7.up (by repeat with_reducible (first | exact Ext.refl _ | refine Ext.alloc ?_ _ | refine Ext.drew ?_ | refine Ext.drewN ?_ _ | refine Ext.setCell ?_ (by first | exact Nat.le_refl _ | omega | (simp; done) | (simp; omega)) _))) (i8.up (by repeat with_reducible (first | exact Ext.refl _ | refine Ext.alloc ?_ _ | refine Ext.drew ?_ | refine Ext.drewN ?_ _ | refine Ext.setCell ?_ (by first | exact Nat.le_refl _ | omega | (simp; done) | (simp; omega)) _))) (by omega)).mono ?_; rintro y w9 ⟨rfl, E9⟩; have q9 : Ext w6 w9 := Ext.trans (by with_reducible assumption) E9)
              | (go_split_ands; go_at_call 25; refine (HsS.out _ (X6.trans (by with_reducible assumption))).mono ?_; rintro y wA ⟨rfl, EA⟩; have qA : Ext w6 wA := Ext.trans (by with_reducible assumption) EA)
              | (go_split_ands; go_at_call 26; with_reducible refine (HsR.out _ (X6.trans (by with_reducible assumption))).mono ?_; rintro y wB ⟨rfl, EB⟩; have qB : Ext w6 wB := Ext.trans (by with_reducible assumption) EB)
              | (go_split_ands; go_at_call 27; refine (HCo.out _ (X6.trans (by with_reducible assumption))).mono ?_; rintro y wC ⟨AC, cC, SC, rfl, hsC, hdC, EC⟩; have qC : Ext w6 wC := Ext.trans (by with_reducible assumption) EC)
              | (go_split_ands; go_at_call 26; refine (sSameR (hsC.up (by repeat with_reducible (first | exact Ext.refl _ | refine Ext.alloc ?_ _ | refine Ext.drew ?_ | refine Ext.drewN ?_ _ | refine Ext.setCell ?_ (by first | exact Nat.le_refl _ | omega | (simp; done) | (simp; omega)) _))) (hs.up (X6.trans (by with_reducible assumption))) (by omega) (fun x hx => by have := HSn.out; have := copied_n hsC hs hdC (fun y hy => HSn.out y hy) x hx; omega)).mono ?_; rintro y wD ⟨rfl, ED⟩; have qD : Ext w6 wD := Ext.trans (by with_reducible assumption) ED; rw [decide_eq_true hdC]))
            go_wp2
            go_ret
            exact ⟨rfl, X6.trans qD⟩
          · have hpn : p < n := by omega
            have hpI : (p : Int) < n := by omega
            obtain ⟨b1, off1, x, rfl, hx, _, _, hb1, d0, d1⟩ := (hs.up X2).msg hpn
            have Hx := Lib.hid hx
            have z1 : ((p + 1 : Nat) : Int) - 1 = p := by omega
            by_cases hq : x.d.name = nm
            · have hp : mnameP nm x = true := decide_eq_true hq
              have Hp := Lib.hid hp
              have hq2 : (x.d.name.toList == nm.toList) = true := by rw [str_eq]; exact decide_eq_true hq
              clear hx hp hq
              go_wp2
              go_roundw
              case rel => exact ⟨p, p, by omega, by go_num, congrArg (Value.int .i64) (by omega), FromP.yes Hx.out Hp.out, by first | rfl | trivial⟩
              case measure => simp [intOf]
            · have hp : mnameP nm x = false := decide_eq_false hq
              have Hp := Lib.hid hp
              have hq2 := str_ne hq
              clear hx hp hq
              go_wp2
              go_roundw
              case rel => exact ⟨p, W, by omega, by go_num, rfl, hF.out.no Hx.out Hp.out, by first | rfl | trivial⟩
              case measure => simp [intOf]
    · go_wp2
      go_ret
      exact ⟨rfl, X1.trans Xc⟩

end Go.Proofs.Ytalhnggfilgmjaa
