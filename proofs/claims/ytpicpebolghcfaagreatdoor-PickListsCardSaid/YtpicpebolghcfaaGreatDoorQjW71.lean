/- A contract of layer 7: the place of a name. -/
import Derived.Test.YtpicpebolghcfaaGreatDoorQjW10
import Derived.Test.YtpicpebolghcfaaGreatDoorQjW70
import Derived.Test.YtpicpebolghcfaaGreatDoorQjW11

namespace Go.Proofs.YtpicpebolghcfaaGreatDoor
open Go.RowKit Go.Shelf
set_option linter.unusedVariables false

theorem rNamed {s t : ByteArray} {A : Option Addr} {n c : Nat} {l : List FieldD} {w : World} (hb : FieldsAt w A n c l) (hn : n ≤ 1000000000000) :
    Calls Tryz.prog 99 #[.agg #[.string s, .slice A n c], .string t] w fun e w' => e = .returned (.int .i64 (idxB (fnameP t) l)) ∧ Ext w w' := by
  have hl := hb.length
  have Hl := Lib.hid hl
  clear hl
  have hbw : FieldsAt (w.alloc (.cells #[.string s, .slice A n c] 77)) A n c l := hb.up (by repeat with_reducible (first | exact Ext.refl _ | refine Ext.alloc ?_ _ | refine Ext.drew ?_ | refine Ext.drewN ?_ _ | refine Ext.setCell ?_ (by first | exact Nat.le_refl _ | omega | (simp; done) | (simp; omega)) _))
  go_enter Tryz.func99, Tryz.ntmps99
  go_wp2
  go_loop [5] (fun i => ∃ k : Nat, k ≤ n ∧ i = .int .i64 k ∧ Hid (∀ (j : Nat) y, j < k → l[j]? = some y → fnameP t y = false)) (fun i => n - (intOf i).toNat)
  case atStart => exact ⟨0, Nat.zero_le _, rfl, fun j y h => absurd h (Nat.not_lt_zero j)⟩
  case round =>
    obtain ⟨k, hk, rfl, hN⟩ := hrel
    by_cases hlt : k < n
    · have hlt2 : (k : Int) < n := by omega
      obtain ⟨b, off, f, rfl, hf, hok, hb1, c0, c1, c2, c3, c4, c5⟩ := hbw.field hlt
      by_cases hq : f.name = t
      · have hp : fnameP t f = true := decide_eq_true hq
        have hi := idxB_found hf hp hN.out
        have Hi := Lib.hid hi
        subst hq
        clear hi hp
        go_wp2
        go_ret
        exact ⟨ret_int Hi.out.symm, (by repeat with_reducible (first | exact Ext.refl _ | refine Ext.alloc ?_ _ | refine Ext.drew ?_ | refine Ext.drewN ?_ _ | refine Ext.setCell ?_ (by first | exact Nat.le_refl _ | omega | (simp; done) | (simp; omega)) _))⟩
      · have hp : fnameP t f = false := decide_eq_false hq
        have hs := str_ne hq
        have Hf := Lib.hid hf
        have Hp := Lib.hid hp
        clear hf hp hq
        go_wp2
        go_round
        case rel =>
          refine ⟨k + 1, by omega, by go_num, fun j y hj hy => ?_⟩
          by_cases e : j = k
          · subst e
            have := Hf.out.symm.trans hy
            cases this
            exact Hp.out
          · exact hN.out j y (by omega) hy
        case measure => simp [intOf]; omega
    · have hk2 : k = n := by omega
      subst hk2
      have hi : idxB (fnameP t) l = -1 := idxB_none (fun j y hy => hN.out j y (by have := (List.getElem?_eq_some_iff.1 hy).1; have := Hl.out; omega) hy)
      have Hi := Lib.hid hi
      clear hi
      go_wp2
      go_ret
      exact ⟨ret_int Hi.out.symm, (by repeat with_reducible (first | exact Ext.refl _ | refine Ext.alloc ?_ _ | refine Ext.drew ?_ | refine Ext.drewN ?_ _ | refine Ext.setCell ?_ (by first | exact Nat.le_refl _ | omega | (simp; done) | (simp; omega)) _))⟩

end Go.Proofs.YtpicpebolghcfaaGreatDoor

/- Contracts of layer 13, and the document's answer for 12 and 13: the way of a path. -/





namespace Go.Proofs.YtpicpebolghcfaaGreatDoor
open Go.RowKit Go.Shelf
set_option linter.unusedVariables false

theorem mArgs {A : Option Addr} {n c : Nat} {S : List MsgV} {root : Int} {w : World} (hs : SchemaAt w A n c S) :
    Calls Tryz.prog 103 #[.slice A n c, .int .i64 root] w fun e w' => e = .returned (.int .u8 (argsM (S.map MsgV.d) root : Nat)) ∧ Ext w w' := by
  have hl := hs.length
  unfold argsM
  rw [List.length_map, hl]
  have hr := fun W (h : SchemaAt W A n c S) => sRight h
  rcases hR : rightS (S.map MsgV.d) with _ | _
  · rw [hR] at hr
    have Hr := Lib.hid hr
    clear hr hR hl
    rw [if_pos rfl]
    go_enter Tryz.func103, Tryz.ntmps103
    go_wp2_with (go_at_call 102; refine (Hr.out _ hs).mono ?_; rintro e w1 ⟨rfl, E1⟩)
    go_ret
    exact ⟨rfl, E1⟩
  · rw [hR] at hr
    have Hr := Lib.hid hr
    clear hr hR hl
    rw [if_neg (by simp)]
    rcases (by omega : root < 0 ∨ (¬ root < 0 ∧ (n : Int) ≤ root) ∨ (¬ root < 0 ∧ ¬ (n : Int) ≤ root)) with h | ⟨h, h2⟩ | ⟨h, h2⟩
    · rw [if_pos (by omega)]
      go_enter Tryz.func103, Tryz.ntmps103
      go_wp2_with (go_at_call 102; refine (Hr.out _ hs).mono ?_; rintro e w1 ⟨rfl, E1⟩)
      go_ret
      exact ⟨rfl, E1⟩
    · rw [if_pos (by omega)]
      go_enter Tryz.func103, Tryz.ntmps103
      go_wp2_with (go_at_call 102; refine (Hr.out _ hs).mono ?_; rintro e w1 ⟨rfl, E1⟩)
      go_ret
      exact ⟨rfl, E1⟩
    · rw [if_neg (by omega)]
      go_enter Tryz.func103, Tryz.ntmps103
      go_wp2_with (go_at_call 102; refine (Hr.out _ hs).mono ?_; rintro e w1 ⟨rfl, E1⟩)
      go_ret
      exact ⟨rfl, E1⟩

theorem mArgsR {A : Option Addr} {n c : Nat} {S : List MsgV} {root : Int} {w : World} (hs : SchemaAt w A n c S) :
    Calls Tryz.prog 62 #[.slice A n c, .int .i64 root] w fun e w' => e = .returned (.int .i64 (argsM (S.map MsgV.d) root : Nat)) ∧ Ext w w' := by
  have hl := hs.length
  unfold argsM
  rw [List.length_map, hl]
  have hr := fun W (h : SchemaAt W A n c S) => sRightR h
  rcases hR : rightS (S.map MsgV.d) with _ | _
  · rw [hR] at hr
    have Hr := Lib.hid hr
    clear hr hR hl
    rw [if_pos rfl]
    go_enter Tryz.func62, Tryz.ntmps62
    go_wp2_with (go_at_call 61; refine (Hr.out _ hs).mono ?_; rintro e w1 ⟨rfl, E1⟩)
    go_ret
    exact ⟨rfl, E1⟩
  · rw [hR] at hr
    have Hr := Lib.hid hr
    clear hr hR hl
    rw [if_neg (by simp)]
    rcases (by omega : root < 0 ∨ (¬ root < 0 ∧ (n : Int) ≤ root) ∨ (¬ root < 0 ∧ ¬ (n : Int) ≤ root)) with h | ⟨h, h2⟩ | ⟨h, h2⟩
    · rw [if_pos (by omega)]
      go_enter Tryz.func62, Tryz.ntmps62
      go_wp2_with (go_at_call 61; refine (Hr.out _ hs).mono ?_; rintro e w1 ⟨rfl, E1⟩)
      go_ret
      exact ⟨rfl, E1⟩
    · rw [if_pos (by omega)]
      go_enter Tryz.func62, Tryz.ntmps62
      go_wp2_with (go_at_call 61; refine (Hr.out _ hs).mono ?_; rintro e w1 ⟨rfl, E1⟩)
      go_ret
      exact ⟨rfl, E1⟩
    · rw [if_neg (by omega)]
      go_enter Tryz.func62, Tryz.ntmps62
      go_wp2_with (go_at_call 61; refine (Hr.out _ hs).mono ?_; rintro e w1 ⟨rfl, E1⟩)
      go_ret
      exact ⟨rfl, E1⟩

abbrev NamesAt (w : World) (A : Option Addr) (n c : Nat) (l : List ByteArray) : Prop := Reads w A n c 1 (l.map nmV)

theorem NamesAt.name {w : World} {A : Option Addr} {n c : Nat} {l : List ByteArray} (h : NamesAt w A n c l) {k : Nat} (hk : k < n) :
    ∃ b off s, A = some ⟨b, off, none⟩ ∧ l[k]? = some s ∧ b < w.heap.size ∧ w.cell? ⟨b, off + k, none⟩ = some (.string s) := by
  obtain ⟨b, off, e, hb, hc⟩ := h.at_ (by omega)
  have hl := h.len
  rw [List.length_map, Nat.mul_one] at hl
  have hx : l[k]? = some l[k] := List.getElem?_eq_getElem (by omega)
  exact ⟨b, off, l[k], e, hx, hb, hc k _ (by rw [List.getElem?_map, hx]; rfl)⟩

theorem way_none {S : List MsgD} {m : Nat} {M : MsgD} {s : ByteArray} {l : List ByteArray} (hM : S[m]? = some M) (h : idxB (fnameP s) M.fields = -1) : wayV S m (s :: l) = none := by
  unfold wayV
  rw [hM]
  simp only
  rw [find_of_idx.1 h]

theorem way_some {S : List MsgD} {m k : Nat} {M : MsgD} {s : ByteArray} {f : FieldD} {l : List ByteArray} (hM : S[m]? = some M) (h : idxB (fnameP s) M.fields = (k : Nat)) (hf : M.fields[k]? = some f) :
    wayV S m (s :: l) = if l = [] then some [f.number] else if f.rep = true ∨ f.kind ≠ 17 then none else (wayV S f.of_.toNat l).map (f.number :: ·) := by
  conv => lhs; unfold wayV
  rw [hM]
  simp only
  rw [find_of_idx.2 k f h hf]

theorem ret_slv {A : Option Addr} {n n' c : Nat} {v : Value} (h : n = n') : Ending.returned (.tuple #[.slice A n c, v]) = .returned (.tuple #[.slice A n' c, v]) := by rw [h]

def LeadPost (S : List MsgD) (m : Nat) (l : List ByteArray) (w : World) (e : Ending) (w' : World) : Prop :=
  (wayV S m l = none ∧ e = .returned (.tuple #[.slice none 0 0, .bool false]) ∧ Ext w w') ∨
  ∃ way A c, wayV S m l = some way ∧ e = .returned (.tuple #[.slice A way.length c, .bool true]) ∧ Own w w' 3 1 A way.length c (way.map wyV)

set_option maxRecDepth 100000 in
set_option maxHeartbeats 4000000 in
theorem mLead {A C : Option Addr} {n c k kc : Nat} {S : List MsgV} {l : List ByteArray} {m : Nat} {w : World} (hs : SchemaAt w A n c S) (hR : rightS (S.map MsgV.d) = true) (hm : m < n) (hn : NamesAt w C k kc l) (hl : 0 < k) (hk : k ≤ 1000) :
    Calls Tryz.prog 105 #[.slice A n c, .int .i64 (m : Int), .slice C k kc] w (LeadPost (S.map MsgV.d) m l w) := by
  have hSl := hs.length
  have hll : l.length = k := by have := hn.len; rw [List.length_map, Nat.mul_one] at this; exact this
  have HR := Lib.hid hR
  have HL := Lib.hid hSl
  have HLL := Lib.hid hll
  clear hR hSl hll
  go_enter Tryz.func105, Tryz.ntmps105
  go_wp2
  go_loopw [1, 8, 16] (fun t1 t8 t16 wr => ∃ (i r : Nat) (A2 : Option Addr) (c2 : Nat) (dn : List Int), i < k ∧ t16 = .int .i64 i ∧ t1 = .int .i64 r ∧ r < n ∧ t8 = .slice A2 i c2 ∧ Own w wr 3 1 A2 i c2 (dn.map wyV) ∧ Hid (wayV (S.map MsgV.d) m l = (wayV (S.map MsgV.d) r (l.drop i)).map (dn ++ ·)))
    (fun _ _ i _ => k - (intOf i).toNat)
  case atStart => exact ⟨0, m, none, 0, [], hl, rfl, rfl, hm, rfl, Own.nil (Ext.refl _) 3 1, by show _ = Option.map (fun x => x) _; simp⟩
  case round =>
    obtain ⟨i, r, A2, c2, dn, hi, rfl, rfl, hr, rfl, own, hw⟩ := hrel
    have E := own.ext
    have hi2 : (i : Int) < k := by omega
    have hr2 : (r : Int) < n := by omega
    obtain ⟨nb, no, s, rfl, hsn, hnb, n0⟩ := NamesAt.name (hn.ext E) hi
    obtain ⟨sb, so, ⟨⟨Mn, Mf⟩, MA, Mk, Mc⟩, rfl, hM, hF, hMn, hsb, s0, s1⟩ := (hs.up E).msg hr
    simp only at hF hMn s0 s1
    have hd : l.drop i = s :: l.drop (i + 1) := by
      have h1 := List.getElem?_eq_some_iff.1 hsn
      rw [List.drop_eq_getElem_cons h1.1, h1.2]
    have hM' : (S.map MsgV.d)[r]? = some ⟨Mn, Mf⟩ := by rw [List.getElem?_map, hM]; rfl
    have hFl := hF.length
    have hF2 := (right_msg HR.out hM').2.2.1
    simp only at hF2
    have hMk : Mk ≤ 1000000000000 := by omega
    rcases idxB_cases (fnameP s) Mf with ⟨hI, _⟩ | ⟨j, f, hI, hf, _, _⟩
    · have hno := hw.out
      rw [hd, way_none hM' hI] at hno
      have hby : ∀ W : World, FieldsAt W MA Mk Mc Mf → Calls Tryz.prog 128 #[.agg #[.string Mn, .slice MA Mk Mc], .string s] W fun e w' => e = .returned (.tuple #[.int .i64 0, .bool false]) ∧ Ext W w' := fun W h => sByName h hMk hI
      have HN := Lib.hid hno
      have Hby := Lib.hid hby
      have HFF := Lib.hid hF
      clear hno hI hw hd hM hM' hsn hby hF hFl hF2
      go_wp2_with (go_at_call 128; refine (Hby.out _ HFF.out).mono ?_; rintro e w1 ⟨rfl, E1⟩)
      go_ret2
      exact .inl ⟨HN.out, rfl, E.trans E1⟩
    · have hby : ∀ W : World, FieldsAt W MA Mk Mc Mf → Calls Tryz.prog 128 #[.agg #[.string Mn, .slice MA Mk Mc], .string s] W fun e w' => e = .returned (.tuple #[.int .i64 (j : Nat), .bool true]) ∧ Ext W w' := fun W h => by
        have := sByName (s := Mn) h hMk hI
        rwa [show max ((j : Nat) : Int) 0 = (j : Nat) by omega, show decide ((0 : Int) ≤ (j : Nat)) = true by simp] at this
      have hjl : j < Mk := by have := (List.getElem?_eq_some_iff.1 hf).1; omega
      have hji : (j : Int) < Mk := by omega
      have hws := way_some (l := l.drop (i + 1)) hM' hI hf
      have hof := fun (h : f.kind = 17) => right_of HR.out hM' hf h
      obtain ⟨fb, fo, f', rfl, hf', hok, hfb, c0, c1, c2', c3, c4, c5⟩ := hF.field hjl
      obtain rfl : f' = f := Option.some.inj (hf'.symm.trans hf)
      have hw1 := hw.out
      rw [hd, hws] at hw1
      have Hw := Lib.hid hw1
      have Hby := Lib.hid hby
      have HFF := Lib.hid hF
      have Hof := Lib.hid hof
      have HL2 := HL.out
      rw [List.length_map] at hof
      clear hw hd hM hM' hsn hby hF hFl hF2 hws hw1 hI hf hf' hof hok
      obtain ⟨fname, fnum, fkind, frep, fpk, fof⟩ := f'
      simp only at c0 c1 c2' c3 c4 c5
      by_cases hlast : i + 1 = k
      · have hnil : l.drop (i + 1) = [] := List.drop_eq_nil_of_le (by rw [HLL.out]; omega)
        have hfin := Hw.out
        rw [hnil, if_pos rfl] at hfin
        have Hfin := Lib.hid hfin
        have q : ((i : Int) == (k : Int) - 1) = true := by rw [beq_iff_eq]; omega
        have Hlast := Lib.hid hlast
        clear hnil hfin Hw hlast
        go_wp2_with (first
            | (go_at_call 128; refine (Hby.out _ HFF.out).mono ?_; rintro e w1 ⟨rfl, E1⟩; replace c0 := E1.of_cell c0; replace c1 := E1.of_cell c1; replace c2' := E1.of_cell c2'; replace c3 := E1.of_cell c3; replace c4 := E1.of_cell c4; replace c5 := E1.of_cell c5; replace s0 := E1.of_cell s0; replace s1 := E1.of_cell s1; replace own := own.up E1; replace hfb := Nat.lt_of_lt_of_le hfb E1.size; replace hsb := Nat.lt_of_lt_of_le hsb E1.size)
            | (at_builtin; refine wpList_one elemWy rfl (.tmp 40) (.tmp 43) rfl rfl (own.up (by repeat with_reducible (first | exact Ext.refl _ | refine Ext.alloc ?_ _ | refine Ext.drew ?_ | refine Ext.drewN ?_ _ | refine Ext.setCell ?_ (by first | exact Nat.le_refl _ | omega | (simp; done) | (simp; omega)) _))) rfl (by first | rfl | simp) rfl (by omega) (by unfold maxLen; omega) ?_; intro A4 c4 w4 own4 g4))
        go_ret2
        have hln : dn.length = i := by have := own.reads.len; rw [List.length_map, Nat.mul_one] at this; exact this
        exact .inr ⟨dn ++ [fnum], A4, c4, Hfin.out, ret_slv (by simp [hln]), by simpa [hln, wyV] using own4⟩
      · have hne : l.drop (i + 1) ≠ [] := fun h => by have := congrArg List.length h; rw [List.length_drop, HLL.out] at this; simp at this; omega
        have q : ((i : Int) == (k : Int) - 1) = false := by rw [beq_eq_false_iff_ne]; omega
        have hlt : i + 1 < k := by omega
        have Hlt := Lib.hid hlt
        have hfin := Hw.out
        rw [if_neg hne] at hfin
        clear hlast hlt hne Hw
        by_cases hr : frep = true
        · rw [if_pos (.inl hr)] at hfin
          have Hfin := Lib.hid hfin
          clear hfin
          subst hr
          go_wp2_with (first
          | (go_at_call 128; refine (Hby.out _ HFF.out).mono ?_; rintro e w1 ⟨rfl, E1⟩; replace c0 := E1.of_cell c0; replace c1 := E1.of_cell c1; replace c2' := E1.of_cell c2'; replace c3 := E1.of_cell c3; replace c4 := E1.of_cell c4; replace c5 := E1.of_cell c5; replace s0 := E1.of_cell s0; replace s1 := E1.of_cell s1; replace own := own.up E1; replace hfb := Nat.lt_of_lt_of_le hfb E1.size; replace hsb := Nat.lt_of_lt_of_le hsb E1.size)
          | (at_builtin; refine wpList_one elemWy rfl (.tmp 40) (.tmp 43) rfl rfl (own.up (by repeat with_reducible (first | exact Ext.refl _ | refine Ext.alloc ?_ _ | refine Ext.drew ?_ | refine Ext.drewN ?_ _ | refine Ext.setCell ?_ (by first | exact Nat.le_refl _ | omega | (simp; done) | (simp; omega)) _))) rfl (by first | rfl | simp) rfl (by omega) (by unfold maxLen; omega) ?_; intro A4 c4 w4 own4 g4; have k3 : w4.cell? ⟨w1.heap.size, 3, none⟩ = some (.bool true) := (grown_cell own g4 (Nat.le_refl _) (by simp <;> omega)).trans (by simp); have k2 : w4.cell? ⟨w1.heap.size, 2, none⟩ = some (.int .i64 fkind) := (grown_cell own g4 (Nat.le_refl _) (by simp <;> omega)).trans (by simp); have k5 : w4.cell? ⟨w1.heap.size, 5, none⟩ = some (.int .i64 fof) := (grown_cell own g4 (Nat.le_refl _) (by simp <;> omega)).trans (by simp); have kl : w1.heap.size < w4.heap.size := Nat.lt_of_lt_of_le (by simp <;> omega) g4.size))
          go_ret2
          exact .inl ⟨Hfin.out, rfl, own4.ext⟩
        · rw [Bool.not_eq_true] at hr
          subst hr
          by_cases hk17 : fkind = 17
          · subst hk17
            rw [if_neg (by simp)] at hfin
            obtain ⟨o, ho, ho2⟩ := Hof.out rfl
            subst ho
            simp only [Int.toNat_natCast, Option.map_map] at hfin
            have Hfin := Lib.hid hfin
            rw [List.length_map, HL2] at ho2
            clear hfin
            go_wp2_with (first
          | (go_at_call 128; refine (Hby.out _ HFF.out).mono ?_; rintro e w1 ⟨rfl, E1⟩; replace c0 := E1.of_cell c0; replace c1 := E1.of_cell c1; replace c2' := E1.of_cell c2'; replace c3 := E1.of_cell c3; replace c4 := E1.of_cell c4; replace c5 := E1.of_cell c5; replace s0 := E1.of_cell s0; replace s1 := E1.of_cell s1; replace own := own.up E1; replace hfb := Nat.lt_of_lt_of_le hfb E1.size; replace hsb := Nat.lt_of_lt_of_le hsb E1.size)
          | (at_builtin; refine wpList_one elemWy rfl (.tmp 40) (.tmp 43) rfl rfl (own.up (by repeat with_reducible (first | exact Ext.refl _ | refine Ext.alloc ?_ _ | refine Ext.drew ?_ | refine Ext.drewN ?_ _ | refine Ext.setCell ?_ (by first | exact Nat.le_refl _ | omega | (simp; done) | (simp; omega)) _))) rfl (by first | rfl | simp) rfl (by omega) (by unfold maxLen; omega) ?_; intro A4 c4 w4 own4 g4; have k3 : w4.cell? ⟨w1.heap.size, 3, none⟩ = some (.bool false) := (grown_cell own g4 (Nat.le_refl _) (by simp <;> omega)).trans (by simp); have k2 : w4.cell? ⟨w1.heap.size, 2, none⟩ = some (.int .i64 17) := (grown_cell own g4 (Nat.le_refl _) (by simp <;> omega)).trans (by simp); have k5 : w4.cell? ⟨w1.heap.size, 5, none⟩ = some (.int .i64 (o : Int)) := (grown_cell own g4 (Nat.le_refl _) (by simp <;> omega)).trans (by simp); have kl : w1.heap.size < w4.heap.size := Nat.lt_of_lt_of_le (by simp <;> omega) g4.size))
            go_roundw
            case rel =>
              refine ⟨i + 1, o, A4, c4, dn ++ [fnum], Hlt.out, by go_num, rfl, ho2, rfl, by simpa [wyV] using own4, ?_⟩
              have := Hfin.out
              rw [this]
              show _ = _
              congr 1
              funext x
              simp
            case measure => simp [intOf]; have := Hlt.out; omega
          · rw [if_pos (.inr hk17)] at hfin
            have q3 : (fkind != 17) = true := by rw [bne_iff_ne]; exact hk17
            have Hfin := Lib.hid hfin
            clear hfin hk17
            go_wp2_with (first
          | (go_at_call 128; refine (Hby.out _ HFF.out).mono ?_; rintro e w1 ⟨rfl, E1⟩; replace c0 := E1.of_cell c0; replace c1 := E1.of_cell c1; replace c2' := E1.of_cell c2'; replace c3 := E1.of_cell c3; replace c4 := E1.of_cell c4; replace c5 := E1.of_cell c5; replace s0 := E1.of_cell s0; replace s1 := E1.of_cell s1; replace own := own.up E1; replace hfb := Nat.lt_of_lt_of_le hfb E1.size; replace hsb := Nat.lt_of_lt_of_le hsb E1.size)
          | (at_builtin; refine wpList_one elemWy rfl (.tmp 40) (.tmp 43) rfl rfl (own.up (by repeat with_reducible (first | exact Ext.refl _ | refine Ext.alloc ?_ _ | refine Ext.drew ?_ | refine Ext.drewN ?_ _ | refine Ext.setCell ?_ (by first | exact Nat.le_refl _ | omega | (simp; done) | (simp; omega)) _))) rfl (by first | rfl | simp) rfl (by omega) (by unfold maxLen; omega) ?_; intro A4 c4 w4 own4 g4; have k3 : w4.cell? ⟨w1.heap.size, 3, none⟩ = some (.bool false) := (grown_cell own g4 (Nat.le_refl _) (by simp <;> omega)).trans (by simp); have k2 : w4.cell? ⟨w1.heap.size, 2, none⟩ = some (.int .i64 fkind) := (grown_cell own g4 (Nat.le_refl _) (by simp <;> omega)).trans (by simp); have k5 : w4.cell? ⟨w1.heap.size, 5, none⟩ = some (.int .i64 fof) := (grown_cell own g4 (Nat.le_refl _) (by simp <;> omega)).trans (by simp); have kl : w1.heap.size < w4.heap.size := Nat.lt_of_lt_of_le (by simp <;> omega) g4.size))
            go_ret2
            exact .inl ⟨Hfin.out, rfl, own4.ext⟩

end Go.Proofs.YtpicpebolghcfaaGreatDoor
