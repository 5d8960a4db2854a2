/- Contracts of layer 13, and the document's answers for 12, 13 and 21: the way of a path. -/
import Derived.Test.YtpicpebolghcfaaGreatDoorQjW71
import Derived.Test.YtpicpebolghcfaaGreatDoorQjW11

namespace Go.Proofs.YtpicpebolghcfaaGreatDoor
open Go.RowKit Go.Shelf
set_option linter.unusedVariables false

theorem resolve_bad {S : List MsgD} {root : Int} {p : ByteArray} (h : argsM S root ≠ 0) : resolveV S root p = ([], argsM S root) := by unfold resolveV; rw [if_pos h]

theorem resolve_name {S : List MsgD} {root : Int} {p : ByteArray} (h : argsM S root = 0) (hn : namesP p = none) : resolveV S root p = ([], 10) := by unfold resolveV; rw [if_neg (by simp [h]), hn]

theorem resolve_way {S : List MsgD} {root : Int} {p : ByteArray} {l : List ByteArray} (h : argsM S root = 0) (hn : namesP p = some l) (hw : wayV S root.toNat l = none) : resolveV S root p = ([], 10) := by unfold resolveV; rw [if_neg (by simp [h]), hn]; simp only; rw [hw]

theorem resolve_ok {S : List MsgD} {root : Int} {p : ByteArray} {l : List ByteArray} {way : List Int} (h : argsM S root = 0) (hn : namesP p = some l) (hw : wayV S root.toNat l = some way) : resolveV S root p = (way, 0) := by unfold resolveV; rw [if_neg (by simp [h]), hn]; simp only; rw [hw]

theorem names_len {p : ByteArray} {l : List ByteArray} (h : namesP p = some l) : 0 < l.length ∧ l.length ≤ 65 := by
  unfold namesP at h
  by_cases hc : (splitB p).all nameB = true ∧ (splitB p).length ≤ 65
  · rw [if_pos hc] at h
    injection h with h
    subst h
    exact ⟨splitB_pos p, hc.2⟩
  · rw [if_neg hc] at h
    cases h

def WayPost (S : List MsgD) (root : Int) (p : ByteArray) (kind : IntKind) (w : World) (e : Ending) (w' : World) : Prop :=
  ∃ A c, e = .returned (.tuple #[.slice A (resolveV S root p).1.length c, .int kind ((resolveV S root p).2 : Nat)]) ∧ Own w w' 3 1 A (resolveV S root p).1.length c ((resolveV S root p).1.map wyV)

set_option maxRecDepth 100000 in
theorem mResolve {A : Option Addr} {n c : Nat} {S : List MsgV} {root : Int} {p : ByteArray} {w : World} (hs : SchemaAt w A n c S) (hp : p.size ≤ maxLen) :
    Calls Tryz.prog 73 #[.slice A n c, .int .i64 root, .string p] w (WayPost (S.map MsgV.d) root p .u8 w) := by
  have hl := hs.length
  have ha := fun W (h : SchemaAt W A n c S) => mArgs (root := root) h
  unfold WayPost
  by_cases h0 : argsM (S.map MsgV.d) root = 0
  · rw [h0] at ha
    have Ha := Lib.hid ha
    obtain ⟨hR, hr1, hr2⟩ := argsM_0 h0
    rw [List.length_map, hl] at hr2
    obtain ⟨m, rfl⟩ : ∃ m : Nat, root = m := ⟨root.toNat, by omega⟩
    have hm : m < n := by omega
    have hsp := fun W => pSplit (w := W) hp
    have Hsp := Lib.hid hsp
    have Hs := Lib.hid hs
    rcases hnm : namesP p with _ | l
    · rw [resolve_name h0 hnm]
      have Hnm := Lib.hid hnm
      clear ha h0 hsp hnm hs hl hR
      go_enter Tryz.func73, Tryz.ntmps73
      go_wp2_with (first
        | (go_at_call 103; refine (Ha.out _ Hs.out).mono ?_; rintro e w1 ⟨rfl, E1⟩)
        | (go_at_call 104; refine (Hsp.out _).mono ?_; rintro e w2 h2; obtain ⟨rfl, E2⟩ : e = .returned (.tuple #[.slice none 0 0, .int .u8 12]) ∧ Ext w1 w2 := (by rcases h2 with ⟨_, a, b⟩ | ⟨l, A, c, a, _⟩; exact ⟨a, b⟩; rw [Hnm.out] at a; cases a)))
      go_ret2
      exact ⟨none, 0, rfl, Own.nil (E1.trans E2) _ 1⟩
    · have hll := names_len hnm
      have hld := fun W (h : SchemaAt W A n c S) (C : Option Addr) (kc : Nat) (hn : NamesAt W C l.length kc l) => mLead (m := m) h hR hm hn hll.1 (by omega)
      have Hld := Lib.hid hld
      have Hnm := Lib.hid hnm
      rcases hw : wayV (S.map MsgV.d) m l with _ | way
      · rw [resolve_way h0 hnm (by simpa using hw)]
        have Hw := Lib.hid hw
        clear ha h0 hsp hnm hs hl hR hld hw
        go_enter Tryz.func73, Tryz.ntmps73
        go_wp2_with (first
          | (go_at_call 103; refine (Ha.out _ Hs.out).mono ?_; rintro e w1 ⟨rfl, E1⟩)
          | (go_at_call 104; refine (Hsp.out _).mono ?_; rintro e w2 h2; obtain ⟨A2, c2, rfl, own2⟩ : ∃ A2 c2, e = .returned (.tuple #[.slice A2 l.length c2, .int .u8 0]) ∧ Own w1 w2 9 1 A2 l.length c2 (l.map nmV) := (by rcases h2 with ⟨a, _⟩ | ⟨l', A2, c2, a, b, d⟩; rw [Hnm.out] at a; cases a; rw [Hnm.out] at a; cases a; exact ⟨A2, c2, b, d⟩); clear h2; have X2 := E1.trans own2.ext)
          | (go_at_call 105; refine (Hld.out _ (Hs.out.up X2) _ _ own2.reads).mono ?_; rintro e w3 h3; obtain ⟨rfl, E3⟩ : e = .returned (.tuple #[.slice none 0 0, .bool false]) ∧ Ext w2 w3 := (by rcases h3 with ⟨_, a, b⟩ | ⟨l', A3, c3, a, _⟩; exact ⟨a, b⟩; rw [Hw.out] at a; cases a)))
        go_ret2
        exact ⟨none, 0, rfl, Own.nil (X2.trans E3) _ 1⟩
      · rw [resolve_ok h0 hnm (by simpa using hw)]
        have Hw := Lib.hid hw
        clear ha h0 hsp hnm hs hl hR hld hw
        go_enter Tryz.func73, Tryz.ntmps73
        go_wp2_with (first
          | (go_at_call 103; refine (Ha.out _ Hs.out).mono ?_; rintro e w1 ⟨rfl, E1⟩)
          | (go_at_call 104; refine (Hsp.out _).mono ?_; rintro e w2 h2; obtain ⟨A2, c2, rfl, own2⟩ : ∃ A2 c2, e = .returned (.tuple #[.slice A2 l.length c2, .int .u8 0]) ∧ Own w1 w2 9 1 A2 l.length c2 (l.map nmV) := (by rcases h2 with ⟨a, _⟩ | ⟨l', A2, c2, a, b, d⟩; rw [Hnm.out] at a; cases a; rw [Hnm.out] at a; cases a; exact ⟨A2, c2, b, d⟩); clear h2; have X2 := E1.trans own2.ext)
          | (go_at_call 105; refine (Hld.out _ (Hs.out.up X2) _ _ own2.reads).mono ?_; rintro e w3 h3; obtain ⟨A3, c3, rfl, own3⟩ : ∃ A3 c3, e = .returned (.tuple #[.slice A3 way.length c3, .bool true]) ∧ Own w2 w3 3 1 A3 way.length c3 (way.map wyV) := (by rcases h3 with ⟨a, _⟩ | ⟨l', A3, c3, a, b, d⟩; rw [Hw.out] at a; cases a; rw [Hw.out] at a; cases a; exact ⟨A3, c3, b, d⟩); clear h3))
        go_ret2
        exact ⟨A3, c3, rfl, own3.since X2⟩
  · rw [resolve_bad h0]
    have Ha := Lib.hid ha
    have hN : ((argsM (S.map MsgV.d) root : Nat) : Int) ≠ 0 := by omega
    have hN2 : (((argsM (S.map MsgV.d) root : Nat) : Int) != 0) = true := by rw [bne_iff_ne]; exact hN
    clear ha h0 hl hN
    generalize argsM (S.map MsgV.d) root = C at *
    go_enter Tryz.func73, Tryz.ntmps73
    go_wp2_with (go_at_call 103; refine (Ha.out _ hs).mono ?_; rintro e w1 ⟨rfl, E1⟩)
    go_ret2
    exact ⟨none, 0, rfl, Own.nil E1 _ 1⟩


def PathSF (p : ByteArray) (i fr : Nat) (out : List ByteArray) : Prop :=
  (∀ x ∈ out, nameB x = true) ∧ ((i ≤ p.size ∧ fr ≤ i ∧ splitB p = out ++ ((splitL (p.data.toList.drop i)).modifyHead ((p.extract fr i).data.toList ++ ·)).map textO) ∨ (i = p.size + 1 ∧ splitB p = out))

theorem PathSF.start (p : ByteArray) : PathSF p 0 0 [] := ⟨fun x h => (by cases h), .inl ⟨Nat.zero_le _, Nat.le_refl _, by
  rw [Lib.extract_data]
  simp only [Nat.sub_self, List.take_zero, List.nil_append, List.drop_zero]
  show splitB p = ((splitL p.data.toList).modifyHead (fun x => x)).map textO
  unfold splitB
  cases splitL p.data.toList <;> rfl⟩⟩

theorem PathSF.more {p : ByteArray} {i fr : Nat} {out : List ByteArray} (h : PathSF p i fr out) (hi : i < p.size) (hc : p[i].toNat ≠ 46) : PathSF p (i + 1) fr out := by
  obtain ⟨h0, ⟨h1, h2, h3⟩ | ⟨h1, _⟩⟩ := h
  · refine ⟨h0, .inl ⟨by omega, by omega, ?_⟩⟩
    have hx := str_byte hi
    have hd : p.data.toList.drop i = p[i] :: p.data.toList.drop (i + 1) := by
      have q := List.getElem?_eq_some_iff.1 hx
      rw [List.drop_eq_getElem_cons q.1, q.2]
    have hne : p[i] ≠ 46 := fun e => hc (by rw [e]; rfl)
    rw [h3, hd]
    conv => lhs; unfold splitL
    rw [if_neg hne, List.modifyHead_modifyHead]
    congr 3
    funext x
    simp only [Function.comp]
    rw [Lib.extract_data, Lib.extract_data, show i + 1 - fr = (i - fr) + 1 by omega, List.take_add_one, List.getElem?_drop, show fr + (i - fr) = i by omega, hx]
    simp
  · omega

theorem PathSF.piece {p : ByteArray} {i fr : Nat} {out : List ByteArray} (h : PathSF p i fr out) (hi : i ≤ p.size) (hc : ∀ h : i < p.size, p[i].toNat = 46) :
    fr ≤ i ∧ p.extract fr i ∈ splitB p ∧ (nameB (p.extract fr i) = true → PathSF p (i + 1) (i + 1) (out ++ [p.extract fr i])) := by
  obtain ⟨h0, ⟨h1, h2, h3⟩ | ⟨h1, _⟩⟩ := h
  · refine ⟨h2, ?_⟩
    have hall : ∀ nm, nameB nm = true → ∀ x ∈ out ++ [nm], nameB x = true := fun nm hn x hx => by
      rcases List.mem_append.1 hx with hx | hx
      · exact h0 x hx
      · rw [List.mem_singleton] at hx
        rw [hx]
        exact hn
    by_cases hlt : i < p.size
    · have hx := str_byte hlt
      have hd : p.data.toList.drop i = p[i] :: p.data.toList.drop (i + 1) := by
        have q := List.getElem?_eq_some_iff.1 hx
        rw [List.drop_eq_getElem_cons q.1, q.2]
      have he : p[i] = 46 := UInt8.toNat_inj.1 (hc hlt)
      rw [hd] at h3
      rw [show splitL (p[i] :: p.data.toList.drop (i + 1)) = [] :: splitL (p.data.toList.drop (i + 1)) by conv => lhs; unfold splitL; rw [if_pos he]] at h3
      simp only [List.modifyHead_cons, List.append_nil, List.map_cons] at h3
      have ht : textO (p.extract fr i).data.toList = p.extract fr i := ba_ext (by simp [textO])
      rw [ht] at h3
      refine ⟨by rw [h3]; simp, fun hn => ⟨hall _ hn, .inl ⟨by omega, Nat.le_refl _, ?_⟩⟩⟩
      rw [h3, Lib.extract_data]
      simp only [Nat.sub_self, List.take_zero, List.nil_append, List.append_assoc, List.singleton_append]
      congr 2
      show _ = List.map textO ((splitL (p.data.toList.drop (i + 1))).modifyHead (fun x => x))
      cases splitL (p.data.toList.drop (i + 1)) <;> rfl
    · obtain rfl : i = p.size := by omega
      have hd : p.data.toList.drop p.size = [] := List.drop_eq_nil_of_le (by rw [← Lib.size_eq]; exact Nat.le_refl _)
      rw [hd] at h3
      simp only [splitL, List.modifyHead_cons, List.append_nil, List.map_cons, List.map_nil] at h3
      have ht : textO (p.extract fr p.size).data.toList = p.extract fr p.size := ba_ext (by simp [textO])
      rw [ht] at h3
      exact ⟨by rw [h3]; simp, fun hn => ⟨hall _ hn, .inr ⟨rfl, h3⟩⟩⟩
  · omega

def SplitPostR (p : ByteArray) (w : World) (e : Ending) (w' : World) : Prop :=
  (namesP p = none ∧ e = .returned (.tuple #[.slice none 0 0, .bool false]) ∧ Ext w w') ∨
  ∃ l A c, namesP p = some l ∧ e = .returned (.tuple #[.slice A l.length c, .bool true]) ∧ Own w w' 9 1 A l.length c (l.map nmV)

set_option maxRecDepth 100000 in
set_option maxHeartbeats 4000000 in
theorem rSplit {p : ByteArray} {w : World} (hp : p.size ≤ 1000000000) : Calls Tryz.prog 63 #[.string p] w (SplitPostR p w) := by
  have hnm := fun (s : ByteArray) (h : s.size ≤ 9223372036854775807) W => sNameR h W
  have Hnm := Lib.hid hnm
  clear hnm
  go_enter Tryz.func63, Tryz.ntmps63
  go_wp2
  go_loopw [4, 5, 6] (fun t4 t5 t6 wr => ∃ (i fr : Nat) (A2 : Option Addr) (c2 : Nat) (out : List ByteArray), i ≤ p.size + 1 ∧ out.length ≤ i ∧ t6 = .int .i64 i ∧ t5 = .int .i64 fr ∧ t4 = .slice A2 out.length c2 ∧ Own w wr 9 1 A2 out.length c2 (out.map nmV) ∧ Hid (PathSF p i fr out))
    (fun _ _ i _ => p.size + 1 - (intOf i).toNat)
  case atStart => exact ⟨0, 0, none, 0, [], Nat.zero_le _, Nat.le_refl _, rfl, rfl, rfl, Own.nil (Ext.refl _) 9 1, PathSF.start p⟩
  case round =>
    obtain ⟨i, fr, A2, c2, out, hi, hol, rfl, rfl, rfl, own, hS⟩ := hrel
    by_cases hle : i ≤ p.size
    · have hle2 : (i : Int) ≤ p.size := by omega
      by_cases hgo : ∃ h : i < p.size, p[i].toNat ≠ 46
      · obtain ⟨hlt, h46⟩ := hgo
        have hlt2 : (i : Int) < p.size := by omega
        have q : (((p[i].toNat : Nat) : Int) != 46) = true := by rw [bne_iff_ne]; omega
        have Hn := Lib.hid (hS.out.more hlt h46)
        clear h46
        go_wp2
        go_roundw
        case rel => exact ⟨i + 1, fr, A2, c2, out, by omega, by omega, by go_num, rfl, rfl, own, Hn⟩
        case measure => simp [intOf]; omega
      · have h46 : ∀ h : i < p.size, p[i].toNat = 46 := fun h => Classical.byContradiction fun q => hgo ⟨h, q⟩
        obtain ⟨hfr, hmem, hnext⟩ := hS.out.piece hle h46
        have hsz := splitB_size p _ hmem
        have hnm := fun W => Hnm.out (p.extract fr i) (by omega) W
        have hfi : (fr : Int) ≤ i := by omega
        rcases hb : nameB (p.extract fr i) with _ | _
        · have hno := names_bad hmem hb
          rw [hb] at hnm
          have HN := Lib.hid hno
          have Hnm2 := Lib.hid hnm
          clear hno hnm hb hmem hnext hgo hsz
          by_cases hlt : i < p.size
          · have hlt2 : (i : Int) < p.size := by omega
            have q : (((p[i].toNat : Nat) : Int) != 46) = false := by rw [h46 hlt]; rfl
            clear h46
            go_wp2_with (go_at_call 98; refine (Hnm2.out _).mono ?_; rintro e w1 ⟨rfl, rfl⟩)
            go_ret2
            exact .inl ⟨HN.out, rfl, own.ext⟩
          · have hlt2 : ¬ (i : Int) < p.size := by omega
            clear h46
            go_wp2_with (go_at_call 98; refine (Hnm2.out _).mono ?_; rintro e w1 ⟨rfl, rfl⟩)
            go_ret2
            exact .inl ⟨HN.out, rfl, own.ext⟩
        · rw [hb] at hnm
          have HN := Lib.hid (hnext hb)
          have Hnm2 := Lib.hid hnm
          clear hnm hb hmem hnext hgo hsz
          by_cases hlt : i < p.size
          · have hlt2 : (i : Int) < p.size := by omega
            have q : (((p[i].toNat : Nat) : Int) != 46) = false := by rw [h46 hlt]; rfl
            clear h46
            go_wp2_with (first
              | (go_at_call 98; refine (Hnm2.out _).mono ?_; rintro e w1 ⟨rfl, rfl⟩)
              | (at_builtin; refine wpList_one elemNm rfl (.tmp 29) (.tmp 34) rfl rfl own rfl (by first | rfl | simp) rfl (by omega) (by unfold maxLen; omega) ?_; intro A4 c4 w4 own4 g4))
            go_roundw
            case rel => exact ⟨i + 1, i + 1, A4, c4, out ++ [p.extract fr i], by omega, by simp; omega, by go_num, by go_num, by simp, by simpa [nmV] using own4, HN⟩
            case measure => simp [intOf]; omega
          · have hlt2 : ¬ (i : Int) < p.size := by omega
            clear h46
            go_wp2_with (first
              | (go_at_call 98; refine (Hnm2.out _).mono ?_; rintro e w1 ⟨rfl, rfl⟩)
              | (at_builtin; refine wpList_one elemNm rfl (.tmp 29) (.tmp 34) rfl rfl own rfl (by first | rfl | simp) rfl (by omega) (by unfold maxLen; omega) ?_; intro A4 c4 w4 own4 g4))
            go_roundw
            case rel => exact ⟨i + 1, i + 1, A4, c4, out ++ [p.extract fr i], by omega, by simp; omega, by go_num, by go_num, by simp, by simpa [nmV] using own4, HN⟩
            case measure => simp [intOf]; omega
    · have hle2 : ¬ (i : Int) ≤ p.size := by omega
      obtain ⟨g0, g1⟩ := hS.out
      have hsp : splitB p = out := by rcases g1 with ⟨a, _⟩ | ⟨_, a⟩; omega; exact a
      by_cases h65 : 65 < out.length
      · have hno : namesP p = none := by unfold namesP; rw [if_neg (by rw [hsp]; omega)]
        have HN := Lib.hid hno
        have q : (65 : Int) < (out.length : Int) := by omega
        clear hno g0 g1 hsp hS
        go_wp2
        go_ret2
        exact .inl ⟨HN.out, rfl, own.ext⟩
      · have hyes : namesP p = some out := by rw [← hsp]; exact names_all (by rw [hsp]; exact g0) (by rw [hsp]; omega)
        have HN := Lib.hid hyes
        have q : ¬ (65 : Int) < (out.length : Int) := by omega
        clear hyes g0 g1 hsp hS
        go_wp2
        go_ret2
        exact .inr ⟨out, A2, c2, HN.out, rfl, own⟩

end Go.Proofs.YtpicpebolghcfaaGreatDoor
