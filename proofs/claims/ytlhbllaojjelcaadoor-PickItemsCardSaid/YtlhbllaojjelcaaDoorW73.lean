/- Contracts of layer 13, and the document's answers for 12, 13 and 21: the way of a path. -/
import Derived.Test.YtlhbllaojjelcaaDoorW71
import Derived.Test.YtlhbllaojjelcaaDoorW11r
namespace Go.Proofs.YtlhbllaojjelcaaDoor
open Go.RowKit Go.Shelf
set_option linter.unusedVariables false

theorem resolve_bad {S : List MsgD} {root : Int} {p : ByteArray} (h : argsM S root ≠ 0) : resolveV S root p = ([], argsM S root) := by unfold resolveV; rw [if_pos h]

theorem resolve_name {S : List MsgD} {root : Int} {p : ByteArray} (h : argsM S root = 0) (hn : namesP p = none) : resolveV S root p = ([], 10) := by unfold resolveV; rw [if_neg (by simp [h]), hn]

theorem resolve_way {S : List MsgD} {root : Int} {p : ByteArray} {l : List ByteArray} (h : argsM S root = 0) (hn : namesP p = some l) (hw : wayV S root.toNat l = none) : resolveV S root p = ([], 10) := by unfold resolveV; rw [if_neg (by simp [h]), hn]; simp only; rw [hw]

theorem resolve_ok {S : List MsgD} {root : Int} {p : ByteArray} {l : List ByteArray} {way : List Int} (h : argsM S root = 0) (hn : namesP p = some l) (hw : wayV S root.toNat l = some way) : resolveV S root p = (way, 0) := by unfold resolveV; rw [if_neg (by simp [h]), hn]; simp only; rw [hw]

theorem names_len {p : ByteArray} {l : List ByteArray} (h : namesP p = some l) : 0 < l.length ∧ l.length ≤ 65 := by
  unfold namesP at h
  by_cases hc : (splitB p).all nameB = true ∧ (splitB p).length ≤ 65
  · rw [if_pos hc] at h
    injection h with h
    subst h
    exact ⟨splitB_pos p, hc.2⟩
  · rw [if_neg hc] at h
    cases h

/-- The way of a path; the code k. -/
def WayPost (S : List MsgD) (root : Int) (p : ByteArray) (kind : IntKind) (w : World) (e : Ending) (w' : World) : Prop :=
  ∃ A c, e = .returned (.tuple #[.slice A (resolveV S root p).1.length c, .int kind ((resolveV S root p).2 : Nat)]) ∧ Own w w' 3 1 A (resolveV S root p).1.length c ((resolveV S root p).1.map wyV)

set_option maxRecDepth 100000 in
theorem mResolve {A : Option Addr} {n c : Nat} {S : List MsgV} {root : Int} {p : ByteArray} {w : World} (hs : SchemaAt w A n c S) (hp : p.size ≤ maxLen) :
    Calls Tryd.prog 30 #[.slice A n c, .int .i64 root, .string p] w (WayPost (S.map MsgV.d) root p .u8 w) := by
  have hl := hs.length
  have ha := fun W (h : SchemaAt W A n c S) => mArgs (root := root) h
  unfold WayPost
  by_cases h0 : argsM (S.map MsgV.d) root = 0
  · rw [h0] at ha
    have Ha := Lib.hid ha
    obtain ⟨hR, hr1, hr2⟩ := argsM_0 h0
    rw [List.length_map, hl] at hr2
    obtain ⟨m, rfl⟩ : ∃ m : Nat, root = m := ⟨root.toNat, by omega⟩
    have hm : m < n := by omega
    have hsp := fun W => pSplit (w := W) hp
    have Hsp := Lib.hid hsp
    have Hs := Lib.hid hs
    rcases hnm : namesP p with _ | l
    · rw [resolve_name h0 hnm]
      have Hnm := Lib.hid hnm
      clear ha h0 hsp hnm hs hl hR
      go_enter Tryd.func30, Tryd.ntmps30
      go_wp2_with (first
        | (go_at_call 44; refine (Ha.out _ Hs.out).mono ?_; rintro e w1 ⟨rfl, E1⟩)
        | (go_at_call 45; refine (Hsp.out _).mono ?_; rintro e w2 h2; obtain ⟨rfl, E2⟩ : e = .returned (.tuple #[.slice none 0 0, .int .u8 12]) ∧ Ext w1 w2 := (by rcases h2 with ⟨_, a, b⟩ | ⟨l, A, c, a, _⟩; exact ⟨a, b⟩; rw [Hnm.out] at a; cases a)))
      go_ret2
      exact ⟨none, 0, rfl, Own.nil (E1.trans E2) _ 1⟩
    · have hll := names_len hnm
      have hld := fun W (h : SchemaAt W A n c S) (C : Option Addr) (kc : Nat) (hn : NamesAt W C l.length kc l) => mLead (m := m) h hR hm hn hll.1 (by omega)
      have Hld := Lib.hid hld
      have Hnm := Lib.hid hnm
      rcases hw : wayV (S.map MsgV.d) m l with _ | way
      · rw [resolve_way h0 hnm (by simpa using hw)]
        have Hw := Lib.hid hw
        clear ha h0 hsp hnm hs hl hR hld hw
        go_enter Tryd.func30, Tryd.ntmps30
        go_wp2_with (first
          | (go_at_call 44; refine (Ha.out _ Hs.out).mono ?_; rintro e w1 ⟨rfl, E1⟩)
          | (go_at_call 45; refine (Hsp.out _).mono ?_; rintro e w2 h2; obtain ⟨A2, c2, rfl, own2⟩ : ∃ A2 c2, e = .returned (.tuple #[.slice A2 l.length c2, .int .u8 0]) ∧ Own w1 w2 9 1 A2 l.length c2 (l.map nmV) := (by rcases h2 with ⟨a, _⟩ | ⟨l', A2, c2, a, b, d⟩; rw [Hnm.out] at a; cases a; rw [Hnm.out] at a; cases a; exact ⟨A2, c2, b, d⟩); clear h2; have X2 := E1.trans own2.ext)
          | (go_at_call 46; refine (Hld.out _ (Hs.out.up X2) _ _ own2.reads).mono ?_; rintro e w3 h3; obtain ⟨rfl, E3⟩ : e = .returned (.tuple #[.slice none 0 0, .bool false]) ∧ Ext w2 w3 := (by rcases h3 with ⟨_, a, b⟩ | ⟨l', A3, c3, a, _⟩; exact ⟨a, b⟩; rw [Hw.out] at a; cases a)))
        go_ret2
        exact ⟨none, 0, rfl, Own.nil (X2.trans E3) _ 1⟩
      · rw [resolve_ok h0 hnm (by simpa using hw)]
        have Hw := Lib.hid hw
        clear ha h0 hsp hnm hs hl hR hld hw
        go_enter Tryd.func30, Tryd.ntmps30
        go_wp2_with (first
          | (go_at_call 44; refine (Ha.out _ Hs.out).mono ?_; rintro e w1 ⟨rfl, E1⟩)
          | (go_at_call 45; refine (Hsp.out _).mono ?_; rintro e w2 h2; obtain ⟨A2, c2, rfl, own2⟩ : ∃ A2 c2, e = .returned (.tuple #[.slice A2 l.length c2, .int .u8 0]) ∧ Own w1 w2 9 1 A2 l.length c2 (l.map nmV) := (by rcases h2 with ⟨a, _⟩ | ⟨l', A2, c2, a, b, d⟩; rw [Hnm.out] at a; cases a; rw [Hnm.out] at a; cases a; exact ⟨A2, c2, b, d⟩); clear h2; have X2 := E1.trans own2.ext)
          | (go_at_call 46; refine (Hld.out _ (Hs.out.up X2) _ _ own2.reads).mono ?_; rintro e w3 h3; obtain ⟨A3, c3, rfl, own3⟩ : ∃ A3 c3, e = .returned (.tuple #[.slice A3 way.length c3, .bool true]) ∧ Own w2 w3 3 1 A3 way.length c3 (way.map wyV) := (by rcases h3 with ⟨a, _⟩ | ⟨l', A3, c3, a, b, d⟩; rw [Hw.out] at a; cases a; rw [Hw.out] at a; cases a; exact ⟨A3, c3, b, d⟩); clear h3))
        go_ret2
        exact ⟨A3, c3, rfl, own3.since X2⟩
  · rw [resolve_bad h0]
    have Ha := Lib.hid ha
    have hN : ((argsM (S.map MsgV.d) root : Nat) : Int) ≠ 0 := by omega
    have hN2 : (((argsM (S.map MsgV.d) root : Nat) : Int) != 0) = true := by rw [bne_iff_ne]; exact hN
    clear ha h0 hl hN
    generalize argsM (S.map MsgV.d) root = C at *
    go_enter Tryd.func30, Tryd.ntmps30
    go_wp2_with (go_at_call 44; refine (Ha.out _ hs).mono ?_; rintro e w1 ⟨rfl, E1⟩)
    go_ret2
    exact ⟨none, 0, rfl, Own.nil E1 _ 1⟩


/-- The document's pieces, so far. -/
def PathSF (p : ByteArray) (i fr : Nat) (out : List ByteArray) : Prop :=
  (∀ x ∈ out, nameB x = true) ∧ ((i ≤ p.size ∧ fr ≤ i ∧ splitB p = out ++ ((splitL (p.data.toList.drop i)).modifyHead ((p.extract fr i).data.toList ++ ·)).map textO) ∨ (i = p.size + 1 ∧ splitB p = out))

theorem PathSF.start (p : ByteArray) : PathSF p 0 0 [] := ⟨fun x h => (by cases h), .inl ⟨Nat.zero_le _, Nat.le_refl _, by
  rw [Lib.extract_data]
  simp only [Nat.sub_self, List.take_zero, List.nil_append, List.drop_zero]
  show splitB p = ((splitL p.data.toList).modifyHead (fun x => x)).map textO
  unfold splitB
  cases splitL p.data.toList <;> rfl⟩⟩

theorem PathSF.more {p : ByteArray} {i fr : Nat} {out : List ByteArray} (h : PathSF p i fr out) (hi : i < p.size) (hc : p[i].toNat ≠ 46) : PathSF p (i + 1) fr out := by
  obtain ⟨h0, ⟨h1, h2, h3⟩ | ⟨h1, _⟩⟩ := h
  · refine ⟨h0, .inl ⟨by omega, by omega, ?_⟩⟩
    have hx := str_byte hi
    have hd : p.data.toList.drop i = p[i] :: p.data.toList.drop (i + 1) := by
      have q := List.getElem?_eq_some_iff.1 hx
      rw [List.drop_eq_getElem_cons q.1, q.2]
    have hne : p[i] ≠ 46 := fun e => hc (by rw [e]; rfl)
    rw [h3, hd]
    conv => lhs; unfold splitL
    rw [if_neg hne, List.modifyHead_modifyHead]
    congr 3
    funext x
    simp only [Function.comp]
    rw [Lib.extract_data, Lib.extract_data, show i + 1 - fr = (i - fr) + 1 by omega, List.take_add_one, List.getElem?_drop, show fr + (i - fr) = i by omega, hx]
    simp
  · omega

theorem PathSF.piece {p : ByteArray} {i fr : Nat} {out : List ByteArray} (h : PathSF p i fr out) (hi : i ≤ p.size) (hc : ∀ h : i < p.size, p[i].toNat = 46) :
    fr ≤ i ∧ p.extract fr i ∈ splitB p ∧ (nameB (p.extract fr i) = true → PathSF p (i + 1) (i + 1) (out ++ [p.extract fr i])) := by
  obtain ⟨h0, ⟨h1, h2, h3⟩ | ⟨h1, _⟩⟩ := h
  · refine ⟨h2, ?_⟩
    have hall : ∀ nm, nameB nm = true → ∀ x ∈ out ++ [nm], nameB x = true := fun nm hn x hx => by
      rcases List.mem_append.1 hx with hx | hx
      · exact h0 x hx
      · rw [List.mem_singleton] at hx
        rw [hx]
        exact hn
    by_cases hlt : i < p.size
    · have hx := str_byte hlt
      have hd : p.data.toList.drop i = p[i] :: p.data.toList.drop (i + 1) := by
        have q := List.getElem?_eq_some_iff.1 hx
        rw [List.drop_eq_getElem_cons q.1, q.2]
      have he : p[i] = 46 := UInt8.toNat_inj.1 (hc hlt)
      rw [hd] at h3
      rw [show splitL (p[i] :: p.data.toList.drop (i + 1)) = [] :: splitL (p.data.toList.drop (i + 1)) by conv => lhs; unfold splitL; rw [if_pos he]] at h3
      simp only [List.modifyHead_cons, List.append_nil, List.map_cons] at h3
      have ht : textO (p.extract fr i).data.toList = p.extract fr i := ba_ext (by simp [textO])
      rw [ht] at h3
      refine ⟨by rw [h3]; simp, fun hn => ⟨hall _ hn, .inl ⟨by omega, Nat.le_refl _, ?_⟩⟩⟩
      rw [h3, Lib.extract_data]
      simp only [Nat.sub_self, List.take_zero, List.nil_append, List.append_assoc, List.singleton_append]
      congr 2
      show _ = List.map textO ((splitL (p.data.toList.drop (i + 1))).modifyHead (fun x => x))
      cases splitL (p.data.toList.drop (i + 1)) <;> rfl
    · obtain rfl : i = p.size := by omega
      have hd : p.data.toList.drop p.size = [] := List.drop_eq_nil_of_le (by rw [← Lib.size_eq]; exact Nat.le_refl _)
      rw [hd] at h3
      simp only [splitL, List.modifyHead_cons, List.append_nil, List.map_cons, List.map_nil] at h3
      have ht : textO (p.extract fr p.size).data.toList = p.extract fr p.size := ba_ext (by simp [textO])
      rw [ht] at h3
      exact ⟨by rw [h3]; simp, fun hn => ⟨hall _ hn, .inr ⟨rfl, h3⟩⟩⟩
  · omega

/-- What the document's Split answers with. -/
def SplitPostR (p : ByteArray) (w : World) (e : Ending) (w' : World) : Prop :=
  (namesP p = none ∧ e = .returned (.tuple #[.slice none 0 0, .bool false]) ∧ Ext w w') ∨
  ∃ l A c, namesP p = some l ∧ e = .returned (.tuple #[.slice A l.length c, .bool true]) ∧ Own w w' 9 1 A l.length c (l.map nmV)

end Go.Proofs.YtlhbllaojjelcaaDoor
