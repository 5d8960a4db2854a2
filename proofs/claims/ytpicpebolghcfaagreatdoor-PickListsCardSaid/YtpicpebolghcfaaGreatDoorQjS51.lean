/- Plain words: the bytes of a view, a text. -/
import Derived.Test.YtpicpebolghcfaaGreatDoorQjS7
import Derived.Test.YtpicpebolghcfaaGreatDoorQjW5
import Derived.Test.YtpicpebolghcfaaGreatDoorQjW10
import Derived.Lib.IndexLaws
import Derived.Lib.IndexBytes

namespace Go.Proofs.YtpicpebolghcfaaGreatDoor
open Go.RowKit


def valueO (bs : List UInt8) (v : ViewD) : List UInt8 := spanB bs v.r.a v.r.t

def textO (b : List UInt8) : ByteArray := ⟨b.toArray⟩

end Go.Proofs.YtpicpebolghcfaaGreatDoor

/- Plain laws of layers 12, 13 and 22: the names of a path, the way that they lead, the pieces that lie there. -/





namespace Go.Proofs.YtpicpebolghcfaaGreatDoor
open Go.RowKit Go.Shelf
set_option linter.unusedVariables false

def splitL : List UInt8 → List (List UInt8)
  | [] => [[]]
  | c :: r => if c = 46 then [] :: splitL r else (splitL r).modifyHead (c :: ·)

theorem splitL_pos : ∀ l : List UInt8, 0 < (splitL l).length
  | [] => by simp [splitL]
  | c :: r => by
    have := splitL_pos r
    unfold splitL
    split
    · simp
    · simpa using this

theorem splitL_size : ∀ l : List UInt8, ∀ x ∈ splitL l, x.length ≤ l.length
  | [], x, h => by simp [splitL] at h; simp [h]
  | c :: r, x, h => by
    have ih := splitL_size r
    unfold splitL at h
    split at h
    · rcases List.mem_cons.1 h with rfl | h
      · simp
      · have := ih x h
        simp only [List.length_cons]
        omega
    · rcases hs : splitL r with _ | ⟨a, t⟩
      · rw [hs] at h
        simp at h
      · rw [hs] at h ih
        simp only [List.modifyHead_cons, List.mem_cons] at h
        rcases h with rfl | h
        · have := ih a List.mem_cons_self
          simp only [List.length_cons]
          omega
        · have := ih x (List.mem_cons_of_mem _ h)
          simp only [List.length_cons]
          omega

theorem splitL_none : ∀ l : List UInt8, (∀ k : Nat, l[k]? ≠ some 46) → splitL l = [l]
  | [], _ => rfl
  | c :: r, h => by
    have hc : c ≠ 46 := fun e => h 0 (by simp [e])
    have ih := splitL_none r (fun k => by have := h (k + 1); simpa using this)
    unfold splitL
    rw [if_neg hc, ih]
    rfl

theorem splitL_some : ∀ (l : List UInt8) (i : Nat), l[i]? = some 46 → (∀ k : Nat, k < i → l[k]? ≠ some 46) → splitL l = l.take i :: splitL (l.drop (i + 1))
  | [], i, h, _ => by simp at h
  | c :: r, 0, h, _ => by
    simp only [List.getElem?_cons_zero, Option.some.injEq] at h
    conv => lhs; unfold splitL
    rw [if_pos h]
    simp
  | c :: r, i + 1, h, hk => by
    have hc : c ≠ 46 := fun e => hk 0 (by omega) (by simp [e])
    have ih := splitL_some r i (by simpa using h) (fun k hki => by have := hk (k + 1) (by omega); simpa using this)
    conv => lhs; unfold splitL
    rw [if_neg hc, ih]
    simp

theorem ba_ext {a b : ByteArray} (h : a.data.toList = b.data.toList) : a = b := by
  obtain ⟨⟨a⟩⟩ := a
  obtain ⟨⟨b⟩⟩ := b
  simp only at h
  rw [h]

def splitB (p : ByteArray) : List ByteArray := (splitL p.data.toList).map textO

theorem splitB_pos (p : ByteArray) : 0 < (splitB p).length := by unfold splitB; rw [List.length_map]; exact splitL_pos _

theorem splitB_size (p : ByteArray) : ∀ s ∈ splitB p, s.size ≤ p.size := fun s h => by
  unfold splitB at h
  obtain ⟨x, hx, rfl⟩ := List.mem_map.1 h
  have := splitL_size _ x hx
  rw [Lib.size_eq, Lib.size_eq]
  exact this

theorem splitB_none {p : ByteArray} (h : Lib.indexByte p.data.toList 46 = -1) : splitB p = [p] := by
  unfold splitB
  rw [splitL_none _ (Lib.indexByte_none h)]
  rfl

theorem splitB_some {p : ByteArray} {i : Nat} (h : Lib.indexByte p.data.toList 46 = i) : splitB p = p.extract 0 i :: splitB (p.extract (i + 1) p.size) ∧ i < p.size := by
  obtain ⟨h1, h2⟩ := Lib.indexByte_some h
  have hi := (List.getElem?_eq_some_iff.1 h1).1
  rw [← Lib.size_eq] at hi
  refine ⟨?_, hi⟩
  unfold splitB
  rw [splitL_some _ i h1 h2, List.map_cons, Lib.extract_to_end]
  congr 1
  apply ba_ext
  rw [Lib.extract_data]
  simp [textO]

def namesP (p : ByteArray) : Option (List ByteArray) := if (splitB p).all nameB = true ∧ (splitB p).length ≤ 65 then some (splitB p) else none

def wayV (S : List MsgD) : Nat → List ByteArray → Option (List Int)
  | _, [] => some []
  | m, s :: l => match S[m]? with
    | none => none
    | some M => match M.fields.find? (fnameP s) with
      | none => none
      | some f => if l = [] then some [f.number] else if f.rep = true ∨ f.kind ≠ 17 then none else (wayV S f.of_.toNat l).map (f.number :: ·)

def fieldAt (S : List MsgD) (m : Nat) (n : Int) : Option FieldD := match S[m]? with
  | none => none
  | some M => M.fields.find? (numP n)

inductive OnWay (S : List MsgD) : Nat → List Int → FieldD → Prop
  | last {m : Nat} {n : Int} {f : FieldD} (h : fieldAt S m n = some f) : OnWay S m [n] f
  | step {m : Nat} {n : Int} {f g : FieldD} {l : List Int} (h : fieldAt S m n = some f) (hk : f.kind = 17) (hr : f.rep = false) (t : OnWay S f.of_.toNat l g) : OnWay S m (n :: l) g

theorem OnWay.ne {S : List MsgD} {m : Nat} {l : List Int} {f : FieldD} (h : OnWay S m l f) : l ≠ [] := by cases h <;> simp

theorem find_number {S : List MsgD} (hR : rightS S = true) {m : Nat} {M : MsgD} (hM : S[m]? = some M) {f : FieldD} (hf : f ∈ M.fields) : fieldAt S m f.number = some f := by
  obtain ⟨k, hk⟩ := List.getElem?_of_mem hf
  have h := (right_field hR hM hk).2
  unfold fieldAt
  rw [hM]
  simp only
  have e : (fun g : FieldD => decide (g.number = f.number)) = numP f.number := by
    funext g
    unfold numP
    by_cases q : g.number = f.number
    · simp [q]
    · simp [q]
  rw [e] at h
  exact (find_of_idx (p := numP f.number)).2 k f h hk

theorem wayV_on {S : List MsgD} (hR : rightS S = true) : ∀ (l : List ByteArray) (m : Nat) (way : List Int), l ≠ [] → wayV S m l = some way → ∃ f, OnWay S m way f ∧ way.length = l.length
  | [], _, _, h, _ => absurd rfl h
  | s :: l, m, way, _, h => by
    unfold wayV at h
    rcases hM : S[m]? with _ | M
    · rw [hM] at h; simp at h
    · rw [hM] at h
      simp only at h
      rcases hf : M.fields.find? (fnameP s) with _ | f
      · rw [hf] at h; simp at h
      · rw [hf] at h
        simp only at h
        have hfm := List.mem_of_find?_eq_some hf
        have hn := find_number hR hM hfm
        by_cases hl : l = []
        · rw [if_pos hl] at h
          injection h with h
          subst h
          subst hl
          exact ⟨f, .last hn, rfl⟩
        · rw [if_neg hl] at h
          by_cases hb : f.rep = true ∨ f.kind ≠ 17
          · rw [if_pos hb] at h; simp at h
          · rw [if_neg hb] at h
            rcases hw : wayV S f.of_.toNat l with _ | way'
            · rw [hw] at h; simp at h
            · rw [hw] at h
              simp only [Option.map_some, Option.some.injEq] at h
              subst h
              obtain ⟨g, hg, hlen⟩ := wayV_on hR l _ _ hl hw
              have h1 : f.kind = 17 := Classical.byContradiction fun q => hb (.inr q)
              have h2 : f.rep = false := by cases q : f.rep with
                | false => rfl
                | true => exact absurd (.inl q) hb
              exact ⟨g, .step hn h1 h2 hg, by simp [hlen]⟩

def argsM (S : List MsgD) (root : Int) : Nat := if rightS S = false then 9 else if root < 0 ∨ (S.length : Int) ≤ root then 2 else 0

theorem argsM_0 {S : List MsgD} {root : Int} (h : argsM S root = 0) : rightS S = true ∧ 0 ≤ root ∧ root < S.length := by
  unfold argsM at h
  by_cases h1 : rightS S = false
  · rw [if_pos h1] at h; cases h
  · rw [if_neg h1] at h
    by_cases h2 : root < 0 ∨ (S.length : Int) ≤ root
    · rw [if_pos h2] at h; cases h
    · exact ⟨by simpa using h1, by omega, by omega⟩

def resolveV (S : List MsgD) (root : Int) (p : ByteArray) : List Int × Nat :=
  if argsM S root ≠ 0 then ([], argsM S root) else match namesP p with
  | none => ([], 10)
  | some l => match wayV S root.toNat l with
    | none => ([], 10)
    | some way => (way, 0)

def piecesN (fs : List FieldD) (bs : List UInt8) (n : Int) : List (List UInt8) := ((viewsV fs bs).1.filter (ofP n)).map (valueO bs)

def fieldsOf (S : List MsgD) (m : Nat) : List FieldD := match S[m]? with
  | none => []
  | some M => M.fields

def piecesW (S : List MsgD) : Nat → List UInt8 → List Int → List (List UInt8)
  | _, _, [] => []
  | m, bs, n :: l => if l = [] then piecesN (fieldsOf S m) bs n else match fieldAt S m n with
    | none => []
    | some f => piecesW S f.of_.toNat (piecesN (fieldsOf S m) bs n).flatten l

end Go.Proofs.YtpicpebolghcfaaGreatDoor
