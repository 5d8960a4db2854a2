/- Plain words of layer 18: the normal form, field by field, is the meaning's bytes; and how long it is at most. -/
import Derived.Test.YtnnphodgegcddaaGreatQdS15

/- Plain words of layer 18: the normal form, field by field. -/
namespace Go.Proofs.YtnnphodgegcddaaGreat
open Go.RowKit
set_option linter.unusedVariables false

section
variable {se : Nat → MsgT → List UInt8} {sub : Nat → List UInt8 → MsgT} {f : FieldD} {bs : List UInt8} {fs : List FieldD} {L : List ViewD} {S : List MsgD} {m : Nat} {M : MsgD}

end

end Go.Proofs.YtnnphodgegcddaaGreat

/- Plain words of layer 18: how long a normal form is at most. -/
namespace Go.Proofs.YtnnphodgegcddaaGreat
open Go.RowKit
set_option linter.unusedVariables false

section
variable {se : Nat → MsgT → List UInt8} {sub : Nat → List UInt8 → MsgT} {f : FieldD} {bs : List UInt8} {fs : List FieldD} {S : List MsgD} {m : Nat} {M : MsgD}

end

end Go.Proofs.YtnnphodgegcddaaGreat

/- Plain words of layer 18: the normal form of two messages, one behind the other; how long it is; and what it means. -/


/- Plain words of layer 18: the normal form of two messages is no longer than theirs together. -/
namespace Go.Proofs.YtnnphodgegcddaaGreat
open Go.RowKit
open Go.Lib (uvarint uvarint_small uvarint_big uvarint_pos)
set_option linter.unusedVariables false

theorem putB_len (n : Int) (v : List UInt8) : (putB n 2 v).length = (tagB n 2).length + (uvarint v.length).length + v.length := by
 unfold putB
 rw [if_pos rfl, List.length_append, List.length_append]
 omega

section
variable {se : Nat → MsgT → List UInt8} {sub : Nat → List UInt8 → MsgT} {f : FieldD} {a b : List UInt8} {fs : List FieldD} {S : List MsgD} {m : Nat} {M : MsgD}

theorem wire_other {k : Int} (h : kindB k = true) (hn : numberB k = false) : wireI k = 2 := by
 unfold kindB at h
 have h := of_decide_eq_true h
 unfold numberB at hn
 have hn := of_decide_eq_false hn
 unfold wireI
 rw [if_neg (by omega), if_neg (by omega), if_neg (by omega)]

end

end Go.Proofs.YtnnphodgegcddaaGreat

/- Plain words of layer 18: right meanings within more depth; the normal form. -/
namespace Go.Proofs.YtnnphodgegcddaaGreat
open Go.RowKit
set_option linter.unusedVariables false

section
variable {S : List MsgD}

theorem RightJ.mono {rs rs' : Nat → MsgT → Prop} (h : ∀ m x, rs m x → rs' m x) {m : Nat} {x : MsgT} (hx : RightJ rs S m x) : RightJ rs' S m x := by
 obtain ⟨M, hM, hp, hv, hu⟩ := hx
 refine ⟨M, hM, hp, fun v hvm => ?_, hu⟩
 obtain ⟨i, f, hf, h1, h2, h3, h4⟩ := hv v hvm
 refine ⟨i, f, hf, h1, h2, h3, ?_⟩
 rcases h4 with h4 | h4 | ⟨h4, h5, h6, h7⟩
 · exact .inl h4
 · exact .inr (.inl h4)
 · exact .inr (.inr ⟨h4, h5, h6, fun y hy => h _ _ (h7 y hy)⟩)

theorem RightV.succ : ∀ {d m : Nat} {x : MsgT}, RightV S d m x → RightV S (d + 1) m x
 | 0, m, x, h => by
   have h' : RightJ (fun _ _ => False) S m x := h
   exact h'.mono (fun _ _ q => q.elim)
 | d + 1, m, x, h => by
   have h' : RightJ (RightV S d) S m x := h
   exact h'.mono (fun _ _ q => RightV.succ q)

theorem RightV.more {d m : Nat} {x : MsgT} (h : RightV S d m x) : ∀ {D : Nat}, d ≤ D → RightV S D m x := by
 intro D hD
 induction D with
 | zero => obtain rfl : d = 0 := by omega
           exact h
 | succ D ih =>
   by_cases e : d = D + 1
   · subst e
     exact h
   · exact RightV.succ (ih (by omega))

end

end Go.Proofs.YtnnphodgegcddaaGreat

/- Plain words of layer 14: right meanings, however deep. No program is named. -/

namespace Go.Proofs.YtnnphodgegcddaaGreat
open Go.RowKit
set_option linter.unusedVariables false

section
variable {S : List MsgD}

def RR (S : List MsgD) (m : Nat) (x : MsgT) : Prop := ∃ d, RightV S d m x

def RI (S : List MsgD) (root : Int) (x : MsgT) : Prop := 0 ≤ root ∧ RR S root.toNat x

theorem RightF.mono {rs rs' : Nat → MsgT → Prop} {f : FieldD} {v : ValT} (hv : RightF rs f v) (h : ∀ y ∈ v.subs, rs f.of_.toNat y → rs' f.of_.toNat y) : RightF rs' f v := by
 obtain ⟨h1, h2, h3, h4⟩ := hv
 refine ⟨h1, h2, h3, ?_⟩
 rcases h4 with h4 | h4 | ⟨h4, h5, h6, h7⟩
 · exact .inl h4
 · exact .inr (.inl h4)
 · exact .inr (.inr ⟨h4, h5, h6, fun y hy => h y hy (h7 y hy)⟩)

theorem RightV.mono {d D m : Nat} {x : MsgT} (h : RightV S d m x) (hD : d ≤ D) : RightV S D m x := h.more hD

theorem rr_all {m : Nat} : ∀ {l : List MsgT}, (∀ y ∈ l, RR S m y) → ∃ d, ∀ y ∈ l, RightV S d m y
 | [], _ => ⟨0, fun y hy => by cases hy⟩
 | y :: l, h => by
   obtain ⟨d, hd⟩ := rr_all (l := l) (fun z hz => h z (List.mem_cons_of_mem _ hz))
   obtain ⟨e, he⟩ := h y List.mem_cons_self
   refine ⟨max d e, fun z hz => ?_⟩
   rcases List.mem_cons.1 hz with rfl | hz
   · exact he.more (by omega)
   · exact (hd z hz).more (by omega)

theorem rr_vals {M : MsgD} : ∀ {l : List ValT}, (∀ v ∈ l, ∃ (i : Nat) (f : FieldD), M.fields[i]? = some f ∧ RightF (RR S) f v) → ∃ d, ∀ v ∈ l, ∃ (i : Nat) (f : FieldD), M.fields[i]? = some f ∧ RightF (RightV S d) f v
 | [], _ => ⟨0, fun y hy => by cases hy⟩
 | v :: l, h => by
   obtain ⟨d, hd⟩ := rr_vals (l := l) (fun z hz => h z (List.mem_cons_of_mem _ hz))
   obtain ⟨i, f, hf, hv⟩ := h v List.mem_cons_self
   have hv' := hv
   obtain ⟨_, _, _, h4⟩ := hv'
   obtain ⟨e, he⟩ : ∃ e, RightF (RightV S e) f v := by
    rcases h4 with h4 | h4 | ⟨h4, h5, h6, h7⟩
    · exact ⟨0, hv.mono fun y hy _ => by rw [h4.2.2.1] at hy; cases hy⟩
    · exact ⟨0, hv.mono fun y hy _ => by rw [h4.2.2.2.2.1] at hy; cases hy⟩
    · obtain ⟨e, he⟩ := rr_all h7
      exact ⟨e, hv.mono fun y hy _ => he y hy⟩
   refine ⟨max d e, fun z hz => ?_⟩
   rcases List.mem_cons.1 hz with rfl | hz
   · exact ⟨i, f, hf, he.mono fun y hy q => q.more (by omega)⟩
   · obtain ⟨j, g, hg, hz'⟩ := hd z hz
     exact ⟨j, g, hg, hz'.mono fun y hy q => q.more (by omega)⟩

theorem rr_iff {m : Nat} {x : MsgT} : RR S m x ↔ RightJ (RR S) S m x := by
 constructor
 · rintro ⟨d, h⟩
   rcases d with _ | d
   · have h' : RightJ (fun _ _ => False) S m x := h
     exact h'.mono (fun _ _ q => q.elim)
   · have h' : RightJ (RightV S d) S m x := h
     exact h'.mono (fun _ _ q => ⟨d, q⟩)
 · rintro ⟨M, hM, hp, hv, hu⟩
   obtain ⟨d, hd⟩ := rr_vals hv
   exact ⟨d + 1, M, hM, hp, hd, hu⟩

def FitP (S : List MsgD) (f : FieldD) (v : ValT) : Prop :=
 manyU v ≠ 0 ∧ (f.rep = false → manyU v = 1) ∧
  ((numberB f.kind = true ∧ v.texts = [] ∧ v.subs = [] ∧ ∀ w ∈ v.words, canonN f.kind w = w) ∨
    (numberB f.kind = false ∧ kindB f.kind = true ∧ f.kind ≠ 17 ∧ v.words = [] ∧ v.subs = [] ∧ (f.kind = 15 → ∀ t ∈ v.texts, rightT t.data.toList = true)) ∨
    (f.kind = 17 ∧ v.words = [] ∧ v.texts = [] ∧ ∀ y ∈ v.subs, RI S f.of_ y))

def StrangeP (fs : List FieldD) (t : ByteArray) : Prop := ∃ T V a, headV t.data.toList = (T, V, a, t.data.toList.length, 0) ∧ fs.find? (fun f => f.number == (T : Int)) = none

theorem fit_iff {f : FieldD} {v : ValT} (hn : v.number = f.number) (h0 : f.kind = 17 → 0 ≤ f.of_) (h64 : ∀ w ∈ v.words, w < 18446744073709551616) : RightF (RR S) f v ↔ FitP S f v := by
 unfold RightF FitP
 constructor
 · rintro ⟨_, h2, h3, h4⟩
   refine ⟨h2, h3, ?_⟩
   rcases h4 with ⟨a, b, c, d⟩ | h4 | ⟨h4, h5, h6, h7⟩
   · exact .inl ⟨a, b, c, fun w hw => (d w hw).2⟩
   · exact .inr (.inl h4)
   · exact .inr (.inr ⟨h4, h5, h6, fun y hy => ⟨h0 h4, h7 y hy⟩⟩)
 · rintro ⟨h2, h3, h4⟩
   refine ⟨hn, h2, h3, ?_⟩
   rcases h4 with ⟨a, b, c, d⟩ | h4 | ⟨h4, h5, h6, h7⟩
   · exact .inl ⟨a, b, c, fun w hw => ⟨h64 w hw, d w hw⟩⟩
   · exact .inr (.inl h4)
   · exact .inr (.inr ⟨h4, h5, h6, fun y hy => (h7 y hy).2⟩)

def valsP (ok : ValT → Prop) : Int → List ValT → Prop
 | _, [] => True
 | last, v :: l => last < v.number ∧ ok v ∧ valsP ok v.number l

theorem valsP_iff {ok : ValT → Prop} : ∀ {last : Int} {l : List ValT}, valsP ok last l ↔ (∀ v ∈ l, last < v.number) ∧ l.Pairwise (fun u v => u.number < v.number) ∧ ∀ v ∈ l, ok v
 | last, [] => by simp [valsP]
 | last, v :: l => by
   unfold valsP
   rw [valsP_iff (last := v.number) (l := l)]
   simp only [List.mem_cons, List.pairwise_cons, forall_eq_or_imp]
   constructor
   · rintro ⟨h1, h2, h3, h4, h5⟩
     exact ⟨⟨h1, fun u hu => by have := h3 u hu; omega⟩, ⟨h3, h4⟩, h2, h5⟩
   · rintro ⟨⟨h1, _⟩, ⟨h3, h4⟩, h2, h5⟩
     exact ⟨h1, h2, h3, h4, h5⟩

def OkP (S : List MsgD) (M : MsgD) (v : ValT) : Prop := ∃ f, M.fields.find? (fun g => g.number == v.number) = some f ∧ FitP S f v

theorem ri_iff (hR : rightS S = true) {m : Nat} {M : MsgD} (hM : S[m]? = some M) {x : MsgT} (h64 : ∀ v ∈ x.vals, ∀ w ∈ v.words, w < 18446744073709551616) :
  RI S (m : Int) x ↔ valsP (OkP S M) 0 x.vals ∧ ∀ t ∈ x.unk, StrangeP M.fields t := by
 unfold RI
 rw [Int.toNat_natCast, rr_iff, valsP_iff]
 have hfld : ∀ (i : Nat) (f : FieldD), M.fields[i]? = some f → 1 ≤ f.number ∧ (f.kind = 17 → 0 ≤ f.of_) := fun i f hf => by
  refine ⟨(usableB_pos (faultV_inv ((right_msg hR hM).2.2.2 i f hf)).2.2.1).1, fun h17 => ?_⟩
  obtain ⟨o, ho, _⟩ := right_of hR hM hf h17
  omega
 constructor
 · rintro ⟨_, M', hM', hp, hv, hu⟩
   rw [hM] at hM'
   cases hM'
   refine ⟨⟨fun v hvm => ?_, hp, fun v hvm => ?_⟩, hu⟩
   · obtain ⟨i, f, hf, h1, _⟩ := hv v hvm
     have := (hfld i f hf).1
     omega
   · obtain ⟨i, f, hf, hF⟩ := hv v hvm
     refine ⟨f, ?_, (fit_iff hF.1 (hfld i f hf).2 (h64 v hvm)).1 hF⟩
     rw [hF.1]
     exact (find_of_idx (p := fun g : FieldD => decide (g.number = f.number)) (l := M.fields)).2 i f (right_field hR hM hf).2 hf
 · rintro ⟨⟨_, hp, hv⟩, hu⟩
   refine ⟨by omega, M, hM, hp, fun v hvm => ?_, hu⟩
   obtain ⟨f, hf, hF⟩ := hv v hvm
   have hn : f.number = v.number := by simpa using List.find?_some hf
   obtain ⟨i, hi⟩ := List.getElem?_of_mem (List.mem_of_find?_eq_some hf)
   exact ⟨i, f, hi, (fit_iff hn.symm (hfld i f hi).2 (h64 v hvm)).2 hF⟩
end

end Go.Proofs.YtnnphodgegcddaaGreat
