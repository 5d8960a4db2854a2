/- Plain words of layer 14: how many things a meaning has. No program is named. -/
import Derived.Test.YtnnphodgegcddaaGreatQdM14
import Derived.Test.YtnnphodgegcddaaGreatQdOpenT
import Derived.Test.YtnnphodgegcddaaGreatQdS18

namespace Go.Proofs.YtnnphodgegcddaaGreat
open Go.RowKit
set_option linter.unusedVariables false

def textsN (l : List ByteArray) : Nat := l.foldl (fun n t => n + (1 + t.data.toList.length)) 0

def sizeT {τ : Type} (x : MsgX τ) : Nat :=
 1 + textsN x.unk + (x.vals.attach.map fun v => 1 + v.1.words.length + textsN v.1.texts + (v.1.subs.attach.map fun y => sizeT y.1).sum).sum
termination_by SizeOf.sizeOf x
decreasing_by exact MsgX.sub_lt v.2 y.2

def sizeU {τ : Type} (v : ValG τ (MsgX τ)) : Nat := 1 + v.words.length + textsN v.texts + (v.subs.map sizeT).sum

theorem sizeT_eq {τ : Type} (x : MsgX τ) : sizeT x = 1 + textsN x.unk + (x.vals.map sizeU).sum := by
 rw [sizeT]
 congr 2
 rw [attach_map x.vals (fun v => 1 + v.words.length + textsN v.texts + (v.subs.attach.map fun y => sizeT y.1).sum)]
 refine List.map_congr_left fun v _ => ?_
 unfold sizeU
 rw [attach_map v.subs sizeT]

theorem textsN_acc (l : List ByteArray) (n : Nat) : l.foldl (fun n t => n + (1 + t.data.toList.length)) n = n + textsN l := by
 unfold textsN
 induction l generalizing n with
 | nil => rfl
 | cons t l ih =>
   simp only [List.foldl_cons]
   rw [ih, ih (0 + _)]
   omega

theorem textsN_cons (t : ByteArray) (l : List ByteArray) : textsN (t :: l) = 1 + t.data.toList.length + textsN l := by
 unfold textsN
 simp only [List.foldl_cons]
 rw [textsN_acc]
 unfold textsN
 omega

theorem textsN_append (l k : List ByteArray) : textsN (l ++ k) = textsN l + textsN k := by
 induction l with
 | nil => simp [textsN]
 | cons t l ih => rw [List.cons_append, textsN_cons, textsN_cons, ih]; omega

theorem textsN_len (l : List ByteArray) : l.length ≤ textsN l := by
 induction l with
 | nil => exact Nat.zero_le _
 | cons t l ih => rw [textsN_cons, List.length_cons]; omega

theorem textsN_mem {l : List ByteArray} {t : ByteArray} (h : t ∈ l) : t.data.toList.length ≤ textsN l := by
 induction l with
 | nil => cases h
 | cons u l ih =>
   rw [textsN_cons]
   rcases List.mem_cons.1 h with rfl | h
   · omega
   · have := ih h
     omega

theorem sum_mem {l : List Nat} {n : Nat} (h : n ∈ l) : n ≤ l.sum := by
 induction l with
 | nil => cases h
 | cons m l ih =>
   rw [List.sum_cons]
   rcases List.mem_cons.1 h with rfl | h
   · omega
   · have := ih h
     omega

theorem sum_len {l : List Nat} (h : ∀ n ∈ l, 1 ≤ n) : l.length ≤ l.sum := by
 induction l with
 | nil => exact Nat.zero_le _
 | cons m l ih =>
   rw [List.sum_cons, List.length_cons]
   have := h m List.mem_cons_self
   have := ih (fun n hn => h n (List.mem_cons_of_mem _ hn))
   omega

theorem sizeT_pos {τ : Type} (x : MsgX τ) : 1 ≤ sizeT x := by rw [sizeT_eq]; omega

theorem sizeU_mem {τ : Type} {x : MsgX τ} {v : ValG τ (MsgX τ)} (h : v ∈ x.vals) : sizeU v < sizeT x := by
 rw [sizeT_eq]
 have := sum_mem (List.mem_map_of_mem (f := sizeU) h)
 omega

theorem sizeT_mem {τ : Type} {v : ValG τ (MsgX τ)} {y : MsgX τ} (h : y ∈ v.subs) : sizeT y < sizeU v := by
 unfold sizeU
 have := sum_mem (List.mem_map_of_mem (f := sizeT) h)
 omega

theorem sizeU_lens {τ : Type} (v : ValG τ (MsgX τ)) : v.words.length < sizeU v ∧ v.texts.length < sizeU v ∧ v.subs.length < sizeU v := by
 have h1 := textsN_len v.texts
 have h2 := sum_len (l := v.subs.map sizeT) (fun n hn => by obtain ⟨y, _, rfl⟩ := List.mem_map.1 hn; exact sizeT_pos y)
 rw [List.length_map] at h2
 unfold sizeU
 omega

theorem size_bare {τ : Type} (x : MsgX τ) : sizeT (bare x) = sizeT x := by
 refine MsgX.ind (P := fun x => sizeT (bare x) = sizeT x) (fun x ih => ?_) x
 rw [sizeT_eq, sizeT_eq, bare_eq]
 show 1 + textsN x.unk + ((x.vals.map bareV).map sizeU).sum = _
 rw [List.map_map]
 congr 2
 refine List.map_congr_left fun v hv => ?_
 show 1 + v.words.length + textsN v.texts + ((v.subs.map bare).map sizeT).sum = sizeU v
 unfold sizeU
 rw [List.map_map]
 congr 2
 exact List.map_congr_left fun y hy => ih v hv y hy

end Go.Proofs.YtnnphodgegcddaaGreat

/- Plain words of layers 14 and 16: a right meaning's bytes are at most 30 times as many as its things. No program is named. -/


namespace Go.Proofs.YtnnphodgegcddaaGreat
open Go.RowKit
set_option linter.unusedVariables false

theorem flat_most {α : Type} {g : α → List UInt8} {c : α → Nat} : ∀ {l : List α}, (∀ x ∈ l, (g x).length ≤ 30 * c x) → ((l.map g).flatten).length ≤ 30 * (l.map c).sum
 | [], _ => Nat.zero_le _
 | x :: l, h => by
   have h1 := h x List.mem_cons_self
   have h2 := flat_most (g := g) (c := c) (l := l) (fun y hy => h y (List.mem_cons_of_mem _ hy))
   rw [List.map_cons, List.flatten_cons, List.length_append, List.map_cons, List.sum_cons]
   omega

theorem textsN_sum (l : List ByteArray) : textsN l = (l.map fun t => 1 + t.data.toList.length).sum := by
 induction l with
 | nil => rfl
 | cons t l ih => rw [textsN_cons, List.map_cons, List.sum_cons, ih]

theorem sum_ones {α : Type} : ∀ l : List α, (l.map fun _ => 1).sum = l.length
 | [] => rfl
 | _ :: l => by
   have := sum_ones l
   rw [List.map_cons, List.sum_cons, List.length_cons]
   omega

theorem encC_parts {S : List MsgD} {m : Nat} {M : MsgD} (hM : S[m]? = some M) (se : Nat → MsgT → List UInt8) :
  ∃ g : ValT → List (List UInt8), (∀ x : MsgT, encC se S m x = x.vals.flatMap g ++ x.unk.map fun t => t.data.toList) ∧ ∀ (v : ValT) (f : FieldD), M.fields.find? (fun g => g.number == v.number) = some f → g v = valueE se f v := by
 refine ⟨fun v => match M.fields.find? (fun f => f.number == v.number) with
  | none => []
  | some f => valueE se f v, fun x => ?_, fun v f h => ?_⟩
 · unfold encC
   rw [hM]
   rfl
 · show (match M.fields.find? (fun f => f.number == v.number) with
    | none => []
    | some f => valueE se f v) = _
   rw [h]

theorem valueE_size {S : List MsgD} {m : Nat} {M : MsgD} {i : Nat} {f : FieldD} {v : ValT} {se : Nat → MsgT → List UInt8} (hR : rightS S = true) (hM : S[m]? = some M) (hf : M.fields[i]? = some f) {rs : Nat → MsgT → Prop} (hF : RightF rs f v) (hl : sizeU v ≤ 1000000000)
  (hs : ∀ y ∈ v.subs, rs f.of_.toNat y → (se f.of_.toNat y).length + 30 ≤ 30 * sizeT y) : (valueE se f v).flatten.length ≤ 30 * sizeU v := by
 obtain ⟨⟨T, hT⟩, n1, n2, hkb⟩ := right_number hR hM hf
 have r2 : rightB f.number 2 = true := by rw [hT]; exact rightB_of (by omega) (by omega) (by decide)
 have hU : sizeU v = 1 + v.words.length + textsN v.texts + (v.subs.map sizeT).sum := rfl
 unfold valueE
 obtain ⟨_, _, _, hF⟩ := hF
 split
 · rename_i hn
   have hw : ∀ w ∈ v.words, w < 18446744073709551616 := by
    rcases hF with ⟨_, _, _, h⟩ | ⟨h, _⟩ | ⟨h, _⟩
    · exact fun w hw => (h w hw).1
    · rw [hn] at h
      cases h
    · rw [h] at hn
      exact absurd hn (by decide)
   split
   · have h1 := packW_le f.kind v.words hw
     have h2 := putB_length r2 (v := packW f.kind v.words) (by omega)
     rw [List.flatten_cons, List.flatten_nil, List.append_nil]
     omega
   · have h1 := flat_most (g := fun w => putB f.number (wireI f.kind) (putS f.kind w)) (c := fun _ => 1) (l := v.words) (fun w hwm => by
      obtain ⟨V, hV, hV2, _⟩ := wire_fits hn (hw w hwm)
      have q1 := (putS_length (k := f.kind) (hw w hwm)).2
      have q2 := putB_length (number := f.number) (wire := wireI f.kind) (by rw [hT, hV]; exact rightB_of (by omega) (by omega) hV2) (v := putS f.kind w) (by omega)
      omega)
     have h2 := sum_ones v.words
     rw [h2] at h1
     omega
 · rw [List.flatten_append, List.length_append]
   have h1 := flat_most (g := fun t : ByteArray => putB f.number 2 t.data.toList) (c := fun t => 1 + t.data.toList.length) (l := v.texts) (fun t ht => by
    have q1 := textsN_mem ht
    have q2 := putB_length r2 (v := t.data.toList) (by omega)
    omega)
   have h2 := flat_most (g := fun y => putB f.number 2 (se f.of_.toNat y)) (c := sizeT) (l := v.subs) (fun y hy => by
    have q0 : sizeT y < sizeU v := sizeT_mem hy
    have q1 : (se f.of_.toNat y).length + 30 ≤ 30 * sizeT y := by
     refine hs y hy ?_
     rcases hF with ⟨_, _, h, _⟩ | ⟨_, _, _, _, h, _⟩ | ⟨_, _, _, h⟩
     · rw [h] at hy
       cases hy
     · rw [h] at hy
       cases hy
     · exact h y hy
    have q2 := putB_length r2 (v := se f.of_.toNat y) (by omega)
    omega)
   rw [← textsN_sum] at h1
   omega

theorem encC_size {S : List MsgD} {m : Nat} {x : MsgT} {se : Nat → MsgT → List UInt8} (hR : rightS S = true) {rs : Nat → MsgT → Prop} (hx : RightJ rs S m x) (hl : sizeT x ≤ 1000000000)
  (hs : ∀ v ∈ x.vals, ∀ y ∈ v.subs, ∀ o, rs o y → (se o y).length + 30 ≤ 30 * sizeT y) : (encC se S m x).flatten.length + 30 ≤ 30 * sizeT x := by
 obtain ⟨M, hM, _, hv, _⟩ := hx
 obtain ⟨g, hg, hgv⟩ := encC_parts hM se
 rw [hg, List.flatten_append, List.length_append]
 have hT := sizeT_eq x
 have h1 : (x.unk.map fun t => t.data.toList).flatten.length ≤ 30 * textsN x.unk := by
  rw [textsN_sum]
  exact flat_most (g := fun t : ByteArray => t.data.toList) (c := fun t => 1 + t.data.toList.length) (fun t _ => by omega)
 have h2 : ∀ l : List ValT, (∀ v ∈ l, v ∈ x.vals) → (l.flatMap g).flatten.length ≤ 30 * (l.map sizeU).sum := by
  intro l
  induction l with
  | nil => exact fun _ => Nat.zero_le _
  | cons v l ih =>
    intro h
    have ih := ih (fun u hu => h u (List.mem_cons_of_mem _ hu))
    have hvm := h v List.mem_cons_self
    rw [List.flatMap_cons, List.flatten_append, List.length_append, List.map_cons, List.sum_cons]
    have h3 : (g v).flatten.length ≤ 30 * sizeU v := by
     obtain ⟨i, f, hf, hF⟩ := hv v hvm
     have hfd : M.fields.find? (fun g => g.number == v.number) = some f := by
      rw [hF.1]
      exact (find_of_idx (p := fun g : FieldD => decide (g.number = f.number)) (l := M.fields)).2 i f (right_field hR hM hf).2 hf
     rw [hgv v f hfd]
     exact valueE_size hR hM hf hF (by have := sizeU_mem hvm; omega) (fun y hy hr => hs v hvm y hy _ hr)
    omega
 have h4 := h2 x.vals (fun v hv => hv)
 omega

theorem encV_size {S : List MsgD} (hR : rightS S = true) : ∀ (d m : Nat) (x : MsgT), RightV S d m x → sizeT x ≤ 1000000000 → (encV S d m x).length + 30 ≤ 30 * sizeT x
 | 0, m, x, h, hl => by
   have e : encV S 0 m x = (encC (fun _ _ => []) S m x).flatten := by rw [encV]
   rw [e]
   exact encC_size hR (rs := fun _ _ => False) h hl (fun v hv y hy o q => q.elim)
 | d + 1, m, x, h, hl => by
   have e : encV S (d + 1) m x = (encC (encV S d) S m x).flatten := by rw [encV]
   rw [e]
   exact encC_size hR (rs := RightV S d) h hl (fun v hv y hy o q => encV_size hR d o y q (by have := sizeU_mem hv; have := sizeT_mem hy; omega))

end Go.Proofs.YtnnphodgegcddaaGreat
