/- Plain words of layer 20: the items of a load, and what it means. No program is named. -/
import Derived.Test.YtnnphodgegcddaaGreatQfW32
import Derived.Test.YtnnphodgegcddaaGreatQfW14w

namespace Go.Proofs.YtnnphodgegcddaaGreat
open Go.RowKit
open Go.Lib (uvarint)
set_option linter.unusedVariables false

def itemN (bs : List UInt8) : Nat × Nat × Nat :=
 if (readV bs).2.2 ≠ 0 then (0, 0, (readV bs).2.2) else if bs.length - (readV bs).2.1 < (readV bs).1 then (0, 0, 3) else ((readV bs).2.1, (readV bs).1, 0)

theorem itemN_bd (bs : List UInt8) : ((itemN bs).2.2 = 0 ∧ 1 ≤ (itemN bs).1 ∧ (itemN bs).1 + (itemN bs).2.1 ≤ bs.length ∧ (itemN bs).2.1 = (readV bs).1 ∧ (itemN bs).1 = (readV bs).2.1 ∧ (readV bs).2.2 = 0) ∨ ((itemN bs).2.2 ≠ 0 ∧ (itemN bs).2.2 ≤ 4) := by
 have h := readV_bd bs
 unfold itemN
 by_cases h0 : (readV bs).2.2 ≠ 0
 · rw [if_pos h0]
   exact .inr ⟨h0, h.2.2.2.1⟩
 · rw [if_neg h0]
   have h0' : (readV bs).2.2 = 0 := by omega
   split
   · exact .inr ⟨by simp, by simp⟩
   · exact .inl ⟨rfl, h.2.2.2.2.1 h0', by simp only; omega, rfl, rfl, h0'⟩

def itemsF : Nat → List UInt8 → List (List UInt8 × Nat)
 | 0, _ => []
 | f + 1, bs => if bs = [] then [] else if (itemN bs).2.2 = 0 then ((bs.drop (itemN bs).1).take (itemN bs).2.1, 0) :: itemsF f (bs.drop ((itemN bs).1 + (itemN bs).2.1)) else [([], (itemN bs).2.2)]

theorem itemsF_len : ∀ (f : Nat) (bs : List UInt8), (itemsF f bs).length ≤ f
 | 0, bs => by simp [itemsF]
 | f + 1, bs => by
   unfold itemsF
   split
   · simp
   · split
     · have := itemsF_len f (bs.drop ((itemN bs).1 + (itemN bs).2.1)); simp only [List.length_cons]; omega
     · simp

theorem itemsF_ok {f : Nat} {bs : List UInt8} (hb : bs ≠ []) (h : (itemN bs).2.2 = 0) : itemsF (f + 1) bs = ((bs.drop (itemN bs).1).take (itemN bs).2.1, 0) :: itemsF f (bs.drop ((itemN bs).1 + (itemN bs).2.1)) := by
 conv => lhs; unfold itemsF
 rw [if_neg hb, if_pos h]

def itemsL (rep : Bool) (bs : List UInt8) : List (List UInt8 × Nat) := if rep = true then itemsF bs.length bs else [(bs, 0)]

theorem itemsL_len (rep : Bool) (bs : List UInt8) : (itemsL rep bs).length ≤ bs.length + 1 := by
 unfold itemsL
 split
 · have := itemsF_len bs.length bs
   omega
 · simp

def oneL (S : List MsgD) (f : FieldD) (d : Int) (b : List UInt8) : Nat :=
 if numberB f.kind = true then (readS f.kind b).2 else if f.kind = 15 then (if rightT b = true then 0 else 7) else if f.kind = 17 then (checkB S f.of_ b d).2 else 0

def firstL (g : List UInt8 → Nat) : List (List UInt8 × Nat) → Nat
 | [] => 0
 | x :: l => if x.2 ≠ 0 then x.2 else if g x.1 ≠ 0 then g x.1 else firstL g l

theorem firstL_at {g : List UInt8 → Nat} : ∀ {l : List (List UInt8 × Nat)} {j : Nat} {x : List UInt8 × Nat}, l[j]? = some x → (∀ i y, i < j → l[i]? = some y → y.2 = 0 ∧ g y.1 = 0) → (x.2 ≠ 0 → firstL g l = x.2) ∧ (x.2 = 0 → g x.1 ≠ 0 → firstL g l = g x.1)
 | [], j, x, h, _ => by simp at h
 | y :: l, 0, x, h, _ => by
   simp only [List.getElem?_cons_zero, Option.some.injEq] at h
   subst h
   refine ⟨fun h => ?_, fun h h2 => ?_⟩
   · unfold firstL
     rw [if_pos h]
   · unfold firstL
     rw [if_neg (by simpa using h), if_pos h2]
 | y :: l, j + 1, x, h, hf => by
   obtain ⟨h1, h2⟩ := hf 0 y (by omega) rfl
   rw [List.getElem?_cons_succ] at h
   have ih := firstL_at (g := g) (l := l) h (fun i z hi hz => hf (i + 1) z (by omega) (by rw [List.getElem?_cons_succ]; exact hz))
   have e : firstL g (y :: l) = firstL g l := by
    conv => lhs; unfold firstL
    rw [if_neg (by simpa using h1), if_neg (by simpa using h2)]
   rw [e]
   exact ih

theorem firstL_all {g : List UInt8 → Nat} : ∀ {l : List (List UInt8 × Nat)}, (∀ x ∈ l, x.2 = 0 ∧ g x.1 = 0) → firstL g l = 0
 | [], _ => rfl
 | y :: l, h => by
   obtain ⟨h1, h2⟩ := h y List.mem_cons_self
   unfold firstL
   rw [if_neg (by simpa using h1), if_neg (by simpa using h2)]
   exact firstL_all (fun x hx => h x (List.mem_cons_of_mem _ hx))

theorem firstL_fine {g : List UInt8 → Nat} : ∀ {l : List (List UInt8 × Nat)}, firstL g l = 0 → ∀ x ∈ l, x.2 = 0 ∧ g x.1 = 0
 | [], _, x, hx => by cases hx
 | y :: l, h, x, hx => by
   unfold firstL at h
   by_cases h1 : y.2 = 0
   · by_cases h2 : g y.1 = 0
     · rw [if_neg (by simpa using h1), if_neg (by simpa using h2)] at h
       rcases List.mem_cons.1 hx with rfl | hx
       · exact ⟨h1, h2⟩
       · exact firstL_fine h x hx
     · rw [if_neg (by simpa using h1), if_pos h2] at h
       exact absurd h h2
   · rw [if_pos h1] at h
     exact absurd h h1

def runL (f : FieldD) : Bool := f.rep && numberB f.kind

def codeL (S : List MsgD) (f : FieldD) (bs : List UInt8) (d : Int) : Nat :=
 if argsL S f d ≠ 0 then argsL S f d else if runL f = true then codeV f.kind bs else firstL (oneL S f d) (itemsL f.rep bs)

theorem codeL_bad {S : List MsgD} {f : FieldD} {bs : List UInt8} {d : Int} (h : argsL S f d ≠ 0) : codeL S f bs d = argsL S f d := if_pos h

theorem codeL_run {S : List MsgD} {f : FieldD} {bs : List UInt8} {d : Int} (h : argsL S f d = 0) (hr : runL f = true) : codeL S f bs d = codeV f.kind bs := by
 unfold codeL
 rw [if_neg (by simpa using h), if_pos hr]

theorem codeL_items {S : List MsgD} {f : FieldD} {bs : List UInt8} {d : Int} (h : argsL S f d = 0) (hr : runL f = false) : codeL S f bs d = firstL (oneL S f d) (itemsL f.rep bs) := by
 unfold codeL
 rw [if_neg (by simpa using h), if_neg (by rw [hr]; decide)]

def valueL (S : List MsgD) (f : FieldD) (bs : List UInt8) (d : Int) : ValT :=
 if runL f = true then ⟨(), (), (), f.number, ((valsV f.kind bs).map fun u => (readS f.kind u.1).1), [], []⟩
 else if numberB f.kind = true then ⟨(), (), (), f.number, ((itemsL f.rep bs).map fun x => (readS f.kind x.1).1), [], []⟩
 else if f.kind = 17 then ⟨(), (), (), f.number, [], [], ((itemsL f.rep bs).map fun x => OfT S f.of_ x.1 d)⟩
 else ⟨(), (), (), f.number, [], ((itemsL f.rep bs).map fun x => (⟨x.1.toArray⟩ : ByteArray)), []⟩

end Go.Proofs.YtnnphodgegcddaaGreat
