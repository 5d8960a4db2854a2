/- Plain words of layer 20: two loads, one behind the other. No program is named. -/
import Derived.Test.YtnnphodgegcddaaQeS36

namespace Go.Proofs.Ytnnphodgegcddaa
open Go.RowKit
open Go.Lib (uvarint)
set_option linter.unusedVariables false

theorem itemN_append {a : List UInt8} (h : (itemN a).2.2 = 0) (b : List UInt8) : itemN (a ++ b) = itemN a := by
  rcases itemN_bd a with ⟨_, h1, h2, h3, h4, h5⟩ | ⟨h1, _⟩
  · have hr : readV a = ((readV a).1, (readV a).2.1, 0) := by rw [← h5]
    have e := readV_append hr b
    have e2 : itemN (a ++ b) = ((readV a).2.1, (readV a).1, 0) := by
      unfold itemN
      rw [e]
      simp only
      rw [if_neg (by simp), if_neg (by rw [List.length_append]; omega)]
    have e3 : itemN a = ((readV a).2.1, (readV a).1, 0) := by
      unfold itemN
      rw [if_neg (by rw [h5]; simp), if_neg (by omega)]
    rw [e2, e3]
  · exact absurd h h1

theorem itemsF_append (b : List UInt8) : ∀ (f g : Nat) (a : List UInt8), a.length ≤ f → (a ++ b).length ≤ g → (∀ x ∈ itemsF f a, x.2 = 0) → itemsF g (a ++ b) = itemsF f a ++ itemsF b.length b
  | f, g, [], h1, h2, _ => by
    have e : itemsF f [] = [] := by cases f <;> rfl
    rw [e, List.nil_append, List.nil_append]
    exact itemsF_fuel _ _ _ (by simpa using h2) (Nat.le_refl _)
  | 0, g, x :: l, h1, _, _ => by simp at h1
  | f + 1, 0, x :: l, _, h2, _ => by simp at h2
  | f + 1, g + 1, x :: l, h1, h2, h3 => by
    have hne : x :: l ≠ [] := by simp
    have h0 : (itemN (x :: l)).2.2 = 0 := by
      by_cases h0 : (itemN (x :: l)).2.2 = 0
      · exact h0
      · have := h3 ([], (itemN (x :: l)).2.2) (by unfold itemsF; rw [if_neg hne, if_neg h0]; simp)
        exact this
    have hap := itemN_append h0 b
    rcases itemN_bd (x :: l) with ⟨_, p1, p2, _, _, _⟩ | ⟨p1, _⟩
    · have ih := itemsF_append b f g ((x :: l).drop ((itemN (x :: l)).1 + (itemN (x :: l)).2.1)) (by rw [List.length_drop]; simp only [List.length_cons] at h1 ⊢; omega) (by rw [List.length_append, List.length_drop]; simp only [List.length_append, List.length_cons] at h2 ⊢; omega) (fun y hy => h3 y (by rw [itemsF_ok hne h0]; exact List.mem_cons_of_mem _ hy))
      have hne2 : x :: l ++ b ≠ [] := by simp
      rw [itemsF_ok hne h0, itemsF_ok hne2 (by rw [hap]; exact h0), hap]
      rw [show ∀ (p : List UInt8 × Nat) (q r : List (List UInt8 × Nat)), (p :: q) ++ r = p :: (q ++ r) from fun _ _ _ => rfl]
      rw [List.drop_append_of_le_length (show (itemN (x :: l)).1 + (itemN (x :: l)).2.1 ≤ (x :: l).length by omega), ih]
      congr 1
      congr 1
      rw [List.drop_append_of_le_length (show (itemN (x :: l)).1 ≤ (x :: l).length by omega), List.take_append_of_le_length (by rw [List.length_drop]; omega)]
    · exact absurd h0 p1

theorem firstL_append {g : List UInt8 → Nat} : ∀ (l k : List (List UInt8 × Nat)), firstL g l = 0 → firstL g (l ++ k) = firstL g k
  | [], k, _ => rfl
  | x :: l, k, h => by
    have h1 := firstL_fine h x List.mem_cons_self
    have h2 : firstL g l = 0 := firstL_all (fun y hy => firstL_fine h y (List.mem_cons_of_mem _ hy))
    rw [← firstL_append l k h2, List.cons_append]
    conv => lhs; unfold firstL
    rw [if_neg (by simpa using h1.1), if_neg (by simpa using h1.2)]

theorem load_join {S : List MsgD} {f : FieldD} {a b : List UInt8} {d : Int} (hr : f.rep = true) (ha : codeL S f a d = 0) (hb : codeL S f b d = 0) :
    codeL S f (a ++ b) d = 0 ∧ valueL S f (a ++ b) d = ⟨(), (), (), f.number, (valueL S f a d).words ++ (valueL S f b d).words, (valueL S f a d).texts ++ (valueL S f b d).texts, (valueL S f a d).subs ++ (valueL S f b d).subs⟩ := by
  have h0 : argsL S f d = 0 := by
    by_cases h0 : argsL S f d = 0
    · exact h0
    · rw [codeL_bad h0] at ha
      exact absurd ha h0
  rcases hk : numberB f.kind with _ | _
  · have hrun : runL f = false := by unfold runL; rw [hk, Bool.and_false]
    rw [codeL_items h0 hrun, hr] at ha hb ⊢
    have hap : itemsL true (a ++ b) = itemsL true a ++ itemsL true b := by
      unfold itemsL
      rw [if_pos rfl, if_pos rfl, if_pos rfl]
      exact itemsF_append b _ _ a (Nat.le_refl _) (Nat.le_refl _) (fun x hx => (firstL_fine ha x (by unfold itemsL; rw [if_pos rfl]; exact hx)).1)
    refine ⟨by rw [hap, firstL_append _ _ ha, hb], ?_⟩
    have e : ∀ bs, valueL S f bs d = if f.kind = 17 then ⟨(), (), (), f.number, [], [], ((itemsL f.rep bs).map fun x => OfT S f.of_ x.1 d)⟩ else ⟨(), (), (), f.number, [], ((itemsL f.rep bs).map fun x => (⟨x.1.toArray⟩ : ByteArray)), []⟩ := fun bs => by
      unfold valueL
      rw [if_neg (by rw [hrun]; decide), if_neg (by rw [hk]; decide)]
    rw [e, e, e, hr, hap]
    by_cases h17 : f.kind = 17
    · simp [h17]
    · simp [h17]
  · have hrun : runL f = true := by unfold runL; rw [hk, hr]; rfl
    rw [codeL_run h0 hrun] at ha hb ⊢
    refine ⟨by rw [codeV_append ha, hb], ?_⟩
    have e : ∀ bs, valueL S f bs d = ⟨(), (), (), f.number, ((valsV f.kind bs).map fun u => (readS f.kind u.1).1), [], []⟩ := fun bs => by
      unfold valueL
      rw [if_pos hrun]
    rw [e, e, e, valsV_append ha]
    simp

end Go.Proofs.Ytnnphodgegcddaa
