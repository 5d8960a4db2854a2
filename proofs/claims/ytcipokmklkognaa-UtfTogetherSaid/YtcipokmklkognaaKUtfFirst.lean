/- The walk of the law UtfFirst, out of its callees' contracts. -/
import Derived.Test.YtcipokmklkognaaW4e
namespace Go.Proofs.Ytcipokmklkognaa
open Go.RowKit Go.MapKept
set_option linter.unusedVariables false

theorem walk_a : walkV ([97] : List UInt8) ([97] : List UInt8).length = (1, 1) := by
  have h1 : nextV [97] = 1 := by decide
  have h2 : nextV [] = 0 := rfl
  rw [walkV_step (by rw [h1]; decide), h1, show List.drop 1 ([97] : List UInt8) = [] from rfl, walkV_stop (.inl h2)]
  rfl

theorem walk_ax : walkV ([97, 195] : List UInt8) ([97, 195] : List UInt8).length = (1, 1) := by
  have h1 : nextV [97, 195] = 1 := by decide
  have h2 : nextV [195] = 0 := by decide
  rw [walkV_step (by rw [h1]; decide), h1, show List.drop 1 ([97, 195] : List UInt8) = [195] from rfl, walkV_stop (.inl h2)]
  rfl

theorem walk_axx : walkV ([97, 195, 169] : List UInt8) ([97, 195, 169] : List UInt8).length = (3, 2) := by
  have h1 : nextV [97, 195, 169] = 1 := by decide
  have h2 : nextV [195, 169] = 2 := by decide
  have h3 : nextV [] = 0 := rfl
  rw [walkV_step (by rw [h1]; decide), h1, show List.drop 1 ([97, 195, 169] : List UInt8) = [195, 169] from rfl, walkV_step (by rw [h2]; decide), h2, show List.drop 2 ([195, 169] : List UInt8) = [] from rfl, walkV_stop (.inl h3)]
  rfl

theorem right_a : rightT [97] = true := by unfold rightT; rw [walk_a]; rfl

theorem lit_a (w : World) (e : TypeId) {b : Nat} (hb : b = w.heap.size) : BytesAt (w.alloc (.cells #[.int .u8 97] e)) (some ⟨b, 0, none⟩) 1 1 [97] := bytes_lit w e [.int .u8 97] [97] 1 hb (by simp [bv]) rfl (by simp [maxLen])

theorem lit_ax (w : World) (e : TypeId) {b : Nat} (hb : b = w.heap.size) : BytesAt (w.alloc (.cells #[.int .u8 97, .int .u8 195] e)) (some ⟨b, 0, none⟩) 2 2 [97, 195] := bytes_lit w e [.int .u8 97, .int .u8 195] [97, 195] 2 hb (by simp [bv]) rfl (by simp [maxLen])

theorem lit_axx (w : World) (e : TypeId) {b : Nat} (hb : b = w.heap.size) : BytesAt (w.alloc (.cells #[.int .u8 97, .int .u8 195, .int .u8 169] e)) (some ⟨b, 0, none⟩) 3 3 [97, 195, 169] := bytes_lit w e [.int .u8 97, .int .u8 195, .int .u8 169] [97, 195, 169] 3 hb (by simp [bv]) rfl (by simp [maxLen])

theorem freeze_new (w : World) (c : Array Value) (e : TypeId) (k : Nat) : (w.alloc (.cells c e)).freeze ⟨w.heap.size, k, none⟩ 1 = w.alloc (.cells c e (k, k + 1)) := by
  unfold World.freeze World.alloc
  rw [if_neg (by decide)]
  have hm : ∀ (a : Array Obj) (o : Obj) (f : Obj → Obj), (a.push o).modify a.size f = a.push (f o) := by
    intro a o f
    apply Array.ext_getElem?
    intro i
    simp only [Array.getElem?_modify, Array.getElem?_push]
    by_cases h : a.size = i
    · subst h; simp
    · have h' : ¬ i = a.size := fun e => h e.symm
      simp [h, h']
  simp only [hm]
  rfl

theorem byte_same (w : World) {b : Nat} (hb : b = w.heap.size) : ∃ W2, (convert 22 22 (.slice (some ⟨b, 0, none⟩) 1 1)).run Try.prog (w.alloc (.cells #[.int .u8 97] 5)) = .ok (.slice (some ⟨b, 0, none⟩) 1 1) W2 ∧ Ext w W2 ∧ BytesAt W2 (some ⟨b, 0, none⟩) 1 1 [97] := by
  subst hb
  refine ⟨w.alloc (.cells #[.int .u8 97] 5 (1, 2)), ?_, (Ext.refl w).alloc _, ?_⟩
  · have hsh : (w.alloc (.cells #[.int .u8 97] 5)).shape? w.heap.size = some (5, 1) := by unfold World.shape?; rw [(heap_alloc w _).1]; rfl
    unfold convert
    simp [run_underlying Try.underlying22, run_underlying Try.underlying5, markStringish, hsh]
    exact freeze_new w _ _ _
  · refine ⟨rfl, Nat.le_refl _, by decide, fun _ => ⟨w.heap.size, 0, rfl, by show w.heap.size < (w.heap.push _).size; simp, ?_⟩⟩
    intro j u hu
    rcases j with _ | j
    · simp [bv] at hu
      subst hu
      have h := heap_alloc_new w (.cells #[.int .u8 97] 5 (1, 2))
      unfold World.cell?
      simp only [Nat.zero_add]
      rw [h]
      rfl
    · simp at hu
theorem alive04 (w : World) : Calls Try.prog 15 #[] w fun e w' => e = .returned (.bool true) ∧ Ext w w' := by
  go_enter Try.func15, Try.ntmps15
  go_wp2_with fail
  refine (uFirst (lit_ax _ _ (by first | rfl | simp))).mono ?_
  rw [walk_ax]
  rintro e w1 ⟨rfl, rfl⟩
  go_wp2_with fail
  refine (uFirst (lit_axx _ _ (by first | rfl | simp))).mono ?_
  rw [walk_axx]
  rintro e w2 ⟨rfl, rfl⟩
  obtain ⟨W2, hcv, E3, hb3⟩ := byte_same ((w.alloc (.cells #[.int .u8 97, .int .u8 195] 5)).alloc (.cells #[.int .u8 97, .int .u8 195, .int .u8 169] 5)) (b := w.heap.size + 1 + 1) (by simp)
  go_wp2_with fail
  refine (uRight hb3).mono ?_
  rw [right_a]
  rintro e w3 ⟨rfl, rfl⟩
  go_wp2_with fail
  go_ret
  exact ⟨rfl, (((Ext.refl w).alloc _).alloc _).trans E3⟩

theorem utfFirst_walk {A : Option Addr} {n c : Nat} {bs : List UInt8} {w : World} (hb : BytesAt w A n c bs) :
    Calls Try.prog 3 #[.slice A n c] w fun e w' => e = .returned (.bool true) ∧ Ext w w' := by
  have hmax := Reads.max hb
  have hcap := Reads.cap hb
  unfold maxLen at hmax
  by_cases hn : (2000 : Int) < n
  · go_enter Try.func3, Try.ntmps3
    go_wp2_with (go_at_call 15; refine (alive04 _).mono ?_; rintro e w1 ⟨rfl, E1⟩)
    go_ret
    exact ⟨rfl, E1⟩
  · have hl := hb.length
    have hr : rightT bs = (((walkV bs bs.length).1 : Int) == (n : Int)) := by
      unfold rightT
      rw [Bool.eq_iff_iff]
      simp
      omega
    have hR : ∀ {w0 : World}, Ext w w0 → Calls Try.prog 16 #[.slice A n c, .int .i64 n] w0 fun e w' => e = .returned (.tuple #[.int .i64 ((walkV bs bs.length).1 : Nat), .int .i64 ((walkV bs bs.length).2 : Nat)]) ∧ Ext w0 w' := by
      intro w0 h
      have := uFirstR (room := (n : Int)) (hb.ext h) (by omega) (by omega)
      rwa [show ((n : Int)).toNat = bs.length from hl.symm] at this
    clear hl
    go_enter Try.func3, Try.ntmps3
    go_wp2_with (first
      | (go_at_call 15; refine (alive04 _).mono ?_; rintro e w1 ⟨rfl, E1⟩)
      | (go_at_call 16; refine (hR E1).mono ?_; rintro e w2 ⟨rfl, E2⟩)
      | (go_at_call 17; refine (uFirst (hb.ext (E1.trans E2))).mono ?_; rintro e w3 ⟨rfl, rfl⟩)
      | (go_at_call 18; refine (uCount (hb.ext (E1.trans E2))).mono ?_; rintro e w3 ⟨rfl, rfl⟩)
      | (go_at_call 19; refine (uRight (hb.ext (E1.trans E2))).mono ?_; rw [hr]; rintro e w3 ⟨rfl, rfl⟩))
    go_ret
    exact ⟨rfl, E1.trans E2⟩

end Go.Proofs.Ytcipokmklkognaa
