/- Contracts of layer 14: how many things a meaning has, counted by the laws: at least so many, where few are counted. -/
import Derived.Test.YtnnphodgegcddaaGreatQdS33
import Derived.Test.YtnnphodgegcddaaGreatQdW10

namespace Go.Proofs.YtnnphodgegcddaaGreat
open Go.RowKit
set_option linter.unusedVariables false

def SizeI (N : Nat) (w : World) (e : Ending) (w' : World) : Prop := ∃ n : Int, e = .returned (.int .i64 n) ∧ 0 ≤ n ∧ n ≤ 4000000000000 ∧ (n ≤ 3000 → (N : Int) ≤ n) ∧ Ext w w'

def XSize (x : MsgR) : Prop := ∀ (deep : Int) (w : World), -1 ≤ deep → deep ≤ 1000 → TreeAt w x → FitT 1048576 x → LongT 1048576 x → Calls Tryz.prog 29 #[treeV x, .int .i64 deep] w (SizeI (sizeT x) w)

theorem textsN_snoc {l : List ByteArray} {k : Nat} {t : ByteArray} (h : l[k]? = some t) : textsN (l.take (k + 1)) = textsN (l.take k) + 1 + t.size := by
 rw [take_snoc _ _ _ h, textsN_append, textsN_cons]
 have : t.data.toList.length = t.size := Array.length_toList
 simp [textsN]
 omega

theorem textsN_bd {l : List ByteArray} {B : Nat} (h : ∀ t ∈ l, t.data.toList.length ≤ B) : textsN l ≤ l.length * (B + 1) := by
 induction l with
 | nil => simp [textsN]
 | cons t l ih =>
   rw [textsN_cons, List.length_cons, Nat.succ_mul]
   have := h t List.mem_cons_self
   have := ih (fun u hu => h u (List.mem_cons_of_mem _ hu))
   omega

theorem textsN_small {l : List ByteArray} (hl : l.length ≤ 1048576) (h : ∀ t ∈ l, t.data.toList.length ≤ 1048576) : textsN l ≤ 1099512676352 := by
 have h1 := textsN_bd h
 have h2 : l.length * (1048576 + 1) ≤ 1048576 * (1048576 + 1) := Nat.mul_le_mul hl (Nat.le_refl _)
 omega

theorem textsN_take (l : List ByteArray) (k : Nat) : textsN (l.take k) ≤ textsN l := by
 have := textsN_append (l.take k) (l.drop k)
 rw [List.take_append_drop] at this
 omega

theorem sum_snoc {α : Type} {f : α → Nat} {l : List α} {k : Nat} {x : α} (h : l[k]? = some x) : ((l.take (k + 1)).map f).sum = ((l.take k).map f).sum + f x := by
 rw [take_snoc _ _ _ h]
 simp

set_option maxRecDepth 100000 in
set_option maxHeartbeats 2000000 in
theorem xSizeV {v : ValR} (ih : ∀ y ∈ v.subs, XSize y) (deep : Int) (w : World) (h0 : 0 ≤ deep) (h1 : deep ≤ 1000) (hv : ValAt w v) (hF : v.words.length ≤ 1048576 ∧ v.texts.length ≤ 1048576 ∧ v.subs.length ≤ 1048576) (hL : ∀ t ∈ v.texts, t.data.toList.length ≤ 1048576) (hS : ∀ y ∈ v.subs, FitT 1048576 y ∧ LongT 1048576 y) :
  Calls Tryz.prog 20 #[tvalV v, .int .i64 deep] w (SizeI (sizeU v) w) := by
 have Ih := Lib.hid ih
 obtain ⟨f1, f2, f3⟩ := hF
 have tot := textsN_small f2 hL
 have tk := textsN_take v.texts
 have hU : sizeU v = 1 + v.words.length + textsN v.texts + (v.subs.map sizeT).sum := rfl
 have tcap := hv.own.texts.at_.cap
 have scap := hv.own.subs.cap
 have Tk := Lib.hid tk
 have HL := Lib.hid hL
 have HS := Lib.hid hS
 have HU := Lib.hid hU
 clear ih tk hL hS hU
 generalize sizeU v = U at *
 generalize htn : textsN v.texts = TN at *
 have Htn := Lib.hid htn
 clear htn
 unfold tvalV
 go_enter Tryz.func20, Tryz.ntmps20
 go_wp2
 have BV := BlkT.new w 52 #[.int .i64 v.number, .slice v.a.1 v.words.length v.a.2, .slice v.b.1 v.texts.length v.b.2, .slice v.c.1 v.subs.length v.c.2] rfl
 have X0 : Ext w (w.alloc (.cells #[.int .i64 v.number, .slice v.a.1 v.words.length v.a.2, .slice v.b.1 v.texts.length v.b.2, .slice v.c.1 v.subs.length v.c.2] 52)) := (by repeat with_reducible (first | exact Ext.refl _ | refine Ext.alloc ?_ _ | refine Ext.drew ?_ | refine Ext.drewN ?_ _ | refine Ext.setCell ?_ (by first | omega | (simp <;> omega)) _))
 generalize w.alloc (.cells #[.int .i64 v.number, .slice v.a.1 v.words.length v.a.2, .slice v.b.1 v.texts.length v.b.2, .slice v.c.1 v.subs.length v.c.2] 52) = w1 at *
 have z2 : w1.cell? ⟨w.heap.size, 2, none⟩ = some (.slice v.b.1 v.texts.length v.b.2) := BV.cell 2
 have z3 : w1.cell? ⟨w.heap.size, 3, none⟩ = some (.slice v.c.1 v.subs.length v.c.2) := BV.cell 3
 clear BV
 go_loopw [5, 6] (fun a i wr => ∃ (k n : Nat), k ≤ v.texts.length ∧ i = .int .i64 (k : Int) ∧ a = .int .i64 (n : Int) ∧ Hid (n = 1 + v.words.length + textsN (v.texts.take k)) ∧ n ≤ 1 + v.words.length + TN ∧ Ext w1 wr) (fun _ i _ => v.texts.length - (intOf i).toNat)
 case atStart => exact ⟨0, 1 + v.words.length, Nat.zero_le _, rfl, by go_num, by show _ = _; simp [textsN], by omega, Ext.refl _⟩
 case round =>
  obtain ⟨k, n, hk, rfl, rfl, hN, hb2, hE⟩ := hrel
  have z2r := hE.of_cell z2
  by_cases hlt : k < v.texts.length
  · have hltI : (k : Int) < v.texts.length := by omega
    obtain ⟨b, off, t, hA, ht, hb, hts, e0⟩ := (hv.own.texts.up (X0.trans hE)).text hlt
    have ht2 := HL.out t (List.mem_of_getElem? ht)
    have ht3 : t.data.toList.length = t.size := Array.length_toList
    have ht4 : t.size ≤ 1048576 := by omega
    have hn2 := textsN_snoc ht
    have hn3 := Tk.out (k + 1)
    have hn4 : n + 1 + t.size = 1 + v.words.length + textsN (v.texts.take (k + 1)) := by have := hN.out; omega
    have hn5 : n + 1 + t.size ≤ 1 + v.words.length + TN := by have := Htn.out; omega
    have HN4 := Lib.hid hn4
    rw [hA] at z2r
    clear ht hA hn2 hn3 hn4 ht2 ht3
    go_wp2
    go_roundw
    case rel => exact ⟨k + 1, n + 1 + t.size, by omega, by go_num, by go_num, HN4.out, hn5, hE.trans (by repeat with_reducible (first | exact Ext.refl _ | refine Ext.alloc ?_ _ | refine Ext.drew ?_ | refine Ext.drewN ?_ _ | refine Ext.setCell ?_ (by first | omega | (simp <;> omega)) _))⟩
    case measure => simp [intOf]; omega
  · have hge : ¬ (k : Int) < v.texts.length := by omega
    have hnn : Hid ((n : Int) ≤ 3000 → (((1 + v.words.length + TN) + ((v.subs.take 0).map sizeT).sum : Nat) : Int) ≤ n) := fun _ => by
     have h := hN.out
     rw [List.take_of_length_le (by omega)] at h
     have := Htn.out
     simp only [List.take_zero, List.map_nil, List.sum_nil]
     omega
    have hnz : (n : Int) ≤ 2000000000000 := by omega
    have hnp : (0 : Int) ≤ (n : Int) := by omega
    generalize (n : Int) = n0 at *
    clear hN hb2
    go_wp2
    go_loopw [4, 5, 7] (fun _ a i wr => ∃ (k : Nat) (n : Int), k ≤ v.subs.length ∧ i = .int .i64 (k : Int) ∧ a = .int .i64 n ∧ 0 ≤ n ∧ n ≤ 2000000000000 ∧ Hid (n ≤ 3000 → (((1 + v.words.length + TN) + ((v.subs.take k).map sizeT).sum : Nat) : Int) ≤ n) ∧ Ext w1 wr) (fun _ _ i _ => v.subs.length - (intOf i).toNat)
    case atStart => exact ⟨0, n0, Nat.zero_le _, rfl, rfl, hnp, hnz, hnn, hE⟩
    case round =>
     rename World => wq
     obtain ⟨j, n2, hj, rfl, rfl, hp, hq, hB, hE2⟩ := hrel
     have z3r := hE2.of_cell z3
     by_cases hlt2 : j < v.subs.length
     · have hltI : (j : Int) < v.subs.length := by omega
       obtain ⟨b, off, y, hA, hy, hb, e0, e1⟩ := treeCells (hv.own.subs.ext (X0.trans hE2)) hlt2
       have hym := List.mem_of_getElem? hy
       have hcall := fun W (h : Ext w W) => Ih.out y hym (deep - 1) W (by omega) (by omega) ((hv.sub y hym).up h) (HS.out y hym).1 (HS.out y hym).2
       have hsn := sum_snoc (f := sizeT) hy
       unfold treeV at hcall
       have Hcall := Lib.hid hcall
       have Hsn := Lib.hid hsn
       rw [hA] at z3r
       clear hy hA hcall hsn
       go_wp2_with (go_at_call 29; refine (Hcall.out _ ((X0.trans hE2).trans (by repeat with_reducible (first | exact Ext.refl _ | refine Ext.alloc ?_ _ | refine Ext.drew ?_ | refine Ext.drewN ?_ _ | refine Ext.setCell ?_ (by first | omega | (simp <;> omega)) _)))).mono ?_; rintro e w5 ⟨s, rfl, s1, s2, s3, E5⟩; have X5 : Ext wq w5 := Ext.trans (by repeat with_reducible (first | exact Ext.refl _ | refine Ext.alloc ?_ _ | refine Ext.drew ?_ | refine Ext.drewN ?_ _ | refine Ext.setCell ?_ (by first | omega | (simp <;> omega)) _)) E5; have S3 := Lib.hid s3; clear s3)
       · go_ret
         exact ⟨_, rfl, by omega, by omega, fun h => by omega, X0.trans (hE2.trans X5)⟩
       · go_roundw
         case rel =>
          refine ⟨j + 1, n2 + s, by omega, by go_num, rfl, by omega, by omega, fun h => ?_, hE2.trans X5⟩
          have h1 := hB.out (by omega)
          have h2 := S3.out (by omega)
          have h3 := Hsn.out
          omega
         case measure => simp [intOf]; omega
     · have hge2 : ¬ (j : Int) < v.subs.length := by omega
       go_wp2
       go_ret
       refine ⟨_, rfl, hp, by omega, fun h => ?_, X0.trans hE2⟩
       have h1 := hB.out h
       have h2 := HU.out
       have h3 := Htn.out
       rw [List.take_of_length_le (by omega)] at h1
       omega

set_option maxRecDepth 100000 in
set_option maxHeartbeats 2000000 in
theorem xSizeM {x : MsgR} (ih : ∀ v ∈ x.vals, ∀ (deep : Int) (w : World), 0 ≤ deep → deep ≤ 1000 → ValAt w v → Calls Tryz.prog 20 #[tvalV v, .int .i64 deep] w (SizeI (sizeU v) w)) (hF : FitT 1048576 x) (hL : LongT 1048576 x) (deep : Int) (w : World) (h0 : -1 ≤ deep) (h1 : deep ≤ 1000) (hx : TreeAt w x) :
  Calls Tryz.prog 29 #[treeV x, .int .i64 deep] w (SizeI (sizeT x) w) := by
 have Ih := Lib.hid ih
 have f1 := hF.vals
 have f2 := hF.unk
 have tot := textsN_small f2 hL.unk
 have tk := textsN_take x.unk
 have hU := sizeT_eq x
 have tcap := hx.unk.at_.cap
 have scap := hx.vals.cap
 have Tk := Lib.hid tk
 have HL := Lib.hid hL.unk
 have HU := Lib.hid hU
 clear ih tk hL hF hU
 generalize sizeT x = U at *
 generalize htn : textsN x.unk = TN at *
 have Htn := Lib.hid htn
 clear htn
 unfold treeV
 by_cases hneg : deep < 0
 · go_enter Tryz.func29, Tryz.ntmps29
   go_wp2
   go_ret
   exact ⟨_, rfl, by omega, by omega, fun h => by omega, (by repeat with_reducible (first | exact Ext.refl _ | refine Ext.alloc ?_ _ | refine Ext.drew ?_ | refine Ext.drewN ?_ _ | refine Ext.setCell ?_ (by first | omega | (simp <;> omega)) _))⟩
 · go_enter Tryz.func29, Tryz.ntmps29
   go_wp2
   have BV := BlkT.new w 35 #[.slice x.a.1 x.vals.length x.a.2, .slice x.b.1 x.unk.length x.b.2] rfl
   have X0 : Ext w (w.alloc (.cells #[.slice x.a.1 x.vals.length x.a.2, .slice x.b.1 x.unk.length x.b.2] 35)) := (by repeat with_reducible (first | exact Ext.refl _ | refine Ext.alloc ?_ _ | refine Ext.drew ?_ | refine Ext.drewN ?_ _ | refine Ext.setCell ?_ (by first | omega | (simp <;> omega)) _))
   generalize w.alloc (.cells #[.slice x.a.1 x.vals.length x.a.2, .slice x.b.1 x.unk.length x.b.2] 35) = w1 at *
   have z2 : w1.cell? ⟨w.heap.size, 1, none⟩ = some (.slice x.b.1 x.unk.length x.b.2) := BV.cell 1
   have z3 : w1.cell? ⟨w.heap.size, 0, none⟩ = some (.slice x.a.1 x.vals.length x.a.2) := BV.cell 0
   clear BV
   go_loopw [5, 6] (fun a i wr => ∃ (k n : Nat), k ≤ x.unk.length ∧ i = .int .i64 (k : Int) ∧ a = .int .i64 (n : Int) ∧ Hid (n = 1 + textsN (x.unk.take k)) ∧ n ≤ 1 + TN ∧ Ext w1 wr) (fun _ i _ => x.unk.length - (intOf i).toNat)
   case atStart => exact ⟨0, 1, Nat.zero_le _, rfl, rfl, by show _ = _; simp [textsN], by omega, Ext.refl _⟩
   case round =>
    obtain ⟨k, n, hk, rfl, rfl, hN, hb2, hE⟩ := hrel
    have z2r := hE.of_cell z2
    by_cases hlt : k < x.unk.length
    · have hltI : (k : Int) < x.unk.length := by omega
      obtain ⟨b, off, t, hA, ht, hb, hts, e0⟩ := (hx.unk.up (X0.trans hE)).text hlt
      have ht2 := HL.out t (List.mem_of_getElem? ht)
      have ht3 : t.data.toList.length = t.size := Array.length_toList
      have ht4 : t.size ≤ 1048576 := by omega
      have hn2 := textsN_snoc ht
      have hn3 := Tk.out (k + 1)
      have hn4 : n + 1 + t.size = 1 + textsN (x.unk.take (k + 1)) := by have := hN.out; omega
      have hn5 : n + 1 + t.size ≤ 1 + TN := by have := Htn.out; omega
      have HN4 := Lib.hid hn4
      rw [hA] at z2r
      clear ht hA hn2 hn3 hn4 ht2 ht3
      go_wp2
      go_roundw
      case rel => exact ⟨k + 1, n + 1 + t.size, by omega, by go_num, by go_num, HN4.out, hn5, hE.trans (by repeat with_reducible (first | exact Ext.refl _ | refine Ext.alloc ?_ _ | refine Ext.drew ?_ | refine Ext.drewN ?_ _ | refine Ext.setCell ?_ (by first | omega | (simp <;> omega)) _))⟩
      case measure => simp [intOf]; omega
    · have hge : ¬ (k : Int) < x.unk.length := by omega
      have hnn : Hid ((n : Int) ≤ 3000 → (((1 + TN) + ((x.vals.take 0).map sizeU).sum : Nat) : Int) ≤ n) := fun _ => by
       have h := hN.out
       rw [List.take_of_length_le (by omega)] at h
       have := Htn.out
       simp only [List.take_zero, List.map_nil, List.sum_nil]
       omega
      have hnz : (n : Int) ≤ 2000000000000 := by omega
      have hnp : (0 : Int) ≤ (n : Int) := by omega
      generalize (n : Int) = n0 at *
      clear hN hb2
      go_wp2
      go_loopw [4, 5, 7] (fun _ a i wr => ∃ (k : Nat) (n : Int), k ≤ x.vals.length ∧ i = .int .i64 (k : Int) ∧ a = .int .i64 n ∧ 0 ≤ n ∧ n ≤ 2000000000000 ∧ Hid (n ≤ 3000 → (((1 + TN) + ((x.vals.take k).map sizeU).sum : Nat) : Int) ≤ n) ∧ Ext w1 wr) (fun _ _ i _ => x.vals.length - (intOf i).toNat)
      case atStart => exact ⟨0, n0, Nat.zero_le _, rfl, rfl, hnp, hnz, hnn, hE⟩
      case round =>
       rename World => wq
       obtain ⟨j, n2, hj, rfl, rfl, hp, hq, hB, hE2⟩ := hrel
       have z3r := hE2.of_cell z3
       by_cases hlt2 : j < x.vals.length
       · have hltI : (j : Int) < x.vals.length := by omega
         obtain ⟨b, off, v, hA, hy, hb, e0, e1, e2, e3⟩ := valCells (hx.vals.ext (X0.trans hE2)) hlt2
         have hym := List.mem_of_getElem? hy
         have hcall := fun W (h : Ext w W) => Ih.out v hym deep W (by omega) (by omega) ((hx.val hym).up h)
         have hsn := sum_snoc (f := sizeU) hy
         unfold tvalV at hcall
         have Hcall := Lib.hid hcall
         have Hsn := Lib.hid hsn
         rw [hA] at z3r
         clear hy hA hcall hsn
         go_wp2_with (go_at_call 20; refine (Hcall.out _ ((X0.trans hE2).trans (by repeat with_reducible (first | exact Ext.refl _ | refine Ext.alloc ?_ _ | refine Ext.drew ?_ | refine Ext.drewN ?_ _ | refine Ext.setCell ?_ (by first | omega | (simp <;> omega)) _)))).mono ?_; rintro e w5 ⟨s, rfl, s1, s2, s3, E5⟩; have X5 : Ext wq w5 := Ext.trans (by repeat with_reducible (first | exact Ext.refl _ | refine Ext.alloc ?_ _ | refine Ext.drew ?_ | refine Ext.drewN ?_ _ | refine Ext.setCell ?_ (by first | omega | (simp <;> omega)) _)) E5; have S3 := Lib.hid s3; clear s3)
         · go_ret
           exact ⟨_, rfl, by omega, by omega, fun h => by omega, X0.trans (hE2.trans X5)⟩
         · go_roundw
           case rel =>
            refine ⟨j + 1, n2 + s, by omega, by go_num, rfl, by omega, by omega, fun h => ?_, hE2.trans X5⟩
            have h1 := hB.out (by omega)
            have h2 := S3.out (by omega)
            have h3 := Hsn.out
            omega
           case measure => simp [intOf]; omega
       · have hge2 : ¬ (j : Int) < x.vals.length := by omega
         go_wp2
         go_ret
         refine ⟨_, rfl, hp, by omega, fun h => ?_, X0.trans hE2⟩
         have h1 := hB.out h
         have h2 := HU.out
         have h3 := Htn.out
         rw [List.take_of_length_le (by omega)] at h1
         omega

theorem xSize (x : MsgR) : XSize x := by
 refine MsgX.ind (P := XSize) (fun x ih => ?_) x
 intro deep w h0 h1 hx hF hL
 exact xSizeM (fun v hv deep w h0 h1 h => xSizeV (ih v hv) deep w h0 h1 h (hF.each v hv) (hL.texts v hv) (fun y hy => ⟨hF.sub v hv y hy, hL.sub v hv y hy⟩)) hF hL deep w h0 h1 hx

end Go.Proofs.YtnnphodgegcddaaGreat
