/- The walk of the law RecordPuts, out of its callees' contracts. -/
import Derived.Test.YtcipokmklkognaaW5d
import Derived.Test.YtcipokmklkognaaKRecordSplits
namespace Go.Proofs.Ytcipokmklkognaa
open Go.RowKit
set_option linter.unusedVariables false

theorem rLenE {A B : Option Addr} {n c m d : Nat} {bs vs L : List UInt8} {number : Int} {w : World} (hb : BytesAt w A n c bs) (hn : n ≤ 1000000000) (hv : BytesAt w B m d vs) (hm : m ≤ 1000000000) (h : lenB number vs = L) :
    Calls Try.prog 52 #[.slice A n c, .int .i64 number, .slice B m d] w fun e w' => ∃ A' c', e = .returned (.slice A' (n + L.length) c') ∧ Own w w' 5 1 A' (n + L.length) c' ((bs ++ L).map bv) := by
  subst h
  exact rLen hb hn hv hm

section
variable {A B : Option Addr} {n c m d : Nat} {bs vs : List UInt8} {number wire : Int} {w : World}

set_option maxHeartbeats 2000000 in
theorem recordPuts_tr (hb : BytesAt w A n c bs) (hv : BytesAt w B m d vs) (hn : ¬ (3000 : Int) < (n : Int) + m) (hr2 : rightB number 2 = true) (hr : rightB number wire = false) (hlt : (lenB number vs).length ≤ m + 15) (hpt : (putB number wire vs).length ≤ m + 15 ∨ rightB number wire = false) :
    Calls Try.prog 13 #[.slice A n c, .int .i64 number, .int .i64 wire, .slice B m d] w fun e w' => e = .returned (.bool true) ∧ Ext w w' := by
  have hE := Ext.refl w
  have hok : (rightB number wire && fitsV wire vs) = false := by rw [hr]; rfl
  have hlb : lenB number vs = putB number 2 vs := by unfold lenB; rw [hr2]; rfl
  have hca := Reads.cap hb
  have hcv := Reads.cap hv
  rw [hlb] at hlt
  have Hlb := Lib.hid hlb
  clear hlb
  go_enter Try.func13, Try.ntmps13
  go_wp2_with (first
    | (go_at_call 46; refine (alive05 _).mono ?_; rintro e w1 ⟨rfl, E1⟩; have X_ : Ext w w1 := Ext.trans (by repeat with_reducible (first | exact Ext.refl _ | refine Ext.alloc ?_ _ | refine Ext.drew ?_ | refine Ext.drewN ?_ _ | refine Ext.setCell ?_ (by first | exact Nat.le_refl _ | omega | (simp; done) | (simp; omega)) _)) E1; replace hb := hb.up X_; replace hv := hv.up X_; replace hE := hE.up X_; clear X_)
    | (go_at_call 51; refine (rPut_no hb (by omega) hv hok).mono ?_; rintro e w2 ⟨rfl, E2⟩; have X_ : Ext w1 w2 := Ext.trans (by repeat with_reducible (first | exact Ext.refl _ | refine Ext.alloc ?_ _ | refine Ext.drew ?_ | refine Ext.drewN ?_ _ | refine Ext.setCell ?_ (by first | exact Nat.le_refl _ | omega | (simp; done) | (simp; omega)) _)) E2; replace hb := hb.up X_; replace hv := hv.up X_; replace hE := hE.up X_; clear X_)
    | (go_at_call 52; refine (rLenE hb (by omega) hv (by omega) Hlb.out).mono ?_; rintro e w3 ⟨A3, c3, rfl, own3⟩; have X_ : Ext w2 w3 := Ext.trans (by repeat with_reducible (first | exact Ext.refl _ | refine Ext.alloc ?_ _ | refine Ext.drew ?_ | refine Ext.drewN ?_ _ | refine Ext.setCell ?_ (by first | exact Nat.le_refl _ | omega | (simp; done) | (simp; omega)) _)) own3.ext; replace hb := hb.up X_; replace hv := hv.up X_; replace hE := hE.up X_; clear X_)
    | (at_builtin; refine wpList_more elemB rfl (.tmp 33) (.tmp 34) rfl rfl (Own.empty (Ext.refl _) 5 1) rfl (hb.ext (by repeat with_reducible (first | exact Ext.refl _ | refine Ext.alloc ?_ _ | refine Ext.drew ?_ | refine Ext.drewN ?_ _ | refine Ext.setCell ?_ (by first | exact Nat.le_refl _ | omega | (simp; done) | (simp; omega)) _))) (bv_one _) (by omega) (by unfold maxLen; omega) ?_; intro A4 c4 w4 own4 _; simp only [Nat.zero_add, List.nil_append] at own4)
    | (go_at_call 53; refine (rPutR (hv.up own4.ext) (by omega) hr2).mono ?_; rintro e w5 ⟨A5, c5, rfl, own5⟩; have X_ : Ext w4 w5 := Ext.trans (by repeat with_reducible (first | exact Ext.refl _ | refine Ext.alloc ?_ _ | refine Ext.drew ?_ | refine Ext.drewN ?_ _ | refine Ext.setCell ?_ (by first | exact Nat.le_refl _ | omega | (simp; done) | (simp; omega)) _)) own5.ext; replace own4 := own4.up X_; clear X_)
    | (at_builtin; refine wpList_more elemB rfl (.tmp 38) (.tmp 41) rfl rfl own4 rfl own5.reads (bv_one _) (by omega) (by unfold maxLen; omega) ?_; intro A6 c6 w6 own6 _; rw [← List.map_append] at own6; replace hb := hb.up own6.ext; replace hv := hv.up own6.ext; replace hE := hE.up own6.ext; replace own3 := own3.up own6.ext)
    | (go_at_call 40; refine (tRightR _ _ _).mono ?_; rintro e w' ⟨rfl, rfl⟩)
    | (go_at_call 43; refine (same own3.reads own6.reads).mono ?_; rintro e w' ⟨rfl, rfl⟩; clear own3 own6)
    | (go_at_call 54; refine (rFitsR hv (by omega)).mono ?_; rintro e w' ⟨rfl, rfl⟩))
  go_ret
  exact ⟨rfl, hE⟩

set_option maxHeartbeats 2000000 in
theorem recordPuts_tf (hb : BytesAt w A n c bs) (hv : BytesAt w B m d vs) (hn : ¬ (3000 : Int) < (n : Int) + m) (hr2 : rightB number 2 = true) (hr : rightB number wire = true) (hf : fitsV wire vs = false) (hlt : (lenB number vs).length ≤ m + 15) (hpt : (putB number wire vs).length ≤ m + 15 ∨ rightB number wire = false) :
    Calls Try.prog 13 #[.slice A n c, .int .i64 number, .int .i64 wire, .slice B m d] w fun e w' => e = .returned (.bool true) ∧ Ext w w' := by
  have hE := Ext.refl w
  have hok : (rightB number wire && fitsV wire vs) = false := by rw [hr, hf]; rfl
  have hlb : lenB number vs = putB number 2 vs := by unfold lenB; rw [hr2]; rfl
  have hca := Reads.cap hb
  have hcv := Reads.cap hv
  rw [hlb] at hlt
  have Hlb := Lib.hid hlb
  clear hlb
  go_enter Try.func13, Try.ntmps13
  go_wp2_with (first
    | (go_at_call 46; refine (alive05 _).mono ?_; rintro e w1 ⟨rfl, E1⟩; have X_ : Ext w w1 := Ext.trans (by repeat with_reducible (first | exact Ext.refl _ | refine Ext.alloc ?_ _ | refine Ext.drew ?_ | refine Ext.drewN ?_ _ | refine Ext.setCell ?_ (by first | exact Nat.le_refl _ | omega | (simp; done) | (simp; omega)) _)) E1; replace hb := hb.up X_; replace hv := hv.up X_; replace hE := hE.up X_; clear X_)
    | (go_at_call 51; refine (rPut_no hb (by omega) hv hok).mono ?_; rintro e w2 ⟨rfl, E2⟩; have X_ : Ext w1 w2 := Ext.trans (by repeat with_reducible (first | exact Ext.refl _ | refine Ext.alloc ?_ _ | refine Ext.drew ?_ | refine Ext.drewN ?_ _ | refine Ext.setCell ?_ (by first | exact Nat.le_refl _ | omega | (simp; done) | (simp; omega)) _)) E2; replace hb := hb.up X_; replace hv := hv.up X_; replace hE := hE.up X_; clear X_)
    | (go_at_call 52; refine (rLenE hb (by omega) hv (by omega) Hlb.out).mono ?_; rintro e w3 ⟨A3, c3, rfl, own3⟩; have X_ : Ext w2 w3 := Ext.trans (by repeat with_reducible (first | exact Ext.refl _ | refine Ext.alloc ?_ _ | refine Ext.drew ?_ | refine Ext.drewN ?_ _ | refine Ext.setCell ?_ (by first | exact Nat.le_refl _ | omega | (simp; done) | (simp; omega)) _)) own3.ext; replace hb := hb.up X_; replace hv := hv.up X_; replace hE := hE.up X_; clear X_)
    | (at_builtin; refine wpList_more elemB rfl (.tmp 33) (.tmp 34) rfl rfl (Own.empty (Ext.refl _) 5 1) rfl (hb.ext (by repeat with_reducible (first | exact Ext.refl _ | refine Ext.alloc ?_ _ | refine Ext.drew ?_ | refine Ext.drewN ?_ _ | refine Ext.setCell ?_ (by first | exact Nat.le_refl _ | omega | (simp; done) | (simp; omega)) _))) (bv_one _) (by omega) (by unfold maxLen; omega) ?_; intro A4 c4 w4 own4 _; simp only [Nat.zero_add, List.nil_append] at own4)
    | (go_at_call 53; refine (rPutR (hv.up own4.ext) (by omega) hr2).mono ?_; rintro e w5 ⟨A5, c5, rfl, own5⟩; have X_ : Ext w4 w5 := Ext.trans (by repeat with_reducible (first | exact Ext.refl _ | refine Ext.alloc ?_ _ | refine Ext.drew ?_ | refine Ext.drewN ?_ _ | refine Ext.setCell ?_ (by first | exact Nat.le_refl _ | omega | (simp; done) | (simp; omega)) _)) own5.ext; replace own4 := own4.up X_; clear X_)
    | (at_builtin; refine wpList_more elemB rfl (.tmp 38) (.tmp 41) rfl rfl own4 rfl own5.reads (bv_one _) (by omega) (by unfold maxLen; omega) ?_; intro A6 c6 w6 own6 _; rw [← List.map_append] at own6; replace hb := hb.up own6.ext; replace hv := hv.up own6.ext; replace hE := hE.up own6.ext; replace own3 := own3.up own6.ext)
    | (go_at_call 40; refine (tRightR _ _ _).mono ?_; rintro e w' ⟨rfl, rfl⟩)
    | (go_at_call 43; refine (same own3.reads own6.reads).mono ?_; rintro e w' ⟨rfl, rfl⟩; clear own3 own6)
    | (go_at_call 54; refine (rFitsR hv (by omega)).mono ?_; rintro e w' ⟨rfl, rfl⟩))
  go_ret
  exact ⟨rfl, hE⟩

set_option maxHeartbeats 2000000 in
theorem recordPuts_ty (hb : BytesAt w A n c bs) (hv : BytesAt w B m d vs) (hn : ¬ (3000 : Int) < (n : Int) + m) (hr2 : rightB number 2 = true) (hr : rightB number wire = true) (hf : fitsV wire vs = true) (hlt : (lenB number vs).length ≤ m + 15) (hpt : (putB number wire vs).length ≤ m + 15 ∨ rightB number wire = false) :
    Calls Try.prog 13 #[.slice A n c, .int .i64 number, .int .i64 wire, .slice B m d] w fun e w' => e = .returned (.bool true) ∧ Ext w w' := by
  have hE := Ext.refl w
  have hok : (rightB number wire && fitsV wire vs) = true := by rw [hr, hf]; rfl
  have hlb : lenB number vs = putB number 2 vs := by unfold lenB; rw [hr2]; rfl
  have hca := Reads.cap hb
  have hcv := Reads.cap hv
  rw [hlb] at hlt
  have Hlb := Lib.hid hlb
  clear hlb
  have hp2 : (putB number wire vs).length ≤ m + 15 := by rcases hpt with h | h; exact h; rw [hr] at h; cases h
  go_enter Try.func13, Try.ntmps13
  go_wp2_with (first
    | (go_at_call 46; refine (alive05 _).mono ?_; rintro e w1 ⟨rfl, E1⟩; have X_ : Ext w w1 := Ext.trans (by repeat with_reducible (first | exact Ext.refl _ | refine Ext.alloc ?_ _ | refine Ext.drew ?_ | refine Ext.drewN ?_ _ | refine Ext.setCell ?_ (by first | exact Nat.le_refl _ | omega | (simp; done) | (simp; omega)) _)) E1; replace hb := hb.up X_; replace hv := hv.up X_; replace hE := hE.up X_; clear X_)
    | (go_at_call 51; refine (rPut hb (by omega) hv (by omega) hok).mono ?_; rintro e w2 ⟨A2, c2, rfl, own2⟩; have X_ : Ext w1 w2 := Ext.trans (by repeat with_reducible (first | exact Ext.refl _ | refine Ext.alloc ?_ _ | refine Ext.drew ?_ | refine Ext.drewN ?_ _ | refine Ext.setCell ?_ (by first | exact Nat.le_refl _ | omega | (simp; done) | (simp; omega)) _)) own2.ext; replace hb := hb.up X_; replace hv := hv.up X_; replace hE := hE.up X_; clear X_)
    | (go_at_call 52; refine (rLenE hb (by omega) hv (by omega) Hlb.out).mono ?_; rintro e w3 ⟨A3, c3, rfl, own3⟩; have X_ : Ext w2 w3 := Ext.trans (by repeat with_reducible (first | exact Ext.refl _ | refine Ext.alloc ?_ _ | refine Ext.drew ?_ | refine Ext.drewN ?_ _ | refine Ext.setCell ?_ (by first | exact Nat.le_refl _ | omega | (simp; done) | (simp; omega)) _)) own3.ext; replace hb := hb.up X_; replace hv := hv.up X_; replace hE := hE.up X_; replace own2 := own2.up X_; clear X_)
    | (at_builtin; refine wpList_more elemB rfl (.tmp 33) (.tmp 34) rfl rfl (Own.empty (Ext.refl _) 5 1) rfl (hb.ext (by repeat with_reducible (first | exact Ext.refl _ | refine Ext.alloc ?_ _ | refine Ext.drew ?_ | refine Ext.drewN ?_ _ | refine Ext.setCell ?_ (by first | exact Nat.le_refl _ | omega | (simp; done) | (simp; omega)) _))) (bv_one _) (by omega) (by unfold maxLen; omega) ?_; intro A4 c4 w4 own4 _; simp only [Nat.zero_add, List.nil_append] at own4)
    | (go_at_call 53; refine (rPutR (hv.up own4.ext) (by omega) hr2).mono ?_; rintro e w5 ⟨A5, c5, rfl, own5⟩; have X_ : Ext w4 w5 := Ext.trans (by repeat with_reducible (first | exact Ext.refl _ | refine Ext.alloc ?_ _ | refine Ext.drew ?_ | refine Ext.drewN ?_ _ | refine Ext.setCell ?_ (by first | exact Nat.le_refl _ | omega | (simp; done) | (simp; omega)) _)) own5.ext; replace own4 := own4.up X_; clear X_)
    | (at_builtin; refine wpList_more elemB rfl (.tmp 38) (.tmp 41) rfl rfl own4 rfl own5.reads (bv_one _) (by omega) (by unfold maxLen; omega) ?_; intro A6 c6 w6 own6 _; rw [← List.map_append] at own6; replace hb := hb.up own6.ext; replace hv := hv.up own6.ext; replace hE := hE.up own6.ext; replace own3 := own3.up own6.ext; replace own2 := own2.up own6.ext)
    | (go_at_call 40; refine (tRightR _ _ _).mono ?_; rintro e w' ⟨rfl, rfl⟩)
    | (go_at_call 43; refine (same own3.reads own6.reads).mono ?_; rintro e w' ⟨rfl, rfl⟩; clear own3 own6)
    | (go_at_call 54; refine (rFitsR hv (by omega)).mono ?_; rintro e w' ⟨rfl, rfl⟩)
    | (at_builtin; refine wpList_more elemB rfl (.tmp 70) (.tmp 71) rfl rfl (Own.empty (Ext.refl _) 5 1) rfl (hb.ext (by repeat with_reducible (first | exact Ext.refl _ | refine Ext.alloc ?_ _ | refine Ext.drew ?_ | refine Ext.drewN ?_ _ | refine Ext.setCell ?_ (by first | exact Nat.le_refl _ | omega | (simp; done) | (simp; omega)) _))) (bv_one _) (by omega) (by unfold maxLen; omega) ?_; intro A7 c7 w7 own7 _; simp only [Nat.zero_add, List.nil_append] at own7)
    | (go_at_call 53; refine (rPutR (hv.up own7.ext) (by omega) hr).mono ?_; rintro e w8 ⟨A8, c8, rfl, own8⟩; have X_ : Ext w7 w8 := Ext.trans (by repeat with_reducible (first | exact Ext.refl _ | refine Ext.alloc ?_ _ | refine Ext.drew ?_ | refine Ext.drewN ?_ _ | refine Ext.setCell ?_ (by first | exact Nat.le_refl _ | omega | (simp; done) | (simp; omega)) _)) own8.ext; replace own7 := own7.up X_; clear X_)
    | (at_builtin; refine wpList_more elemB rfl (.tmp 72) (.tmp 76) rfl rfl own7 rfl own8.reads (bv_one _) (by omega) (by unfold maxLen; omega) ?_; intro A9 c9 w9 own9 _; rw [← List.map_append] at own9; replace hE := hE.up own9.ext; replace own2 := own2.up own9.ext)
    | (go_at_call 43; refine (same own2.reads own9.reads).mono ?_; rintro e w' ⟨rfl, rfl⟩))
  go_ret
  exact ⟨rfl, hE⟩

set_option maxHeartbeats 2000000 in
theorem recordPuts_fr (hb : BytesAt w A n c bs) (hv : BytesAt w B m d vs) (hn : ¬ (3000 : Int) < (n : Int) + m) (hr2 : rightB number 2 = false) (hr : rightB number wire = false) (hlt : (lenB number vs).length ≤ m + 15) (hpt : (putB number wire vs).length ≤ m + 15 ∨ rightB number wire = false) :
    Calls Try.prog 13 #[.slice A n c, .int .i64 number, .int .i64 wire, .slice B m d] w fun e w' => e = .returned (.bool true) ∧ Ext w w' := by
  have hE := Ext.refl w
  have hok : (rightB number wire && fitsV wire vs) = false := by rw [hr]; rfl
  have hlb : lenB number vs = [] := by unfold lenB; rw [hr2]; rfl
  have hca := Reads.cap hb
  have hcv := Reads.cap hv
  rw [hlb] at hlt
  have Hlb := Lib.hid hlb
  clear hlb
  go_enter Try.func13, Try.ntmps13
  go_wp2_with (first
    | (go_at_call 46; refine (alive05 _).mono ?_; rintro e w1 ⟨rfl, E1⟩; have X_ : Ext w w1 := Ext.trans (by repeat with_reducible (first | exact Ext.refl _ | refine Ext.alloc ?_ _ | refine Ext.drew ?_ | refine Ext.drewN ?_ _ | refine Ext.setCell ?_ (by first | exact Nat.le_refl _ | omega | (simp; done) | (simp; omega)) _)) E1; replace hb := hb.up X_; replace hv := hv.up X_; replace hE := hE.up X_; clear X_)
    | (go_at_call 51; refine (rPut_no hb (by omega) hv hok).mono ?_; rintro e w2 ⟨rfl, E2⟩; have X_ : Ext w1 w2 := Ext.trans (by repeat with_reducible (first | exact Ext.refl _ | refine Ext.alloc ?_ _ | refine Ext.drew ?_ | refine Ext.drewN ?_ _ | refine Ext.setCell ?_ (by first | exact Nat.le_refl _ | omega | (simp; done) | (simp; omega)) _)) E2; replace hb := hb.up X_; replace hv := hv.up X_; replace hE := hE.up X_; clear X_)
    | (go_at_call 52; refine (rLenE hb (by omega) hv (by omega) Hlb.out).mono ?_; rintro e w3 ⟨A3, c3, rfl, own3⟩; have X_ : Ext w2 w3 := Ext.trans (by repeat with_reducible (first | exact Ext.refl _ | refine Ext.alloc ?_ _ | refine Ext.drew ?_ | refine Ext.drewN ?_ _ | refine Ext.setCell ?_ (by first | exact Nat.le_refl _ | omega | (simp; done) | (simp; omega)) _)) own3.ext; replace hb := hb.up X_; replace hv := hv.up X_; replace hE := hE.up X_; clear X_)
    | (at_builtin; refine wpList_more elemB rfl (.tmp 33) (.tmp 34) rfl rfl (Own.empty (Ext.refl _) 5 1) rfl (hb.ext (by repeat with_reducible (first | exact Ext.refl _ | refine Ext.alloc ?_ _ | refine Ext.drew ?_ | refine Ext.drewN ?_ _ | refine Ext.setCell ?_ (by first | exact Nat.le_refl _ | omega | (simp; done) | (simp; omega)) _))) (bv_one _) (by omega) (by unfold maxLen; omega) ?_; intro A6 c6 w6 own6 _; simp only [Nat.zero_add, List.nil_append] at own6; replace hb := hb.up own6.ext; replace hv := hv.up own6.ext; replace hE := hE.up own6.ext; replace own3 := own3.up own6.ext)
    | (go_at_call 40; refine (tRightR _ _ _).mono ?_; rintro e w' ⟨rfl, rfl⟩)
    | (go_at_call 43; refine (same own3.reads own6.reads).mono ?_; rintro e w' ⟨rfl, rfl⟩; clear own3 own6)
    | (go_at_call 54; refine (rFitsR hv (by omega)).mono ?_; rintro e w' ⟨rfl, rfl⟩))
  go_ret
  exact ⟨rfl, hE⟩

set_option maxHeartbeats 2000000 in
theorem recordPuts_ff (hb : BytesAt w A n c bs) (hv : BytesAt w B m d vs) (hn : ¬ (3000 : Int) < (n : Int) + m) (hr2 : rightB number 2 = false) (hr : rightB number wire = true) (hf : fitsV wire vs = false) (hlt : (lenB number vs).length ≤ m + 15) (hpt : (putB number wire vs).length ≤ m + 15 ∨ rightB number wire = false) :
    Calls Try.prog 13 #[.slice A n c, .int .i64 number, .int .i64 wire, .slice B m d] w fun e w' => e = .returned (.bool true) ∧ Ext w w' := by
  have hE := Ext.refl w
  have hok : (rightB number wire && fitsV wire vs) = false := by rw [hr, hf]; rfl
  have hlb : lenB number vs = [] := by unfold lenB; rw [hr2]; rfl
  have hca := Reads.cap hb
  have hcv := Reads.cap hv
  rw [hlb] at hlt
  have Hlb := Lib.hid hlb
  clear hlb
  go_enter Try.func13, Try.ntmps13
  go_wp2_with (first
    | (go_at_call 46; refine (alive05 _).mono ?_; rintro e w1 ⟨rfl, E1⟩; have X_ : Ext w w1 := Ext.trans (by repeat with_reducible (first | exact Ext.refl _ | refine Ext.alloc ?_ _ | refine Ext.drew ?_ | refine Ext.drewN ?_ _ | refine Ext.setCell ?_ (by first | exact Nat.le_refl _ | omega | (simp; done) | (simp; omega)) _)) E1; replace hb := hb.up X_; replace hv := hv.up X_; replace hE := hE.up X_; clear X_)
    | (go_at_call 51; refine (rPut_no hb (by omega) hv hok).mono ?_; rintro e w2 ⟨rfl, E2⟩; have X_ : Ext w1 w2 := Ext.trans (by repeat with_reducible (first | exact Ext.refl _ | refine Ext.alloc ?_ _ | refine Ext.drew ?_ | refine Ext.drewN ?_ _ | refine Ext.setCell ?_ (by first | exact Nat.le_refl _ | omega | (simp; done) | (simp; omega)) _)) E2; replace hb := hb.up X_; replace hv := hv.up X_; replace hE := hE.up X_; clear X_)
    | (go_at_call 52; refine (rLenE hb (by omega) hv (by omega) Hlb.out).mono ?_; rintro e w3 ⟨A3, c3, rfl, own3⟩; have X_ : Ext w2 w3 := Ext.trans (by repeat with_reducible (first | exact Ext.refl _ | refine Ext.alloc ?_ _ | refine Ext.drew ?_ | refine Ext.drewN ?_ _ | refine Ext.setCell ?_ (by first | exact Nat.le_refl _ | omega | (simp; done) | (simp; omega)) _)) own3.ext; replace hb := hb.up X_; replace hv := hv.up X_; replace hE := hE.up X_; clear X_)
    | (at_builtin; refine wpList_more elemB rfl (.tmp 33) (.tmp 34) rfl rfl (Own.empty (Ext.refl _) 5 1) rfl (hb.ext (by repeat with_reducible (first | exact Ext.refl _ | refine Ext.alloc ?_ _ | refine Ext.drew ?_ | refine Ext.drewN ?_ _ | refine Ext.setCell ?_ (by first | exact Nat.le_refl _ | omega | (simp; done) | (simp; omega)) _))) (bv_one _) (by omega) (by unfold maxLen; omega) ?_; intro A6 c6 w6 own6 _; simp only [Nat.zero_add, List.nil_append] at own6; replace hb := hb.up own6.ext; replace hv := hv.up own6.ext; replace hE := hE.up own6.ext; replace own3 := own3.up own6.ext)
    | (go_at_call 40; refine (tRightR _ _ _).mono ?_; rintro e w' ⟨rfl, rfl⟩)
    | (go_at_call 43; refine (same own3.reads own6.reads).mono ?_; rintro e w' ⟨rfl, rfl⟩; clear own3 own6)
    | (go_at_call 54; refine (rFitsR hv (by omega)).mono ?_; rintro e w' ⟨rfl, rfl⟩))
  go_ret
  exact ⟨rfl, hE⟩

set_option maxHeartbeats 2000000 in
theorem recordPuts_fy (hb : BytesAt w A n c bs) (hv : BytesAt w B m d vs) (hn : ¬ (3000 : Int) < (n : Int) + m) (hr2 : rightB number 2 = false) (hr : rightB number wire = true) (hf : fitsV wire vs = true) (hlt : (lenB number vs).length ≤ m + 15) (hpt : (putB number wire vs).length ≤ m + 15 ∨ rightB number wire = false) :
    Calls Try.prog 13 #[.slice A n c, .int .i64 number, .int .i64 wire, .slice B m d] w fun e w' => e = .returned (.bool true) ∧ Ext w w' := by
  have hE := Ext.refl w
  have hok : (rightB number wire && fitsV wire vs) = true := by rw [hr, hf]; rfl
  have hlb : lenB number vs = [] := by unfold lenB; rw [hr2]; rfl
  have hca := Reads.cap hb
  have hcv := Reads.cap hv
  rw [hlb] at hlt
  have Hlb := Lib.hid hlb
  clear hlb
  have hp2 : (putB number wire vs).length ≤ m + 15 := by rcases hpt with h | h; exact h; rw [hr] at h; cases h
  go_enter Try.func13, Try.ntmps13
  go_wp2_with (first
    | (go_at_call 46; refine (alive05 _).mono ?_; rintro e w1 ⟨rfl, E1⟩; have X_ : Ext w w1 := Ext.trans (by repeat with_reducible (first | exact Ext.refl _ | refine Ext.alloc ?_ _ | refine Ext.drew ?_ | refine Ext.drewN ?_ _ | refine Ext.setCell ?_ (by first | exact Nat.le_refl _ | omega | (simp; done) | (simp; omega)) _)) E1; replace hb := hb.up X_; replace hv := hv.up X_; replace hE := hE.up X_; clear X_)
    | (go_at_call 51; refine (rPut hb (by omega) hv (by omega) hok).mono ?_; rintro e w2 ⟨A2, c2, rfl, own2⟩; have X_ : Ext w1 w2 := Ext.trans (by repeat with_reducible (first | exact Ext.refl _ | refine Ext.alloc ?_ _ | refine Ext.drew ?_ | refine Ext.drewN ?_ _ | refine Ext.setCell ?_ (by first | exact Nat.le_refl _ | omega | (simp; done) | (simp; omega)) _)) own2.ext; replace hb := hb.up X_; replace hv := hv.up X_; replace hE := hE.up X_; clear X_)
    | (go_at_call 52; refine (rLenE hb (by omega) hv (by omega) Hlb.out).mono ?_; rintro e w3 ⟨A3, c3, rfl, own3⟩; have X_ : Ext w2 w3 := Ext.trans (by repeat with_reducible (first | exact Ext.refl _ | refine Ext.alloc ?_ _ | refine Ext.drew ?_ | refine Ext.drewN ?_ _ | refine Ext.setCell ?_ (by first | exact Nat.le_refl _ | omega | (simp; done) | (simp; omega)) _)) own3.ext; replace hb := hb.up X_; replace hv := hv.up X_; replace hE := hE.up X_; replace own2 := own2.up X_; clear X_)
    | (at_builtin; refine wpList_more elemB rfl (.tmp 33) (.tmp 34) rfl rfl (Own.empty (Ext.refl _) 5 1) rfl (hb.ext (by repeat with_reducible (first | exact Ext.refl _ | refine Ext.alloc ?_ _ | refine Ext.drew ?_ | refine Ext.drewN ?_ _ | refine Ext.setCell ?_ (by first | exact Nat.le_refl _ | omega | (simp; done) | (simp; omega)) _))) (bv_one _) (by omega) (by unfold maxLen; omega) ?_; intro A6 c6 w6 own6 _; simp only [Nat.zero_add, List.nil_append] at own6; replace hb := hb.up own6.ext; replace hv := hv.up own6.ext; replace hE := hE.up own6.ext; replace own3 := own3.up own6.ext; replace own2 := own2.up own6.ext)
    | (go_at_call 40; refine (tRightR _ _ _).mono ?_; rintro e w' ⟨rfl, rfl⟩)
    | (go_at_call 43; refine (same own3.reads own6.reads).mono ?_; rintro e w' ⟨rfl, rfl⟩; clear own3 own6)
    | (go_at_call 54; refine (rFitsR hv (by omega)).mono ?_; rintro e w' ⟨rfl, rfl⟩)
    | (at_builtin; refine wpList_more elemB rfl (.tmp 70) (.tmp 71) rfl rfl (Own.empty (Ext.refl _) 5 1) rfl (hb.ext (by repeat with_reducible (first | exact Ext.refl _ | refine Ext.alloc ?_ _ | refine Ext.drew ?_ | refine Ext.drewN ?_ _ | refine Ext.setCell ?_ (by first | exact Nat.le_refl _ | omega | (simp; done) | (simp; omega)) _))) (bv_one _) (by omega) (by unfold maxLen; omega) ?_; intro A7 c7 w7 own7 _; simp only [Nat.zero_add, List.nil_append] at own7)
    | (go_at_call 53; refine (rPutR (hv.up own7.ext) (by omega) hr).mono ?_; rintro e w8 ⟨A8, c8, rfl, own8⟩; have X_ : Ext w7 w8 := Ext.trans (by repeat with_reducible (first | exact Ext.refl _ | refine Ext.alloc ?_ _ | refine Ext.drew ?_ | refine Ext.drewN ?_ _ | refine Ext.setCell ?_ (by first | exact Nat.le_refl _ | omega | (simp; done) | (simp; omega)) _)) own8.ext; replace own7 := own7.up X_; clear X_)
    | (at_builtin; refine wpList_more elemB rfl (.tmp 72) (.tmp 76) rfl rfl own7 rfl own8.reads (bv_one _) (by omega) (by unfold maxLen; omega) ?_; intro A9 c9 w9 own9 _; rw [← List.map_append] at own9; replace hE := hE.up own9.ext; replace own2 := own2.up own9.ext)
    | (go_at_call 43; refine (same own2.reads own9.reads).mono ?_; rintro e w' ⟨rfl, rfl⟩))
  go_ret
  exact ⟨rfl, hE⟩

end

theorem recordPuts_walk {A B : Option Addr} {n c m d : Nat} {bs vs : List UInt8} {number wire : Int} {w : World} (hb : BytesAt w A n c bs) (sb : c * 1 ≤ 140737488351232) (bn : -9223372036854775808 ≤ number ∧ number < 9223372036854775808) (bw : -9223372036854775808 ≤ wire ∧ wire < 9223372036854775808) (hv : BytesAt w B m d vs) (sv : d * 1 ≤ 140737488351232) :
    Calls Try.prog 13 #[.slice A n c, .int .i64 number, .int .i64 wire, .slice B m d] w fun e w' => e = .returned (.bool true) ∧ Ext w w' := by
  have hca := Reads.cap hb
  have hcb := Reads.cap hv
  have hE := Ext.refl w
  by_cases hn : (3000 : Int) < (n : Int) + m
  · go_enter Try.func13, Try.ntmps13
    go_wp2_with (go_at_call 46; refine (alive05 _).mono ?_; rintro e w1 ⟨rfl, E1⟩; have X_ : Ext w w1 := Ext.trans (by repeat with_reducible (first | exact Ext.refl _ | refine Ext.alloc ?_ _ | refine Ext.drew ?_ | refine Ext.drewN ?_ _ | refine Ext.setCell ?_ (by first | exact Nat.le_refl _ | omega | (simp; done) | (simp; omega)) _)) E1; replace hE := hE.up X_; clear X_)
    go_ret
    exact ⟨rfl, hE⟩
  · have hvl := hv.length
    have hlt : (lenB number vs).length ≤ m + 15 := by
      unfold lenB
      split
      · have := putB_length (v := vs) ‹_› (by omega); omega
      · simp
    have hpt : (putB number wire vs).length ≤ m + 15 ∨ rightB number wire = false := by
      rcases hr : rightB number wire with _ | _
      · exact .inr rfl
      · have := putB_length (v := vs) hr (by omega); exact .inl (by omega)
    rcases hr2 : rightB number 2 with _ | _ <;> rcases hr : rightB number wire with _ | _ <;> rcases hf : fitsV wire vs with _ | _
    · exact recordPuts_fr hb hv hn hr2 hr hlt hpt
    · exact recordPuts_fr hb hv hn hr2 hr hlt hpt
    · exact recordPuts_ff hb hv hn hr2 hr hf hlt hpt
    · exact recordPuts_fy hb hv hn hr2 hr hf hlt hpt
    · exact recordPuts_tr hb hv hn hr2 hr hlt hpt
    · exact recordPuts_tr hb hv hn hr2 hr hlt hpt
    · exact recordPuts_tf hb hv hn hr2 hr hf hlt hpt
    · exact recordPuts_ty hb hv hn hr2 hr hf hlt hpt

end Go.Proofs.Ytcipokmklkognaa
