/- Contracts of layer 22: a field of some kinds, with its load; Words and Texts. -/
import Derived.Test.YtpicpebolghcfaaGreatDoorQjW79

namespace Go.Proofs.YtpicpebolghcfaaGreatDoor
open Go.RowKit Go.Shelf
set_option linter.unusedVariables false
set_option linter.unusedSimpArgs false

theorem results_cell_two {P : Program} {fn : Func} {p u v : Tmp} {ty : TypeId} (h : fn.results = #[.cell p ty, .tmp u, .tmp v]) (tmps : Array Value) (w : World) (g : Nat) (t : TypeId) (cs : Array Value) (fr : Nat × Nat) (d : TypeDesc)
    (hp : tmps.getD p undef = .pointer (some ⟨g, 0, none⟩)) (hg : w.heap[g]? = some (.cells cs t fr))
    (hu : P.underlying ty = some d) (hd : (match d with | .struct _ | .array _ _ => true | _ => false) = true) (hi : (P.info? ty).map (·.size) = some cs.size) :
    (results fn tmps).run P w = .ok (.tuple #[.agg cs, tmps.getD u undef, tmps.getD v undef]) w := by
  have hp' : tmps[p]?.getD undef = .pointer (some ⟨g, 0, none⟩) := by simpa using hp
  simp [results, h, hp', asAddr, run_loadVar_row w g t ty cs fr d hg hu hd hi]

theorem rows_same {A : Option Addr} {n c : Nat} {l : List BRow} {w W : World} {b : Nat} (hb : BRowsAt w A n c l) (hS : Same (fun q => q ≠ b) w W) (hA : 0 < n → InS (fun q => q ≠ b) A) (hB : ∀ r ∈ l, BytesAt W r.A r.n r.c r.bs) : BRowsAt W A n c l := by
  refine ⟨⟨hb.1.len, hb.1.cap, hb.1.max, fun hn => ?_⟩, hB⟩
  obtain ⟨q, off, e, h1, h2⟩ := hb.1.at_ hn
  have hq := hA hn _ e
  have hs := hS q hq
  refine ⟨q, off, e, ?_, fun j u hj => ?_⟩
  · rw [Array.getElem?_eq_getElem h1] at hs
    exact (Array.getElem?_eq_some_iff.1 hs).1
  · exact (World.cell?_of_block (a := ⟨q, off + j, none⟩) hs).trans (h2 j u hj)

theorem rows_stored {A B : Option Addr} {n c k m : Nat} {l : List BRow} {w : World} {b : Nat} {f g : FieldD} {A' : Option Addr} {n' c' : Nat} (hb : BRowsAt w A n c l) (BR : BlkT w b 79 (foundC g A' n' c')) (hA : 0 < n → InS (fun q => q ≠ b) A) : BRowsAt (storeF w b f B k m) A n c l := by
  refine rows_same hb (storeF_same _ _ _ _ _ _) hA (fun r hr => bytes_same (hb.2 r hr) (bytes_apart (hb.2 r hr) BR (fun j x h => ?_)) (storeF_same _ _ _ _ _ _))
  unfold foundC at h
  rcases j with _ | _ | _ | _ | _ | _ | _ | j <;> simp at h

theorem foundC_no {g : FieldD} {A' : Option Addr} {n' c' j : Nat} {x : Int} (h : (foundC g A' n' c')[j]? = some (.int .u8 x)) : False := by
  unfold foundC at h
  rcases j with _ | _ | _ | _ | _ | _ | _ | j <;> simp at h

theorem pText (k : Int) (w : World) : Calls Tryz.prog 33 #[.int .i64 k] w fun e w' => e = .returned (.bool (k == 15 || k == 16)) ∧ Ext w w' := by
  by_cases h : k = 15
  · have q : (k == 15) = true := by rw [beq_iff_eq]; exact h
    rw [q]
    clear h
    go_enter Tryz.func33, Tryz.ntmps33
    go_wp2
    go_ret
    exact ⟨rfl, Ext.refl _⟩
  · have q : (k == 15) = false := by rw [beq_eq_false_iff_ne]; exact h
    rw [q, Bool.false_or]
    clear h
    go_enter Tryz.func33, Tryz.ntmps33
    go_wp2
    go_ret
    exact ⟨rfl, Ext.refl _⟩

section
variable {A B : Option Addr} {n c m k : Nat} {S : List MsgV} {root d : Int} {p : ByteArray} {bs : List UInt8} {w : World}

set_option maxRecDepth 100000 in
theorem pOf_bad {g : FuncId} (hs : SchemaAt w A n c S) (hb : BytesAt w B m k bs) (hm : m ≤ 1000000000) (hp : p.size ≤ maxLen) {K : Nat} (hK : (wayAtV (S.map MsgV.d) root d p bs).2 = K) (h0 : K ≠ 0) :
    Calls Tryz.prog 30 #[.slice A n c, .int .i64 root, .slice B m k, .int .i64 d, .string p, .func (.func g) #[] #[]] w fun e w' => e = .returned (.tuple #[foundV noField none 0 0, .slice none 0 0, .int .u8 (K : Int)]) ∧ Ext w w' := by
  have hfi := fun W (a : SchemaAt W A n c S) (b : BytesAt W B m k bs) => pFind_bad (root := root) (d := d) a b hm hp hK h0
  have Hfi := Lib.hid hfi
  have q : ((K : Int) != 0) = true := by rw [bne_iff_ne]; omega
  have BR := BlkT.new w 79 zeroFound rfl
  have X0 : Ext w (w.alloc (.cells zeroFound 79)) := (by repeat with_reducible (first | exact Ext.refl _ | refine Ext.alloc ?_ _ | refine Ext.drew ?_ | refine Ext.drewN ?_ _ | refine Ext.setCell ?_ (by first | exact Nat.le_refl _ | omega | (simp; done) | (simp; omega)) _))
  unfold zeroFound at BR X0
  clear hfi hK h0
  unfold foundV noField at Hfi ⊢
  simp only at Hfi ⊢
  go_enter Tryz.func30, Tryz.ntmps30
  go_wp2_with fail
  generalize w.alloc (.cells #[.string ⟨#[]⟩, .int .i64 0, .int .i64 0, .bool false, .bool false, .int .i64 0, .slice none 0 0] 79) = wx at *
  go_wp2_with (go_at_call 44; refine (Hfi.out _ (hs.up X0) (hb.up X0)).mono ?_; rintro e w1 ⟨rfl, E1⟩; have X1 : Ext wx (w1.alloc (.cells #[.string ⟨#[]⟩, .int .i64 0, .int .i64 0, .bool false, .bool false, .int .i64 0, .slice none 0 0] 79)) := E1.alloc _; replace BR := BR.up X1; have y0 : (w1.alloc (.cells #[.string ⟨#[]⟩, .int .i64 0, .int .i64 0, .bool false, .bool false, .int .i64 0, .slice none 0 0] 79)).cell? ⟨w.heap.size, 0, none⟩ = some (.string ⟨#[]⟩) := BR.cell 0; have y1 : (w1.alloc (.cells #[.string ⟨#[]⟩, .int .i64 0, .int .i64 0, .bool false, .bool false, .int .i64 0, .slice none 0 0] 79)).cell? ⟨w.heap.size, 1, none⟩ = some (.int .i64 0) := BR.cell 1; have y2 : (w1.alloc (.cells #[.string ⟨#[]⟩, .int .i64 0, .int .i64 0, .bool false, .bool false, .int .i64 0, .slice none 0 0] 79)).cell? ⟨w.heap.size, 2, none⟩ = some (.int .i64 0) := BR.cell 2; have y3 : (w1.alloc (.cells #[.string ⟨#[]⟩, .int .i64 0, .int .i64 0, .bool false, .bool false, .int .i64 0, .slice none 0 0] 79)).cell? ⟨w.heap.size, 3, none⟩ = some (.bool false) := BR.cell 3; have y4 : (w1.alloc (.cells #[.string ⟨#[]⟩, .int .i64 0, .int .i64 0, .bool false, .bool false, .int .i64 0, .slice none 0 0] 79)).cell? ⟨w.heap.size, 4, none⟩ = some (.bool false) := BR.cell 4; have y5 : (w1.alloc (.cells #[.string ⟨#[]⟩, .int .i64 0, .int .i64 0, .bool false, .bool false, .int .i64 0, .slice none 0 0] 79)).cell? ⟨w.heap.size, 5, none⟩ = some (.int .i64 0) := BR.cell 5; have y6 : (w1.alloc (.cells #[.string ⟨#[]⟩, .int .i64 0, .int .i64 0, .bool false, .bool false, .int .i64 0, .slice none 0 0] 79)).cell? ⟨w.heap.size, 6, none⟩ = some (.slice none 0 0) := BR.cell 6; have x0 := BR.free 0; have x1 := BR.free 1; have x2 := BR.free 2; have x3 := BR.free 3; have x4 := BR.free 4; have x5 := BR.free 5; have x6 := BR.free 6; have yl := BR.lt)
  refine bodyPost_ret (results_cell_two (ty := 79) rfl _ _ w.heap.size _ _ (0, 0) _ rfl (storeF_blk (f := noField) (g := noField) BR) Tryz.underlying79 rfl (by kernel_rfl)) rfl ?_
  exact ⟨rfl, storeF_ext (f := noField) (X0.trans X1) (Nat.le_refl _)⟩

def codeOf (q : Bool) (f : FieldD) (ps : List (List UInt8)) : Nat := if q = false then 2 else if thereP f ps = false then 11 else 0

def OfPost (q : Bool) (f : FieldD) (ps : List (List UInt8)) (w : World) (e : Ending) (w' : World) : Prop :=
  (codeOf q f ps ≠ 0 ∧ ∃ A n c, e = .returned (.tuple #[foundV f A n c, .slice none 0 0, .int .u8 (codeOf q f ps : Nat)]) ∧ Ext w w') ∨
  (codeOf q f ps = 0 ∧ ∃ l A n c L kc, e = .returned (.tuple #[foundV f A n c, .slice L (loadP f ps).length kc, .int .u8 0]) ∧ BRowsAt w' A n c l ∧ bytesR l = ps ∧ BytesAt w' L (loadP f ps).length kc (loadP f ps) ∧ Ext w w')

set_option maxRecDepth 100000 in
set_option maxHeartbeats 1000000 in
theorem pOf_ok {g : FuncId} {q : Bool} (eg : ∀ args w, (callFunc g args).run Tryz.prog w = .ok (.enter g args) w) (hs : SchemaAt w A n c S) (hb : BytesAt w B m k bs) (hm : m ≤ 1000000000) (hp : p.size ≤ maxLen) (hK : (wayAtV (S.map MsgV.d) root d p bs).2 = 0) {f : FieldD} (hf : OnWay (S.map MsgV.d) root.toNat (wayAtV (S.map MsgV.d) root d p bs).1 f)
    (hq : ∀ W, Calls Tryz.prog g #[.int .i64 f.kind] W fun e W' => e = .returned (.bool q) ∧ Ext W W') :
    Calls Tryz.prog 30 #[.slice A n c, .int .i64 root, .slice B m k, .int .i64 d, .string p, .func (.func g) #[] #[]] w (OfPost q f (atP (S.map MsgV.d) root d p bs) w) := by
  have hfi := fun W (a : SchemaAt W A n c S) (b : BytesAt W B m k bs) => pFind_ok (root := root) (d := d) a b hm hp hK hf
  have Hfi := Lib.hid hfi
  have ha : ∀ (l : List BRow) (n : Nat), bytesR l = atP (S.map MsgV.d) root d p bs → l.length = n → (flatR l).length ≤ 1000000000 ∧ n ≤ 1000000000 := fun l n h1 h2 => atP_le h1 (by have := hb.length; omega) h2
  have Hq := Lib.hid hq
  clear hfi hK hf hq
  generalize atP (S.map MsgV.d) root d p bs = ps at Hfi ha ⊢
  have HA := Lib.hid ha
  clear ha
  have BR := BlkT.new w 79 zeroFound rfl
  have X0 : Ext w (w.alloc (.cells zeroFound 79)) := (by repeat with_reducible (first | exact Ext.refl _ | refine Ext.alloc ?_ _ | refine Ext.drew ?_ | refine Ext.drewN ?_ _ | refine Ext.setCell ?_ (by first | exact Nat.le_refl _ | omega | (simp; done) | (simp; omega)) _))
  have hz0 : w.heap.size < (w.alloc (.cells zeroFound 79)).heap.size := by simp
  unfold zeroFound at BR X0 hz0
  obtain ⟨fname, fnum, fkind, frep, fpk, fof⟩ := f
  simp only at Hq
  unfold OfPost codeOf
  cases q with
  | false =>
    rw [if_pos rfl]
    go_enter Tryz.func30, Tryz.ntmps30
    go_wp2_with fail
    have Hz := Lib.hid hz0; clear hz0; generalize w.alloc (.cells #[.string ⟨#[]⟩, .int .i64 0, .int .i64 0, .bool false, .bool false, .int .i64 0, .slice none 0 0] 79) = wx at *
    go_wp2_with (go_at_call 44; refine (Hfi.out _ (hs.up X0) (hb.up X0)).mono ?_; rintro e w1 ⟨l, A1, n1, k1, rfl, hB1, hps, E1, hin⟩; unfold foundV; obtain ⟨hle, hn1⟩ := HA.out _ _ hps hB1.length; have BX := BlkT.new w1 79 (foundC ⟨fname, fnum, fkind, frep, fpk, fof⟩ A1 n1 k1) rfl; unfold foundC at BX; have X2 : Ext w1 (w1.alloc (.cells #[.string fname, .int .i64 fnum, .int .i64 fkind, .bool frep, .bool fpk, .int .i64 fof, .slice A1 n1 k1] 79)) := (by repeat with_reducible (first | exact Ext.refl _ | refine Ext.alloc ?_ _ | refine Ext.drew ?_ | refine Ext.drewN ?_ _ | refine Ext.setCell ?_ (by first | exact Nat.le_refl _ | omega | (simp; done) | (simp; omega)) _)); replace BR := (BR.up E1).up X2; have hth := fun W (h : Ext w1 W) => pThere (f := ⟨fname, fnum, fkind, frep, fpk, fof⟩) (hB1.up h) hle; rw [hps] at hth; unfold foundV at hth; have Hth := Lib.hid hth; have Hps := Lib.hid hps; clear hth hps)
    generalize w1.alloc (.cells #[.string fname, .int .i64 fnum, .int .i64 fkind, .bool frep, .bool fpk, .int .i64 fof, .slice A1 n1 k1] 79) = wy at *
    have c0 : wy.cell? ⟨w1.heap.size, 0, none⟩ = some (.string fname) := BX.cell 0
    have c1 : wy.cell? ⟨w1.heap.size, 1, none⟩ = some (.int .i64 fnum) := BX.cell 1
    have c2 : wy.cell? ⟨w1.heap.size, 2, none⟩ = some (.int .i64 fkind) := BX.cell 2
    have c3 : wy.cell? ⟨w1.heap.size, 3, none⟩ = some (.bool frep) := BX.cell 3
    have c4 : wy.cell? ⟨w1.heap.size, 4, none⟩ = some (.bool fpk) := BX.cell 4
    have c5 : wy.cell? ⟨w1.heap.size, 5, none⟩ = some (.int .i64 fof) := BX.cell 5
    have c6 : wy.cell? ⟨w1.heap.size, 6, none⟩ = some (.slice A1 n1 k1) := BX.cell 6
    have cl := BX.lt
    have y0 : wy.cell? ⟨w.heap.size, 0, none⟩ = some (.string ⟨#[]⟩) := BR.cell 0
    have y1 : wy.cell? ⟨w.heap.size, 1, none⟩ = some (.int .i64 0) := BR.cell 1
    have y2 : wy.cell? ⟨w.heap.size, 2, none⟩ = some (.int .i64 0) := BR.cell 2
    have y3 : wy.cell? ⟨w.heap.size, 3, none⟩ = some (.bool false) := BR.cell 3
    have y4 : wy.cell? ⟨w.heap.size, 4, none⟩ = some (.bool false) := BR.cell 4
    have y5 : wy.cell? ⟨w.heap.size, 5, none⟩ = some (.int .i64 0) := BR.cell 5
    have y6 : wy.cell? ⟨w.heap.size, 6, none⟩ = some (.slice none 0 0) := BR.cell 6
    have x0 := BR.free 0
    have x1 := BR.free 1
    have x2 := BR.free 2
    have x3 := BR.free 3
    have x4 := BR.free 4
    have x5 := BR.free 5
    have x6 := BR.free 6
    have yl := BR.lt
    go_wp2_with (go_at_fn g; refine (Hq.out _).mono ?_; rintro e w2 ⟨rfl, E2⟩; replace BX := BX.up E2; replace c0 := E2.of_cell c0; replace c1 := E2.of_cell c1; replace c2 := E2.of_cell c2; replace c3 := E2.of_cell c3; replace c4 := E2.of_cell c4; replace c5 := E2.of_cell c5; replace c6 := E2.of_cell c6; replace cl := Nat.lt_of_lt_of_le cl E2.size; replace BR := BR.up E2; replace y0 := E2.of_cell y0; replace y1 := E2.of_cell y1; replace y2 := E2.of_cell y2; replace y3 := E2.of_cell y3; replace y4 := E2.of_cell y4; replace y5 := E2.of_cell y5; replace y6 := E2.of_cell y6; clear x0 x1 x2 x3 x4 x5 x6; have x0 := BR.free 0; have x1 := BR.free 1; have x2 := BR.free 2; have x3 := BR.free 3; have x4 := BR.free 4; have x5 := BR.free 5; have x6 := BR.free 6; replace yl := Nat.lt_of_lt_of_le yl E2.size)
    refine bodyPost_ret (results_cell_two (ty := 79) rfl _ _ w.heap.size _ _ (0, 0) _ rfl (storeF_blk (f := ⟨fname, fnum, fkind, frep, fpk, fof⟩) (g := noField) BR) Tryz.underlying79 rfl (by kernel_rfl)) rfl ?_
    exact .inl ⟨by simp, A1, n1, k1, rfl, storeF_ext (f := ⟨fname, fnum, fkind, frep, fpk, fof⟩) (((X0.trans E1).trans X2).trans E2) (Nat.le_refl _)⟩
  | true =>
    rw [if_neg (by simp)]
    rcases ht : thereP ⟨fname, fnum, fkind, frep, fpk, fof⟩ ps with _ | _
    · have Ht := Lib.hid ht
      clear ht
      rw [if_pos rfl]
      go_enter Tryz.func30, Tryz.ntmps30
      go_wp2_with fail
      have Hz := Lib.hid hz0; clear hz0; generalize w.alloc (.cells #[.string ⟨#[]⟩, .int .i64 0, .int .i64 0, .bool false, .bool false, .int .i64 0, .slice none 0 0] 79) = wx at *
      go_wp2_with (go_at_call 44; refine (Hfi.out _ (hs.up X0) (hb.up X0)).mono ?_; rintro e w1 ⟨l, A1, n1, k1, rfl, hB1, hps, E1, hin⟩; unfold foundV; obtain ⟨hle, hn1⟩ := HA.out _ _ hps hB1.length; have BX := BlkT.new w1 79 (foundC ⟨fname, fnum, fkind, frep, fpk, fof⟩ A1 n1 k1) rfl; unfold foundC at BX; have X2 : Ext w1 (w1.alloc (.cells #[.string fname, .int .i64 fnum, .int .i64 fkind, .bool frep, .bool fpk, .int .i64 fof, .slice A1 n1 k1] 79)) := (by repeat with_reducible (first | exact Ext.refl _ | refine Ext.alloc ?_ _ | refine Ext.drew ?_ | refine Ext.drewN ?_ _ | refine Ext.setCell ?_ (by first | exact Nat.le_refl _ | omega | (simp; done) | (simp; omega)) _)); replace BR := (BR.up E1).up X2; have hth := fun W (h : Ext w1 W) => pThere (f := ⟨fname, fnum, fkind, frep, fpk, fof⟩) (hB1.up h) hle; rw [hps] at hth; unfold foundV at hth; have Hth := Lib.hid hth; have Hps := Lib.hid hps; clear hth hps)
      generalize w1.alloc (.cells #[.string fname, .int .i64 fnum, .int .i64 fkind, .bool frep, .bool fpk, .int .i64 fof, .slice A1 n1 k1] 79) = wy at *
      have c0 : wy.cell? ⟨w1.heap.size, 0, none⟩ = some (.string fname) := BX.cell 0
      have c1 : wy.cell? ⟨w1.heap.size, 1, none⟩ = some (.int .i64 fnum) := BX.cell 1
      have c2 : wy.cell? ⟨w1.heap.size, 2, none⟩ = some (.int .i64 fkind) := BX.cell 2
      have c3 : wy.cell? ⟨w1.heap.size, 3, none⟩ = some (.bool frep) := BX.cell 3
      have c4 : wy.cell? ⟨w1.heap.size, 4, none⟩ = some (.bool fpk) := BX.cell 4
      have c5 : wy.cell? ⟨w1.heap.size, 5, none⟩ = some (.int .i64 fof) := BX.cell 5
      have c6 : wy.cell? ⟨w1.heap.size, 6, none⟩ = some (.slice A1 n1 k1) := BX.cell 6
      have cl := BX.lt
      have y0 : wy.cell? ⟨w.heap.size, 0, none⟩ = some (.string ⟨#[]⟩) := BR.cell 0
      have y1 : wy.cell? ⟨w.heap.size, 1, none⟩ = some (.int .i64 0) := BR.cell 1
      have y2 : wy.cell? ⟨w.heap.size, 2, none⟩ = some (.int .i64 0) := BR.cell 2
      have y3 : wy.cell? ⟨w.heap.size, 3, none⟩ = some (.bool false) := BR.cell 3
      have y4 : wy.cell? ⟨w.heap.size, 4, none⟩ = some (.bool false) := BR.cell 4
      have y5 : wy.cell? ⟨w.heap.size, 5, none⟩ = some (.int .i64 0) := BR.cell 5
      have y6 : wy.cell? ⟨w.heap.size, 6, none⟩ = some (.slice none 0 0) := BR.cell 6
      have x0 := BR.free 0
      have x1 := BR.free 1
      have x2 := BR.free 2
      have x3 := BR.free 3
      have x4 := BR.free 4
      have x5 := BR.free 5
      have x6 := BR.free 6
      have yl := BR.lt
      replace Hth := Hth.out
      rw [Ht.out] at Hth
      have Hth2 := Lib.hid Hth
      clear Hth
      go_wp2_with (first
        | (go_at_fn g; refine (Hq.out _).mono ?_; rintro e w2 ⟨rfl, E2⟩; replace BX := BX.up E2; replace c0 := E2.of_cell c0; replace c1 := E2.of_cell c1; replace c2 := E2.of_cell c2; replace c3 := E2.of_cell c3; replace c4 := E2.of_cell c4; replace c5 := E2.of_cell c5; replace c6 := E2.of_cell c6; replace cl := Nat.lt_of_lt_of_le cl E2.size; replace BR := BR.up E2; replace y0 := E2.of_cell y0; replace y1 := E2.of_cell y1; replace y2 := E2.of_cell y2; replace y3 := E2.of_cell y3; replace y4 := E2.of_cell y4; replace y5 := E2.of_cell y5; replace y6 := E2.of_cell y6; clear x0 x1 x2 x3 x4 x5 x6; have x0 := BR.free 0; have x1 := BR.free 1; have x2 := BR.free 2; have x3 := BR.free 3; have x4 := BR.free 4; have x5 := BR.free 5; have x6 := BR.free 6; replace yl := Nat.lt_of_lt_of_le yl E2.size)
        | (go_at_call 45; refine (Hth2.out _ (X2.trans E2)).mono ?_; rintro e w3 ⟨rfl, E3⟩; replace BX := BX.up E3; replace c0 := E3.of_cell c0; replace c1 := E3.of_cell c1; replace c2 := E3.of_cell c2; replace c3 := E3.of_cell c3; replace c4 := E3.of_cell c4; replace c5 := E3.of_cell c5; replace c6 := E3.of_cell c6; replace cl := Nat.lt_of_lt_of_le cl E3.size; replace BR := BR.up E3; replace y0 := E3.of_cell y0; replace y1 := E3.of_cell y1; replace y2 := E3.of_cell y2; replace y3 := E3.of_cell y3; replace y4 := E3.of_cell y4; replace y5 := E3.of_cell y5; replace y6 := E3.of_cell y6; clear x0 x1 x2 x3 x4 x5 x6; have x0 := BR.free 0; have x1 := BR.free 1; have x2 := BR.free 2; have x3 := BR.free 3; have x4 := BR.free 4; have x5 := BR.free 5; have x6 := BR.free 6; replace yl := Nat.lt_of_lt_of_le yl E3.size))
      refine bodyPost_ret (results_cell_two (ty := 79) rfl _ _ w.heap.size _ _ (0, 0) _ rfl (storeF_blk (f := ⟨fname, fnum, fkind, frep, fpk, fof⟩) (g := noField) BR) Tryz.underlying79 rfl (by kernel_rfl)) rfl ?_
      exact .inl ⟨by simp, A1, n1, k1, rfl, storeF_ext (f := ⟨fname, fnum, fkind, frep, fpk, fof⟩) ((((X0.trans E1).trans X2).trans E2).trans E3) (Nat.le_refl _)⟩
    · have Ht := Lib.hid ht
      clear ht
      rw [if_neg (by simp)]
      go_enter Tryz.func30, Tryz.ntmps30
      go_wp2_with fail
      have Hz := Lib.hid hz0; clear hz0; generalize w.alloc (.cells #[.string ⟨#[]⟩, .int .i64 0, .int .i64 0, .bool false, .bool false, .int .i64 0, .slice none 0 0] 79) = wx at *
      go_wp2_with (go_at_call 44; refine (Hfi.out _ (hs.up X0) (hb.up X0)).mono ?_; rintro e w1 ⟨l, A1, n1, k1, rfl, hB1, hps, E1, hin⟩; unfold foundV; obtain ⟨hle, hn1⟩ := HA.out _ _ hps hB1.length; have BX := BlkT.new w1 79 (foundC ⟨fname, fnum, fkind, frep, fpk, fof⟩ A1 n1 k1) rfl; unfold foundC at BX; have X2 : Ext w1 (w1.alloc (.cells #[.string fname, .int .i64 fnum, .int .i64 fkind, .bool frep, .bool fpk, .int .i64 fof, .slice A1 n1 k1] 79)) := (by repeat with_reducible (first | exact Ext.refl _ | refine Ext.alloc ?_ _ | refine Ext.drew ?_ | refine Ext.drewN ?_ _ | refine Ext.setCell ?_ (by first | exact Nat.le_refl _ | omega | (simp; done) | (simp; omega)) _)); replace BR := (BR.up E1).up X2; have hth := fun W (h : Ext w1 W) => pThere (f := ⟨fname, fnum, fkind, frep, fpk, fof⟩) (hB1.up h) hle; rw [hps] at hth; unfold foundV at hth; have Hth := Lib.hid hth; have Hps := Lib.hid hps; clear hth hps)
      have hlo := fun W (h : Ext w1 W) => pLoad (f := ⟨fname, fnum, fkind, frep, fpk, fof⟩) (hB1.up h) hle hn1 (fun hr => .inl (by have := there_pos Ht.out hr; rw [← Hps.out] at this; unfold bytesR at this; rw [List.length_map, hB1.length] at this; exact this))
      rw [Hps.out] at hlo
      unfold foundV at hlo
      obtain ⟨LD, hLD⟩ : ∃ LD, LD = loadP ⟨fname, fnum, fkind, frep, fpk, fof⟩ ps := ⟨_, rfl⟩
      rw [← hLD] at hlo
      have HLD := Lib.hid hLD
      have Hlo := Lib.hid hlo
      clear hlo hLD
      have hapart : 0 < n1 → InS (fun q => q ≠ w.heap.size) A1 := fun _ a ha e => by have h1 := hin a ha; have h2 := Hz.out; simp only at h1 e; omega
      have Hap := Lib.hid hapart
      clear hapart
      generalize w1.alloc (.cells #[.string fname, .int .i64 fnum, .int .i64 fkind, .bool frep, .bool fpk, .int .i64 fof, .slice A1 n1 k1] 79) = wy at *
      have c0 : wy.cell? ⟨w1.heap.size, 0, none⟩ = some (.string fname) := BX.cell 0
      have c1 : wy.cell? ⟨w1.heap.size, 1, none⟩ = some (.int .i64 fnum) := BX.cell 1
      have c2 : wy.cell? ⟨w1.heap.size, 2, none⟩ = some (.int .i64 fkind) := BX.cell 2
      have c3 : wy.cell? ⟨w1.heap.size, 3, none⟩ = some (.bool frep) := BX.cell 3
      have c4 : wy.cell? ⟨w1.heap.size, 4, none⟩ = some (.bool fpk) := BX.cell 4
      have c5 : wy.cell? ⟨w1.heap.size, 5, none⟩ = some (.int .i64 fof) := BX.cell 5
      have c6 : wy.cell? ⟨w1.heap.size, 6, none⟩ = some (.slice A1 n1 k1) := BX.cell 6
      have cl := BX.lt
      have y0 : wy.cell? ⟨w.heap.size, 0, none⟩ = some (.string ⟨#[]⟩) := BR.cell 0
      have y1 : wy.cell? ⟨w.heap.size, 1, none⟩ = some (.int .i64 0) := BR.cell 1
      have y2 : wy.cell? ⟨w.heap.size, 2, none⟩ = some (.int .i64 0) := BR.cell 2
      have y3 : wy.cell? ⟨w.heap.size, 3, none⟩ = some (.bool false) := BR.cell 3
      have y4 : wy.cell? ⟨w.heap.size, 4, none⟩ = some (.bool false) := BR.cell 4
      have y5 : wy.cell? ⟨w.heap.size, 5, none⟩ = some (.int .i64 0) := BR.cell 5
      have y6 : wy.cell? ⟨w.heap.size, 6, none⟩ = some (.slice none 0 0) := BR.cell 6
      have x0 := BR.free 0
      have x1 := BR.free 1
      have x2 := BR.free 2
      have x3 := BR.free 3
      have x4 := BR.free 4
      have x5 := BR.free 5
      have x6 := BR.free 6
      have yl := BR.lt
      replace Hth := Hth.out
      rw [Ht.out] at Hth
      have Hth2 := Lib.hid Hth
      clear Hth
      go_wp2_with (first
        | (go_at_fn g; refine (Hq.out _).mono ?_; rintro e w2 ⟨rfl, E2⟩; replace BX := BX.up E2; replace c0 := E2.of_cell c0; replace c1 := E2.of_cell c1; replace c2 := E2.of_cell c2; replace c3 := E2.of_cell c3; replace c4 := E2.of_cell c4; replace c5 := E2.of_cell c5; replace c6 := E2.of_cell c6; replace cl := Nat.lt_of_lt_of_le cl E2.size; replace BR := BR.up E2; replace y0 := E2.of_cell y0; replace y1 := E2.of_cell y1; replace y2 := E2.of_cell y2; replace y3 := E2.of_cell y3; replace y4 := E2.of_cell y4; replace y5 := E2.of_cell y5; replace y6 := E2.of_cell y6; clear x0 x1 x2 x3 x4 x5 x6; have x0 := BR.free 0; have x1 := BR.free 1; have x2 := BR.free 2; have x3 := BR.free 3; have x4 := BR.free 4; have x5 := BR.free 5; have x6 := BR.free 6; replace yl := Nat.lt_of_lt_of_le yl E2.size)
        | (go_at_call 45; refine (Hth2.out _ (X2.trans E2)).mono ?_; rintro e w3 ⟨rfl, E3⟩; replace BX := BX.up E3; replace c0 := E3.of_cell c0; replace c1 := E3.of_cell c1; replace c2 := E3.of_cell c2; replace c3 := E3.of_cell c3; replace c4 := E3.of_cell c4; replace c5 := E3.of_cell c5; replace c6 := E3.of_cell c6; replace cl := Nat.lt_of_lt_of_le cl E3.size; replace BR := BR.up E3; replace y0 := E3.of_cell y0; replace y1 := E3.of_cell y1; replace y2 := E3.of_cell y2; replace y3 := E3.of_cell y3; replace y4 := E3.of_cell y4; replace y5 := E3.of_cell y5; replace y6 := E3.of_cell y6; clear x0 x1 x2 x3 x4 x5 x6; have x0 := BR.free 0; have x1 := BR.free 1; have x2 := BR.free 2; have x3 := BR.free 3; have x4 := BR.free 4; have x5 := BR.free 5; have x6 := BR.free 6; replace yl := Nat.lt_of_lt_of_le yl E3.size; have X3 := (X2.trans E2).trans E3))
      go_region_with (go_at_call 46; refine (Hlo.out _ (X3.trans (by repeat with_reducible (first | exact Ext.refl _ | refine Ext.alloc ?_ _ | refine Ext.drew ?_ | refine Ext.drewN ?_ _ | refine Ext.setCell ?_ (by first | exact Nat.le_refl _ | omega | (simp; done) | (simp; omega)) _)))).mono ?_; rintro e w4 ⟨A4, k4, rfl, own4⟩; have X4 : Ext w3 w4 := Ext.trans (by repeat with_reducible (first | exact Ext.refl _ | refine Ext.alloc ?_ _ | refine Ext.drew ?_ | refine Ext.drewN ?_ _ | refine Ext.setCell ?_ (by first | exact Nat.le_refl _ | omega | (simp; done) | (simp; omega)) _)) own4.ext; replace BX := BX.up X4; replace c0 := X4.of_cell c0; replace c1 := X4.of_cell c1; replace c2 := X4.of_cell c2; replace c3 := X4.of_cell c3; replace c4 := X4.of_cell c4; replace c5 := X4.of_cell c5; replace c6 := X4.of_cell c6; replace cl := Nat.lt_of_lt_of_le cl X4.size; replace BR := BR.up X4; replace y0 := X4.of_cell y0; replace y1 := X4.of_cell y1; replace y2 := X4.of_cell y2; replace y3 := X4.of_cell y3; replace y4 := X4.of_cell y4; replace y5 := X4.of_cell y5; replace y6 := X4.of_cell y6; clear x0 x1 x2 x3 x4 x5 x6; have x0 := BR.free 0; have x1 := BR.free 1; have x2 := BR.free 2; have x3 := BR.free 3; have x4 := BR.free 4; have x5 := BR.free 5; have x6 := BR.free 6; replace yl := Nat.lt_of_lt_of_le yl X4.size)
      all_goals
        go_wp2
        refine bodyPost_ret (results_cell_two (ty := 79) rfl _ _ w.heap.size _ _ (0, 0) _ rfl (storeF_blk (f := ⟨fname, fnum, fkind, frep, fpk, fof⟩) (g := noField) BR) Tryz.underlying79 rfl (by kernel_rfl)) rfl ?_
        have hb4 : BytesAt w4 A4 LD.length k4 LD := own4.reads
        have hb5 := bytes_same hb4 (bytes_apart hb4 BR (fun j x h => foundC_no (g := noField) (A' := none) (n' := 0) (c' := 0) h)) (storeF_same w4 w.heap.size ⟨fname, fnum, fkind, frep, fpk, fof⟩ A1 n1 k1)
        have hr5 := rows_stored (f := ⟨fname, fnum, fkind, frep, fpk, fof⟩) (g := noField) (A' := none) (n' := 0) (c' := 0) (B := A1) (k := n1) (m := k1) (hB1.up (X3.trans X4)) BR Hap.out
        have hx5 := storeF_ext (f := ⟨fname, fnum, fkind, frep, fpk, fof⟩) (A := A1) (n := n1) (c := k1) (((X0.trans E1).trans X3).trans X4) (Nat.le_refl _)
        rw [← HLD.out]
        exact .inr ⟨by simp, l, A1, n1, k1, A4, k4, rfl, hr5, Hps.out, hb5, hx5⟩
end

end Go.Proofs.YtpicpebolghcfaaGreatDoor
