/- Words of my own for memory: an elder part of a world; a cut and its block; what stands at the loop over a field's values. -/
import Derived.Test.YthnoknheodecgaaGreatM14p
namespace Go.Proofs.YthnoknheodecgaaGreat
open Go.RowKit
set_option linter.unusedVariables false

theorem results_cell_row2 {P : Program} {fn : Func} {p u : Tmp} {ty : TypeId} (h : fn.results = #[.cell p ty, .tmp u]) (tmps : Array Value) (w : World) (g : Nat) (t : TypeId) (cs : Array Value) (fr : Nat × Nat) (d : TypeDesc)
    (hp : tmps.getD p undef = .pointer (some ⟨g, 0, none⟩)) (hg : w.heap[g]? = some (.cells cs t fr))
    (hu : P.underlying ty = some d) (hd : (match d with | .struct _ | .array _ _ => true | _ => false) = true) (hi : (P.info? ty).map (·.size) = some cs.size) :
    (results fn tmps).run P w = .ok (.tuple #[.agg cs, tmps.getD u undef]) w := by
  have hp' : tmps[p]?.getD undef = .pointer (some ⟨g, 0, none⟩) := by simpa using hp
  simp [results, h, hp', asAddr, run_loadVar_row w g t ty cs fr d hg hu hd hi]

/-- A world's elder part. -/
theorem old_part (w3 : World) {n : Nat} (h : n ≤ w3.heap.size) : ∃ wb : World, Ext wb w3 ∧ wb.heap.size = n := by
  refine ⟨{ w3 with heap := w3.heap.extract 0 n }, ⟨rfl, rfl, rfl, ?_, fun b hb => ?_⟩, ?_⟩
  · simp
    try omega
  · have hb' : b < (w3.heap.extract 0 n).size := hb
    have hn : b < n := by
      rw [Array.size_extract] at hb'
      omega
    show w3.heap[b]? = (w3.heap.extract 0 n)[b]?
    rw [Array.getElem?_extract]
    simp
    omega
  · simp
    try omega

section
variable {w0 w w' wb w3 : World}

theorem old_ext (h : Ext w0 w3) (k : Ext wb w3) (hn : w0.heap.size ≤ wb.heap.size) : Ext w0 wb :=
  ⟨k.os.symm.trans h.os, k.tape.symm.trans h.tape, k.output.symm.trans h.output, hn, fun b hb => (k.block b (Nat.lt_of_lt_of_le hb hn)).symm.trans (h.block b hb)⟩
end

theorem cut_fromB {P : Program} {t e : TypeId} {size bytes : Nat} {w : World} {A : Option Addr} {n c : Nat} {xs : List Value} (T : Elem P t e size bytes) (h : Reads w A n c size xs) (k : IntKind) {l : Nat} (hl : l ≤ n) :
    ∃ A', (∀ W : World, (Instr.slice t (.slice A n c) (some (.int k (l : Int))) none none).run P W = .ok (.slice A' (n - l) (c - l)) W) ∧ Reads w A' (n - l) (c - l) size (xs.drop (l * size)) ∧ ∀ m b, UsesA A' m b → (Value.slice A 0 0).ownBlock = some b := by
  obtain ⟨i, z, hi, _, hsz, _, _⟩ := T.info
  refine ⟨if c = l then A else A.map (·.add (l * size)), fun W => ?_, ?_, ?_⟩
  · simp [Instr.slice, run_underlying T.under, Instr.sliceBounds, run_sliceBound, sizeOf, typeInfo, hi, hsz, (by omega : (l : Int) ≤ n)]
  · have := h.cut hl (Nat.le_refl n)
    rwa [List.take_of_length_le (by rw [h.len]; exact Nat.le_refl _)] at this
  · rintro m b ⟨_, p, hp, rfl⟩
    split at hp
    · rw [hp]; rfl
    · rcases A with _ | ⟨b', o, s⟩
      · cases hp
      · simp only [Option.map_some, Option.some.injEq] at hp
        subst hp
        show some b' = some _
        congr 1
        unfold Addr.add
        split <;> rfl

/-- 'x[l:]' of cells, the address typed out. -/
theorem cut_one {w : World} {A : Option Addr} {n c l : Nat} {xs : List Value} (h : Reads w A n c 1 xs) (hl : l ≤ n) :
    Reads w (if c = l then A else A.map (fun x => x.add l)) (n - l) (c - l) 1 (xs.drop l) ∧ ∀ m b, UsesA (if c = l then A else A.map (fun x => x.add l)) m b → (Value.slice A 0 0).ownBlock = some b := by
  refine ⟨?_, ?_⟩
  · have := h.cut hl (Nat.le_refl n)
    rw [List.take_of_length_le (by rw [h.len]; exact Nat.le_refl _), Nat.mul_one] at this
    exact this
  · rintro m b ⟨_, p, hp, rfl⟩
    split at hp
    · rw [hp]; rfl
    · rcases A with _ | ⟨b', o, s⟩
      · cases hp
      · simp only [Option.map_some, Option.some.injEq] at hp
        subst hp
        show some b' = some _
        congr 1
        unfold Addr.add
        split <;> rfl

theorem last_nat (n : Nat) : (if (1 : Int) < (n : Int) then (n : Int) - 1 else 0).toNat = n - 1 := by
  split <;> omega

theorem Stays.set_new {w w' : World} {s : Nat → Prop} (h : Stays s w w') {p : Addr} (hp : w.heap.size ≤ p.block) (u : Value) : Stays s w (w'.setCell p u) :=
  ⟨by simpa [World.setCell] using h.size, fun b hs hb => (Below.heap_setCell w' p u b (by omega)).trans (h.block b hs hb)⟩

theorem Stays.drew {w w' : World} {s : Nat → Prop} (h : Stays s w w') : Stays s w w'.drew := ⟨h.size, h.block⟩

/-- The block of a row is no variable's of another type. -/
theorem Own.not_blk {w0 w : World} {e t : TypeId} {size n c b : Nat} {A : Option Addr} {xs : List Value} {cs : Array Value} (h : Own w0 w e size A n c xs) (k : BlkT w b t cs) (hne : e ≠ t) {g : Nat} (hg : (Value.slice A 0 0).ownBlock = some g) : g ≠ b := by
  rintro rfl
  obtain ⟨cur, hc⟩ := h.typed hg
  unfold BlkT at k
  rw [hc] at k
  injection k with k
  injection k with _ k
  exact hne k

theorem BRowsAt.stays {w w' : World} {s : Nat → Prop} {A : Option Addr} {n c : Nat} {l : List BRow} (h : BRowsAt w A n c l) (k : Stays s w w') (h1 : ∀ b, UsesA A n b → s b) (h2 : ∀ r ∈ l, ∀ b, UsesA r.A r.n b → s b) : BRowsAt w' A n c l :=
  ⟨Reads.stays h.1 k h1, fun r hr => Reads.stays (h.2 r hr) k (h2 r hr)⟩

theorem Reads.row_uses {w0 w : World} {e : TypeId} {size n c b : Nat} {A : Option Addr} {xs : List Value} (hb : UsesA A n b) (h : Own w0 w e size A n c xs) : (Value.slice A 0 0).ownBlock = some b := by
  obtain ⟨_, p, rfl, rfl⟩ := hb
  rfl

/-- What stands at the loop over a field's values. -/
structure ValGo (w0 w w3 : World) (p : PieceG) (ws : List Nat) (aw : Option Addr) (nw cw : Nat) (rows : List BRow) (av : Option Addr) (nv cv : Nat) : Prop where
  res : BlkT w3 w.heap.size 54 #[.int .i64 0, .slice none 0 0, .slice none 0 0, .slice none 0 0]
  val : BlkT w3 (w.heap.size + 1) 54 #[.int .i64 p.f.number, .slice aw nw cw, .slice none 0 0, .slice none 0 0]
  blk : BlkT w3 p.b 154 #[.string p.f.name, .int .i64 p.f.number, .int .i64 p.f.kind, .bool p.f.rep, .bool p.f.packed, .int .i64 p.f.of_, .slice aw nw cw, .slice av nv cv]
  ext : Ext w0 w3
  stays : Stays (fun b => ¬ Foot p b) w w3
  words : Reads w3 aw nw cw 1 (ws.map uv)
  wfoot : ∀ b, UsesA aw nw b → Foot p b
  at_ : BRowsAt w3 av nv cv rows
  raway : ∀ b, UsesA av nv b → b ≠ w.heap.size ∧ b ≠ w.heap.size + 1
  baway : ∀ r ∈ rows, ∀ b, UsesA r.A r.n b → b ≠ w.heap.size ∧ b ≠ w.heap.size + 1
  wsEq : ws = pwordsO p.f p.ws
  rowsEq : rows.map BRow.bs = ppiecesO p.f (p.vs.map BRow.bs)

/-- What stands ahead of it, when it is settled which words and values count. -/
structure ValMid (w0 w wz : World) (p : PieceG) (ws : List Nat) (aw : Option Addr) (nw cw : Nat) (rows : List BRow) (av : Option Addr) (nv cv : Nat) : Prop where
  res : BlkT wz w.heap.size 54 #[.int .i64 0, .slice none 0 0, .slice none 0 0, .slice none 0 0]
  val : BlkT wz (w.heap.size + 1) 54 #[.int .i64 p.f.number, .slice none 0 0, .slice none 0 0, .slice none 0 0]
  blk : BlkT wz p.b 154 #[.string p.f.name, .int .i64 p.f.number, .int .i64 p.f.kind, .bool p.f.rep, .bool p.f.packed, .int .i64 p.f.of_, .slice aw nw cw, .slice av nv cv]
  ext : Ext w0 wz
  stays : Stays (fun b => ¬ Foot p b) w wz
  words : Reads wz aw nw cw 1 (ws.map uv)
  wfoot : ∀ b, UsesA aw nw b → Foot p b
  at_ : BRowsAt wz av nv cv rows
  raway : ∀ b, UsesA av nv b → b ≠ w.heap.size ∧ b ≠ w.heap.size + 1
  baway : ∀ r ∈ rows, ∀ b, UsesA r.A r.n b → b ≠ w.heap.size ∧ b ≠ w.heap.size + 1
  wsEq : ws = pwordsO p.f p.ws
  rowsEq : rows.map BRow.bs = ppiecesO p.f (p.vs.map BRow.bs)
  old : ∀ b, Foot p b → b < w.heap.size
  base : w0.heap.size ≤ w.heap.size
  nwl : nw ≤ 1000000
  nvl : nv ≤ 1000000
  small : ∀ x ∈ ws, x < 18446744073709551616

theorem ValMid.go {w0 w wz : World} {p : PieceG} {ws : List Nat} {aw : Option Addr} {nw cw : Nat} {rows : List BRow} {av : Option Addr} {nv cv : Nat} (h : ValMid w0 w wz p ws aw nw cw rows av nv cv) :
    ValGo w0 w (wz.setCell ⟨w.heap.size + 1, 1, none⟩ (.slice aw nw cw)) p ws aw nw cw rows av nv cv := by
  have hb := h.old p.b (.inl rfl)
  have sv := (Stays.refl (fun b => b ≠ w.heap.size + 1) wz).set (p := ⟨w.heap.size + 1, 1, none⟩) (fun h => h rfl) (.slice aw nw cw)
  exact ⟨h.res.set_far 1 (by omega) _, h.val.set_ 1 _, h.blk.set_far 1 (by omega) _, h.ext.setCell (p := ⟨w.heap.size + 1, 1, none⟩) (by have := h.base; show w0.heap.size ≤ w.heap.size + 1; omega) _, h.stays.set_new (p := ⟨w.heap.size + 1, 1, none⟩) (by show w.heap.size ≤ w.heap.size + 1; omega) _,
    h.words.stays sv (fun b hb => (by have := h.old b (h.wfoot b hb); omega)), h.wfoot, BRowsAt.stays h.at_ sv (fun b hb => (h.raway b hb).2) (fun r hr b hb => (h.baway r hr b hb).2), h.raway, h.baway, h.wsEq, h.rowsEq⟩

end Go.Proofs.YthnoknheodecgaaGreat
