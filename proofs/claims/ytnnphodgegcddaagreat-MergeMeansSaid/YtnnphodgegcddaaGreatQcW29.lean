/- Contracts of layer 15: two meanings, joined, as the reference has it. -/
import Derived.Test.YtnnphodgegcddaaGreatQcW28
import Derived.Test.YtnnphodgegcddaaGreatQcW15
import Derived.Test.YtnnphodgegcddaaGreatQcS18

namespace Go.Proofs.YtnnphodgegcddaaGreat
open Go.RowKit Go.Shelf
set_option linter.unusedVariables false

theorem putL_length (v : ValT) : ∀ (d : Bool) (l : List ValT), (putL v d l).length ≤ l.length + (if d = true then 0 else 1)
 | d, [] => by
   unfold putL
   split
   · exact Nat.zero_le _
   · simp
 | d, x :: l => by
   unfold putL
   have ih := putL_length v (d || decide (v.number ≤ x.number)) l
   rcases d with _ | _
   · by_cases h : v.number ≤ x.number
     · simp [h] at ih ⊢
       split <;> simp <;> omega
     · simp [h] at ih ⊢
       split <;> simp <;> omega
   · simp at ih ⊢
     split <;> simp <;> omega

theorem putT_length (X : List ValT) (v : ValT) : (putT X v).length ≤ X.length + 1 := by
 unfold putT
 have := putL_length v (decide (manyU v = 0)) X
 split at this <;> omega

structure JoinAt (w wx wr : World) (ko : Nat) (x y z : MsgR) (L : List ValT) (k : Nat) : Prop where
 stays : Stays (fun b => b ≠ ko) wx wr
 ext : Ext w wr
 out : BlkT wr ko 40 #[.slice z.a.1 z.vals.length z.a.2, .slice z.b.1 z.unk.length z.b.2]
 at_ : TreeAt wr z
 uses : ∀ b, UsesT z b → UsesT x b ∨ UsesT y b ∨ wx.heap.size ≤ b
 vals : z.vals.map bareV = L
 unk : z.unk = x.unk
 len : z.vals.length ≤ x.vals.length + k

theorem JoinAt.more {w wx wr wq w' : World} {ko k : Nat} {x y z z2 : MsgR} {v : ValR} {L : List ValT} (h : JoinAt w wx wr ko x y z L k) (X : Ext wr wq) (uv : ∀ b, UsesV v b → UsesT x b ∨ UsesT y b ∨ wx.heap.size ≤ b)
  (q1 : z2.vals.map bareV = putT (z.vals.map bareV) (bareV v)) (q2 : z2.unk = z.unk) (q3 : TreeAt w' z2) (q5 : ∀ b, UsesT z2 b → UsesT z b ∨ UsesV v b ∨ wq.heap.size ≤ b) (E : Ext wq w') (hk : w.heap.size ≤ ko) (hk2 : ko < wx.heap.size)
  (xo : ∀ b, UsesT x b → b < w.heap.size) (yo : ∀ b, UsesT y b → b < w.heap.size) :
  JoinAt w wx ((w'.setCell ⟨ko, 0, none⟩ (.slice z2.a.1 z2.vals.length z2.a.2)).setCell ⟨ko, 1, none⟩ (.slice z2.b.1 z2.unk.length z2.b.2)) ko x y z2 (putT L (bareV v)) (k + 1) := by
 have hs := h.stays.size
 have hX := X.size
 have XE := X.trans E
 have us : ∀ b, UsesT z2 b → UsesT x b ∨ UsesT y b ∨ wx.heap.size ≤ b := fun b hb => by
  rcases q5 b hb with q | q | q
  · exact h.uses b q
  · exact uv b q
  · exact .inr (.inr (by omega))
 have ne : ∀ b, UsesT z2 b → b ≠ ko := fun b hb => by
  rcases us b hb with q | q | q
  · have := xo b q
    omega
  · have := yo b q
    omega
  · omega
 refine ⟨((h.stays.trans (Stays.of_ext XE)).set (p := ⟨ko, 0, none⟩) (fun e => e rfl) _).set (p := ⟨ko, 1, none⟩) (fun e => e rfl) _, ((h.ext.trans XE).setCell (p := ⟨ko, 0, none⟩) hk _).setCell (p := ⟨ko, 1, none⟩) hk _, ((h.out.up XE).set_ 0 _).set_ 1 _, ?_, us, ?_, ?_, ?_⟩
 · exact q3.stays (((Stays.refl (fun b => b ≠ ko) w').set (p := ⟨ko, 0, none⟩) (fun e => e rfl) _).set (p := ⟨ko, 1, none⟩) (fun e => e rfl) _) ne
 · rw [q1, h.vals]
 · rw [q2, h.unk]
 · have h1 := congrArg List.length q1
   have h2 := putT_length (z.vals.map bareV) (bareV v)
   have h3 := h.len
   rw [List.length_map] at h1 h2
   omega

structure JoinOk (M : MsgD) (x y : MsgR) : Prop where
 find : ∀ v ∈ y.vals, ∃ (i : Nat) (f : FieldD), M.fields[i]? = some f ∧ idxB (numP v.number) M.fields = (i : Int) ∧ M.fields.find? (fun g => g.number == v.number) = some f
 suby : ∀ v ∈ y.vals, ∀ f, M.fields.find? (fun g => g.number == v.number) = some f → f.rep = false → f.kind = 17 → 0 < v.subs.length
 subx : ∀ v ∈ x.vals, ∀ f, M.fields.find? (fun g => g.number == v.number) = some f → f.rep = false → f.kind = 17 → 0 < v.subs.length

theorem joinOne_none {sj : Nat → MsgT → MsgT → MsgT} {fs : List FieldD} {x : MsgR} {v : ValR} (h : idxB (fun u : ValR => u.number == v.number) x.vals = -1) : joinOne sj fs (x.vals.map bareV) (bareV v) = bareV v := by
 have h1 := find_of_idx.1 h
 have h2 : (x.vals.map bareV).find? (fun u => u.number == (bareV v).number) = none := by
  rw [List.find?_map]
  exact Option.map_eq_none_iff.2 h1
 unfold joinOne
 rw [h2]
 split
 · rename_i q1 q2
   cases q2
 · rfl

theorem joinOne_some {sj : Nat → MsgT → MsgT → MsgT} {fs : List FieldD} {x : MsgR} {u v : ValR} {f : FieldD} {j : Nat} (h : idxB (fun u : ValR => u.number == v.number) x.vals = (j : Int)) (hu : x.vals[j]? = some u) (hf : fs.find? (fun g => g.number == v.number) = some f) :
  joinOne sj fs (x.vals.map bareV) (bareV v) = joinU sj f (bareV u) (bareV v) := by
 have h1 := find_of_idx.2 j u h hu
 have h2 : (x.vals.map bareV).find? (fun u => u.number == (bareV v).number) = some (bareV u) := by
  rw [List.find?_map]
  exact Option.map_eq_some_iff.2 ⟨u, h1, rfl⟩
 have h3 : fs.find? (fun g => g.number == (bareV v).number) = some f := hf
 unfold joinOne
 rw [h2, h3]

theorem join_rows {wr w14 wq : World} {ka : Nat} {u v : ValR} {A0 A1 A2 : Option Addr} {c0 c1 c2 : Nat} (hu : ValAt w14 u) (hv : ValAt w14 v) (SQ : Stays (fun b => b ≠ ka) w14 wq) (hka : wr.heap.size ≤ ka) (uu : ∀ b, UsesV u b → b < wr.heap.size) (uw : ∀ b, UsesV v b → b < wr.heap.size)
  (o0 : Own wr wq 112 1 A0 (u.words.length + v.words.length) c0 (u.words.map uv ++ v.words.map uv)) (o1 : Own wr wq 9 1 A1 (u.texts.length + v.texts.length) c1 (u.texts.map strV ++ v.texts.map strV)) (o2 : Own wr wq 40 2 A2 (u.subs.length + v.subs.length) c2 (u.subs.flatMap treeC ++ v.subs.flatMap treeC)) :
  ∃ vq : ValR, (#[.int .i64 v.number, .slice A0 (u.words.length + v.words.length) c0, .slice A1 (u.texts.length + v.texts.length) c1, .slice A2 (u.subs.length + v.subs.length) c2] : Array Value) = #[.int .i64 vq.number, .slice vq.a.1 vq.words.length vq.a.2, .slice vq.b.1 vq.texts.length vq.b.2, .slice vq.c.1 vq.subs.length vq.c.2] ∧ bareV vq = ⟨(), (), (), v.number, u.words ++ v.words, u.texts ++ v.texts, u.subs.map bare ++ v.subs.map bare⟩ ∧ ValAt wq vq ∧ (∀ b, UsesV vq b → UsesV u b ∨ UsesV v b ∨ wr.heap.size ≤ b) ∧ vq.words.length = u.words.length + v.words.length ∧ vq.texts.length = u.texts.length + v.texts.length ∧ vq.subs.length = u.subs.length + v.subs.length := by
 refine ⟨⟨(A0, c0), (A1, c1), (A2, c2), v.number, u.words ++ v.words, u.texts ++ v.texts, u.subs ++ v.subs⟩, ?_, ?_, ⟨⟨hv.own.num, ?_, fun x hx => ?_, ⟨?_, fun x hx => ?_⟩, ?_⟩, fun y hy => ?_⟩, fun b hb => ?_, List.length_append, List.length_append, List.length_append⟩
 · simp only [List.length_append]
 · unfold bareV
   rw [List.map_append]
 · show Reads wq A0 (u.words ++ v.words).length c0 1 _
   rw [List.length_append, List.map_append]
   exact o0.reads
 · rcases List.mem_append.1 hx with h | h
   · exact hu.own.small x h
   · exact hv.own.small x h
 · show Reads wq A1 (u.texts ++ v.texts).length c1 1 _
   rw [List.length_append, List.map_append]
   exact o1.reads
 · rcases List.mem_append.1 hx with h | h
   · exact hu.own.texts.size x h
   · exact hv.own.texts.size x h
 · show Reads wq A2 (u.subs ++ v.subs).length c2 2 _
   rw [List.length_append, List.flatMap_append]
   exact o2.reads
 · rcases List.mem_append.1 hy with h | h
   · exact (hu.sub y h).stays SQ (fun b hb => by have := uu b (.inr ⟨y, h, hb⟩); omega)
   · exact (hv.sub y h).stays SQ (fun b hb => by have := uw b (.inr ⟨y, h, hb⟩); omega)
 · rcases hb with (q | q | q) | ⟨y, hy, q⟩
   · refine .inr (.inr (o0.uses_new (b := b) ?_))
     have q' : UsesA A0 (u.words ++ v.words).length b := q
     rwa [List.length_append] at q'
   · refine .inr (.inr (o1.uses_new (b := b) ?_))
     have q' : UsesA A1 (u.texts ++ v.texts).length b := q
     rwa [List.length_append] at q'
   · refine .inr (.inr (o2.uses_new (b := b) ?_))
     have q' : UsesA A2 (u.subs ++ v.subs).length b := q
     rwa [List.length_append] at q'
   · rcases List.mem_append.1 hy with h | h
     · exact .inl (.inr ⟨y, h, q⟩)
     · exact .inr (.inl (.inr ⟨y, h, q⟩))

theorem join_one {wr wq : World} {kr : Nat} {N : Int} {z : MsgR} (hN : -9223372036854775808 ≤ N ∧ N < 9223372036854775808) (hz : TreeAt wq z) (hr : Reads wq (some ⟨kr, 0, none⟩) 1 1 2 (treeC z)) (hkr : wr.heap.size ≤ kr) :
  ∃ vq : ValR, (#[.int .i64 N, .slice none 0 0, .slice none 0 0, .slice (some ⟨kr, 0, none⟩) 1 1] : Array Value) = #[.int .i64 vq.number, .slice vq.a.1 vq.words.length vq.a.2, .slice vq.b.1 vq.texts.length vq.b.2, .slice vq.c.1 vq.subs.length vq.c.2] ∧ bareV vq = ⟨(), (), (), N, [], [], [bare z]⟩ ∧ ValAt wq vq ∧ (∀ b, UsesV vq b → UsesT z b ∨ wr.heap.size ≤ b) ∧ vq.words.length = 0 ∧ vq.texts.length = 0 ∧ vq.subs.length = 1 := by
 refine ⟨⟨(none, 0), (none, 0), (some ⟨kr, 0, none⟩, 1), N, [], [], [z]⟩, rfl, rfl, ⟨⟨hN, Reads.nil _ _, (fun x hx => by cases hx), ⟨Reads.nil _ _, (fun x hx => by cases hx)⟩, ?_⟩, fun y hy => ?_⟩, fun b hb => ?_, rfl, rfl, rfl⟩
 · show Reads wq (some ⟨kr, 0, none⟩) 1 1 2 ([z].flatMap treeC)
   simpa using hr
 · rw [List.mem_singleton] at hy
   subst hy
   exact hz
 · rcases hb with (q | q | q) | ⟨y, hy, q⟩
   · exact absurd q.1 (Nat.lt_irrefl 0)
   · exact absurd q.1 (Nat.lt_irrefl 0)
   · obtain ⟨_, p, hp, rfl⟩ := q
     cases hp
     exact .inr hkr
   · rw [List.mem_singleton] at hy
     subst hy
     exact .inl q

set_option maxRecDepth 100000 in
set_option maxHeartbeats 8000000 in
theorem rJoinM {A : Option Addr} {n c m : Nat} {S : List MsgV} {M : MsgV} {x y : MsgR} {w : World} {sj : Nat → MsgT → MsgT → MsgT} (hs : SchemaAt w A n c S) (hm : m < n) (hM : S[m]? = some M) (hMn : M.n ≤ 1000000) (hx : TreeAt w x) (hy : TreeAt w y) (fx : FitT 100000000 x) (fy : FitT 100000000 y) (ok : JoinOk M.d x y)
  (hp : ∀ u ∈ x.vals, ∀ v ∈ y.vals, u.number = v.number → ∀ f, M.d.fields.find? (fun g => g.number == v.number) = some f → f.rep = false → f.kind = 17 → ∀ p ∈ u.subs, ∀ q ∈ v.subs, ∀ W, Ext w W → Calls Tryz.prog 14 #[.slice A n c, .int .i64 f.of_, treeV p, treeV q] W fun e W' => ∃ z, e = .returned (treeV z) ∧ bare z = sj f.of_.toNat (bare p) (bare q) ∧ TreeAt W' z ∧ (∀ b, UsesT z b → UsesT p b ∨ UsesT q b ∨ W.heap.size ≤ b) ∧ Ext W W') :
  Calls Tryz.prog 14 #[.slice A n c, .int .i64 (m : Int), treeV x, treeV y] w fun e w' => ∃ z, e = .returned (treeV z) ∧ z.vals.map bareV = (y.vals.map bareV).foldl (fun out v => putT out (joinOne sj M.d.fields (x.vals.map bareV) v)) (x.vals.map bareV) ∧ z.unk = x.unk ++ y.unk ∧ TreeAt w' z ∧ (∀ b, UsesT z b → UsesT x b ∨ UsesT y b ∨ w.heap.size ≤ b) ∧ Ext w w' := by
 have hcap := hs.1.cap
 have hmax := hs.1.max
 have xl := fx.vals
 have yl := fy.vals
 have xu := fx.unk
 have yu := fy.unk
 have ycap := hy.vals.cap
 have ymax := hy.vals.max
 unfold maxLen at hmax ymax
 obtain ⟨b1, off1, M', hSA, hM', hf, hnm, hb1, s0, s1⟩ := hs.msg (k := m) hm
 obtain rfl : M' = M := Option.some.inj (hM'.symm.trans hM)
 subst hSA
 have hfie := fun (W : World) (N I : Int) (h : Ext w W) (hi : idxB (numP N) M'.d.fields = I) => rFieldE (s := M'.d.name) (x := N) (hf.up h) (show M'.n ≤ 1000000000000 by omega) hi
 have hget := fun (W : World) (N I : Int) (h : Ext w W) (hi : idxB (fun u : ValR => u.number == N) x.vals = I) => (rGet (N := N) (hx.up h))
 have xo : ∀ b, UsesT x b → b < w.heap.size := fun b hb => hx.lt hb
 have yo : ∀ b, UsesT y b → b < w.heap.size := fun b hb => hy.lt hb
 have Hfie := Lib.hid hfie
 have Hget := Lib.hid hget
 have Hx := Lib.hid hx
 have Hy := Lib.hid hy
 have Hf := Lib.hid hf
 have Hp := Lib.hid hp
 have Ok := Lib.hid ok
 have Fx := Lib.hid fx
 have Fy := Lib.hid fy
 have Xo := Lib.hid xo
 have Yo := Lib.hid yo
 clear hfie hget hx hy hf hp ok fx fy xo yo hM hM' hs hnm
 unfold treeV
 go_enter Tryz.func14, Tryz.ntmps14
 go_wp2
 have BX := (((BlkT.new w 40 #[.slice x.a.1 x.vals.length x.a.2, .slice x.b.1 x.unk.length x.b.2] rfl).alloc (.cells #[.slice y.a.1 y.vals.length y.a.2, .slice y.b.1 y.unk.length y.b.2] 40)).alloc (.cells #[.slice none 0 0, .slice none 0 0] 40)).alloc (.cells #[.slice x.a.1 x.vals.length x.a.2, .slice x.b.1 x.unk.length x.b.2] 40)
 have BY := ((BlkT.new (w.alloc (.cells #[.slice x.a.1 x.vals.length x.a.2, .slice x.b.1 x.unk.length x.b.2] 40)) 40 #[.slice y.a.1 y.vals.length y.a.2, .slice y.b.1 y.unk.length y.b.2] (show w.heap.size + 1 = _ by simp)).alloc (.cells #[.slice none 0 0, .slice none 0 0] 40)).alloc (.cells #[.slice x.a.1 x.vals.length x.a.2, .slice x.b.1 x.unk.length x.b.2] 40)
 have BR := (BlkT.new ((w.alloc (.cells #[.slice x.a.1 x.vals.length x.a.2, .slice x.b.1 x.unk.length x.b.2] 40)).alloc (.cells #[.slice y.a.1 y.vals.length y.a.2, .slice y.b.1 y.unk.length y.b.2] 40)) 40 #[.slice none 0 0, .slice none 0 0] (show w.heap.size + 2 = _ by simp)).alloc (.cells #[.slice x.a.1 x.vals.length x.a.2, .slice x.b.1 x.unk.length x.b.2] 40)
 have BO := BlkT.new (((w.alloc (.cells #[.slice x.a.1 x.vals.length x.a.2, .slice x.b.1 x.unk.length x.b.2] 40)).alloc (.cells #[.slice y.a.1 y.vals.length y.a.2, .slice y.b.1 y.unk.length y.b.2] 40)).alloc (.cells #[.slice none 0 0, .slice none 0 0] 40)) 40 #[.slice x.a.1 x.vals.length x.a.2, .slice x.b.1 x.unk.length x.b.2] (show w.heap.size + 3 = _ by simp)
 have X0 : Ext w ((((w.alloc (.cells #[.slice x.a.1 x.vals.length x.a.2, .slice x.b.1 x.unk.length x.b.2] 40)).alloc (.cells #[.slice y.a.1 y.vals.length y.a.2, .slice y.b.1 y.unk.length y.b.2] 40)).alloc (.cells #[.slice none 0 0, .slice none 0 0] 40)).alloc (.cells #[.slice x.a.1 x.vals.length x.a.2, .slice x.b.1 x.unk.length x.b.2] 40)) := ((((Ext.refl w).alloc _).alloc _).alloc _).alloc _
 generalize (((w.alloc (.cells #[.slice x.a.1 x.vals.length x.a.2, .slice x.b.1 x.unk.length x.b.2] 40)).alloc (.cells #[.slice y.a.1 y.vals.length y.a.2, .slice y.b.1 y.unk.length y.b.2] 40)).alloc (.cells #[.slice none 0 0, .slice none 0 0] 40)).alloc (.cells #[.slice x.a.1 x.vals.length x.a.2, .slice x.b.1 x.unk.length x.b.2] 40) = wx at *
 have hko := BO.lt
 go_loopw [10, 11, 12, 13, 14] (fun i _ _ _ _ wr => ∃ (k : Nat) (z : MsgR), k ≤ y.vals.length ∧ i = .int .i64 (k : Int) ∧ JoinAt w wx wr (w.heap.size + 3) x y z (((y.vals.map bareV).take k).foldl (fun out v => putT out (joinOne sj M'.d.fields (x.vals.map bareV) v)) (x.vals.map bareV)) k) (fun i _ _ _ _ _ => y.vals.length - (intOf i).toNat)
 case atStart => exact ⟨0, x, Nat.zero_le _, rfl, ⟨Stays.refl _ _, X0, BO, Hx.out.up X0, fun b hb => .inl hb, rfl, rfl, by omega⟩⟩
 case round =>
  rename World => wr
  obtain ⟨k, z, hk, rfl, hJ⟩ := hrel
  have Xr := hJ.ext
  have BXr := BX.stays hJ.stays (show w.heap.size ≠ w.heap.size + 3 by omega)
  have BYr := BY.stays hJ.stays (show w.heap.size + 1 ≠ w.heap.size + 3 by omega)
  have y0 : wr.cell? ⟨w.heap.size + 1, 0, none⟩ = some (.slice y.a.1 y.vals.length y.a.2) := BYr.cell 0
  have ly := BYr.lt
  have HJ := Lib.hid hJ
  by_cases hlt : k < y.vals.length
  · have hltI : (k : Int) < y.vals.length := by omega
    obtain ⟨b5, off5, v, hA, hvk, hb5, e0, e1, e2, e3⟩ := valCells (Hy.out.vals.ext Xr) hlt
    have hvm := List.mem_of_getElem? hvk
    have Hvk := Lib.hid hvk
    rw [hA] at y0
    clear hvk hA hJ
    go_wp2
    have BV := BlkT.new wr 57 #[.int .i64 v.number, .slice v.a.1 v.words.length v.a.2, .slice v.b.1 v.texts.length v.b.2, .slice v.c.1 v.subs.length v.c.2] rfl
    have Xa : Ext wr (wr.alloc (.cells #[.int .i64 v.number, .slice v.a.1 v.words.length v.a.2, .slice v.b.1 v.texts.length v.b.2, .slice v.c.1 v.subs.length v.c.2] 57)) := (Ext.refl wr).alloc _
    generalize wr.alloc (.cells #[.int .i64 v.number, .slice v.a.1 v.words.length v.a.2, .slice v.b.1 v.texts.length v.b.2, .slice v.c.1 v.subs.length v.c.2] 57) = w11 at *
    have v0 : w11.cell? ⟨wr.heap.size, 0, none⟩ = some (.int .i64 v.number) := BV.cell 0
    have lv := BV.lt
    obtain ⟨i0, f, hfi, hix, hfind⟩ := Ok.out.find v hvm
    have hin : i0 < M'.n := by have := (List.getElem?_eq_some_iff.1 hfi).1; have := Hf.out.length; omega
    obtain ⟨b8, off8, f', hA8, hff, hok8, hb8, g0, g1, g2, g3, g4, g5⟩ := (Hf.out.up (Xr.trans Xa)).field hin
    obtain rfl : f' = f := Option.some.inj (hff.symm.trans hfi)
    have hf6 := fun W (h : Ext w11 W) => Hfie.out W v.number (i0 : Int) (Xr.trans (Xa.trans h)) hix
    have s0a := (Xr.trans Xa).of_cell s0
    have s1a := (Xr.trans Xa).of_cell s1
    have l1a := Nat.lt_of_lt_of_le hb1 (Xr.trans Xa).size
    rw [hA8] at hf6 s1a
    refine calm (fun _ _ _ hd h => ⟨hd, h.2⟩) (jreg6 (f := f') (num := v.number) hm hin s0a s1a g0 g1 g2 g3 g4 g5 v0 l1a hb8 lv (Lib.hid hf6) ?_)
    intro v28 v29 v30 v31 v32 v33 v34 v35 v36 v37 v38 v39 v40 v41 kb w12 X12 hkb BF
    clear g0 g1 g2 g3 g4 g5 hA8 hff hfi hf6 s0a s1a l1a hb8 v0 e0 e1 e2 e3 y0
    have z2 : w12.cell? ⟨kb, 2, none⟩ = some (.int .i64 f'.kind) := BF.cell 2
    have z3 : w12.cell? ⟨kb, 3, none⟩ = some (.bool f'.rep) := BF.cell 3
    have lb := BF.lt
    have X2 : Ext wr w12 := Xa.trans X12
    have BV2 := BV.up X12
    have BX2 := BXr.up X2
    have BO2 := HJ.out.out.up X2
    have u0 : w12.cell? ⟨wr.heap.size, 0, none⟩ = some (.int .i64 v.number) := BV2.cell 0
    have x0 : w12.cell? ⟨w.heap.size, 0, none⟩ = some (.slice x.a.1 x.vals.length x.a.2) := BX2.cell 0
    have x1 : w12.cell? ⟨w.heap.size, 1, none⟩ = some (.slice x.b.1 x.unk.length x.b.2) := BX2.cell 1
    have Hfind := Lib.hid hfind
    have Hix := Lib.hid hix
    clear hfind hix
    rcases idxB_cases (fun u : ValR => u.number == v.number) x.vals with ⟨hj, hno⟩ | ⟨j, u, hj, hu, hun, _⟩
    · have hjo : Hid (joinOne sj M'.d.fields (x.vals.map bareV) (bareV v) = bareV v) := joinOne_none hj
      have hg : ∀ W, Ext w W → Calls Tryz.prog 50 #[treeV x, .int .i64 v.number] W fun e W' => e = .returned (.int .i64 (-1)) ∧ Ext W W' := fun W h => by
       have := rGet (N := v.number) (Hx.out.up h)
       rwa [hj] at this
      unfold treeV at hg
      have Hg := Lib.hid hg
      clear hj hno hg
      go_wp2_with (go_at_call 50; refine (Hg.out _ (Xr.trans X2)).mono ?_; rintro e w13 ⟨rfl, E13⟩; have EQ : Ext wr w13 := X2.trans E13; have BOq := BO2.up E13; have BVq := BV2.up E13; have o0 : w13.cell? ⟨w.heap.size + 3, 0, none⟩ = some (.slice z.a.1 z.vals.length z.a.2) := BOq.cell 0; have o1 : w13.cell? ⟨w.heap.size + 3, 1, none⟩ = some (.slice z.b.1 z.unk.length z.b.2) := BOq.cell 1; have a0 : w13.cell? ⟨wr.heap.size, 0, none⟩ = some (.int .i64 v.number) := BVq.cell 0; have a1 : w13.cell? ⟨wr.heap.size, 1, none⟩ = some (.slice v.a.1 v.words.length v.a.2) := BVq.cell 1; have a2 : w13.cell? ⟨wr.heap.size, 2, none⟩ = some (.slice v.b.1 v.texts.length v.b.2) := BVq.cell 2; have a3 : w13.cell? ⟨wr.heap.size, 3, none⟩ = some (.slice v.c.1 v.subs.length v.c.2) := BVq.cell 3; have lo := BOq.lt; have la := BVq.lt)
      have hvq : ValAt w13 v := (Hy.out.val hvm).up (Xr.trans EQ)
      have uvq : ∀ b, UsesV v b → UsesT x b ∨ UsesT y b ∨ wx.heap.size ≤ b := fun b hb => .inr (.inl (UsesT.of_val hvm hb))
      have lq : v.words.length ≤ 1000000000 ∧ v.texts.length ≤ 1000000000 ∧ v.subs.length ≤ 1000000000 := by
       obtain ⟨l1, l2, l3⟩ := Fy.out.each v hvm
       exact ⟨by omega, by omega, by omega⟩
      have hput := jPut (x := z) (v := v) (w := w13) (HJ.out.at_.up EQ) hvq (by have := HJ.out.len; omega) lq.1 lq.2.1 lq.2.2
      unfold treeV tvalV at hput
      refine hput.mono ?_
      rintro e w20 ⟨z2, rfl, q1, q2, q3, q4, q5, q6⟩
      clear hput
      have BO20 := BOq.up q6
      have w0c : w20.cell? ⟨w.heap.size + 3, 0, none⟩ = some (.slice z.a.1 z.vals.length z.a.2) := BO20.cell 0
      have w1c : w20.cell? ⟨w.heap.size + 3, 1, none⟩ = some (.slice z.b.1 z.unk.length z.b.2) := BO20.cell 1
      have w0f := BO20.free 0
      have w1f := BO20.free 1
      have wl := BO20.lt
      have hmore := HJ.out.more EQ uvq q1 q2 q3 q5 q6 (show w.heap.size ≤ w.heap.size + 3 by omega) hko Xo.out Yo.out
      have hL : ((y.vals.map bareV).take (k + 1)).foldl (fun out v => putT out (joinOne sj M'.d.fields (x.vals.map bareV) v)) (x.vals.map bareV) = putT (((y.vals.map bareV).take k).foldl (fun out v => putT out (joinOne sj M'.d.fields (x.vals.map bareV) v)) (x.vals.map bareV)) (bareV v) := by
       rw [take_snoc _ _ (bareV v) (by rw [List.getElem?_map, Hvk.out]; rfl), List.foldl_append]
       show putT _ (joinOne sj M'.d.fields (x.vals.map bareV) (bareV v)) = _
       rw [hjo.out]
      rw [← hL] at hmore
      have HM := Lib.hid hmore
      clear hmore hL q1 q2 q3 q4 q5 hvq uvq lq
      go_wp2
      go_roundw
      case rel => exact ⟨k + 1, z2, by omega, by go_num, HM.out⟩
      case measure => simp [intOf]; omega
    · have hum := List.mem_of_getElem? hu
      have hjl : j < x.vals.length := (List.getElem?_eq_some_iff.1 hu).1
      have hun' : u.number = v.number := by simpa using hun
      have hjo0 := joinOne_some (sj := sj) hj hu Hfind.out
      have hg : ∀ W, Ext w W → Calls Tryz.prog 50 #[treeV x, .int .i64 v.number] W fun e W' => e = .returned (.int .i64 ((j : Int))) ∧ Ext W W' := fun W h => by
       have := rGet (N := v.number) (Hx.out.up h)
       rwa [hj] at this
      unfold treeV at hg
      have Hg := Lib.hid hg
      have jI : (j : Int) < x.vals.length := by omega
      have jJ : (0 : Int) ≤ (j : Int) := by omega
      have Hu := Lib.hid hu
      have Hj0 := Lib.hid hjo0
      have Hun := Lib.hid hun'
      clear hj hg hu hjo0 hun hun'
      rcases hrep : f'.rep with _ | _
      · by_cases h17 : f'.kind = 17
        · have t17 : (f'.kind == 17) = true := by rw [beq_iff_eq]; exact h17
          have Hr := Lib.hid hrep
          have H17 := Lib.hid h17
          rw [hrep] at z3
          clear hrep h17
          go_wp2_with (go_at_call 50; refine (Hg.out _ (Xr.trans X2)).mono ?_; rintro e w13 ⟨rfl, E13⟩; have EQ : Ext wr w13 := X2.trans E13; have BOq := BO2.up E13; have BVq := BV2.up E13; have o0 : w13.cell? ⟨w.heap.size + 3, 0, none⟩ = some (.slice z.a.1 z.vals.length z.a.2) := BOq.cell 0; have o1 : w13.cell? ⟨w.heap.size + 3, 1, none⟩ = some (.slice z.b.1 z.unk.length z.b.2) := BOq.cell 1; have a0 : w13.cell? ⟨wr.heap.size, 0, none⟩ = some (.int .i64 v.number) := BVq.cell 0; have a1 : w13.cell? ⟨wr.heap.size, 1, none⟩ = some (.slice v.a.1 v.words.length v.a.2) := BVq.cell 1; have a2 : w13.cell? ⟨wr.heap.size, 2, none⟩ = some (.slice v.b.1 v.texts.length v.b.2) := BVq.cell 2; have a3 : w13.cell? ⟨wr.heap.size, 3, none⟩ = some (.slice v.c.1 v.subs.length v.c.2) := BVq.cell 3; have lo := BOq.lt; have la := BVq.lt; obtain ⟨b9, off9, u', hA9, hu9, hb9, d0, d1, d2, d3⟩ := valCells (Hx.out.vals.ext (Xr.trans EQ)) hjl; obtain rfl : u' = u := Option.some.inj (hu9.symm.trans Hu.out); have x0' : w13.cell? ⟨w.heap.size, 0, none⟩ = some (.slice (some ⟨b9, off9, none⟩) x.vals.length x.a.2) := (by rw [← hA9]; exact E13.of_cell x0); have z2' := E13.of_cell z2; have z3' := E13.of_cell z3; have lb' := Nat.lt_of_lt_of_le lb E13.size; have BXq := BX2.up E13; have lx' := BXq.lt; have BFq := BF.up E13; clear hA9 hu9)
          have BU := BlkT.new w13 57 #[.int .i64 u'.number, .slice u'.a.1 u'.words.length u'.a.2, .slice u'.b.1 u'.texts.length u'.b.2, .slice u'.c.1 u'.subs.length u'.c.2] rfl
          have X14 : Ext w13 (w13.alloc (.cells #[.int .i64 u'.number, .slice u'.a.1 u'.words.length u'.a.2, .slice u'.b.1 u'.texts.length u'.b.2, .slice u'.c.1 u'.subs.length u'.c.2] 57)) := (Ext.refl w13).alloc _
          generalize w13.alloc (.cells #[.int .i64 u'.number, .slice u'.a.1 u'.words.length u'.a.2, .slice u'.b.1 u'.texts.length u'.b.2, .slice u'.c.1 u'.subs.length u'.c.2] 57) = w14 at *
          have E14 : Ext wr w14 := EQ.trans X14
          have hu14 : ValAt w14 u' := (Hx.out.val hum).up (Xr.trans E14)
          have hv14 : ValAt w14 v := (Hy.out.val hvm).up (Xr.trans E14)
          have su := Ok.out.subx u' hum f' (by rw [Hun.out]; exact Hfind.out) Hr.out H17.out
          have sv := Ok.out.suby v hvm f' Hfind.out Hr.out H17.out
          obtain ⟨bu, ou, p, hAu, hpu, hbu, p0, p1⟩ := treeCells hu14.own.subs (k := 0) su
          obtain ⟨bv_, ov, q, hAv, hqv, hbv, q0, q1⟩ := treeCells hv14.own.subs (k := 0) sv
          simp only [Nat.zero_mul, Nat.add_zero] at p0 p1 q0 q1
          have hpm := List.mem_of_getElem? hpu
          have hqm := List.mem_of_getElem? hqv
          have BV14 := BVq.up X14
          rw [hAv] at BV14
          have BU2 := BU
          rw [hAu] at BU2
          have hws := X12.size
          have hws2 := E14.size
          have hwl : wr.heap.size < w14.heap.size := (BVq.up X14).lt
          have hcall : ∀ W, Ext w14 W → Calls Tryz.prog 14 #[.slice (some ⟨b1, off1, none⟩) n c, .int .i64 f'.of_, treeV p, treeV q] W fun e W' => ∃ g, e = .returned (treeV g) ∧ (bare g = sj f'.of_.toNat (bare p) (bare q) ∧ ∀ b, UsesT g b → UsesT p b ∨ UsesT q b ∨ w14.heap.size ≤ b) ∧ TreeAt W' g ∧ (∀ b, UsesT g b → b ≠ wr.heap.size ∧ (b < wr.heap.size ∨ W.heap.size ≤ b)) ∧ Ext W W' := fun W h => by
           refine (Hp.out u' hum v hvm Hun.out f' Hfind.out Hr.out H17.out p hpm q hqm W (Xr.trans (E14.trans h))).mono ?_
           rintro e w' ⟨g, rfl, g1, g2, g3, g4⟩
           have hW := h.size
           refine ⟨g, rfl, ⟨g1, fun b hb => (g3 b hb).imp id (fun r => r.imp id (fun r => Nat.le_trans hW r))⟩, g2, fun b hb => ?_, g4⟩
           have hw := Xr.size
           rcases g3 b hb with q | q | q
           · have := Xo.out b (UsesT.of_val hum (.inr ⟨_, hpm, q⟩))
             omega
           · have := Yo.out b (UsesT.of_val hvm (.inr ⟨_, hqm, q⟩))
             omega
           · omega
          unfold treeV at hcall
          refine calm (fun _ _ _ hd h => ⟨hd, h.2⟩) (jreg13 (w0 := wr) (u := u') (v := v) (x := p) (y := q) (PJ := fun g => bare g = sj f'.of_.toNat (bare p) (bare q) ∧ ∀ b, UsesT g b → UsesT p b ∨ UsesT q b ∨ w14.heap.size ≤ b) E14 (Nat.le_refl _) BV14 ((BFq.up X14).cell 5) (BU2.cell 3) p0 p1 q0 q1 su sv (Lib.hid hcall) ?_)
          intro v82 v83 v84 v85 v86 v87 v88 v89 v90 v91 v92 v93 v94 v95 v96 v97 g kr wq EQ2 SQ BQ g1 g2 g3 g4 g5
          obtain ⟨vq, hcell, hbare, hvq, hus, n1, n2, n3⟩ := join_one (wr := wr) (N := v.number) hv14.own.num g2 g4 (by omega)
          have uvq : ∀ b, UsesV vq b → UsesT x b ∨ UsesT y b ∨ wx.heap.size ≤ b := fun b hb => by
           have hw := HJ.out.stays.size
           rcases hus b hb with r | r
           · rcases g1.2 b r with r | r | r
             · exact .inl (UsesT.of_val hum (.inr ⟨_, hpm, r⟩))
             · exact .inr (.inl (UsesT.of_val hvm (.inr ⟨_, hqm, r⟩)))
             · exact .inr (.inr (by omega))
           · exact .inr (.inr (by omega))
          have lq : vq.words.length ≤ 1000000000 ∧ vq.texts.length ≤ 1000000000 ∧ vq.subs.length ≤ 1000000000 := ⟨by omega, by omega, by omega⟩
          have hhu : (bareV u').subs.headD (.mk () () [] []) = bare p := by
           show (u'.subs.map bare).headD _ = _
           rcases hl : u'.subs with _ | ⟨a, l⟩
           · rw [hl] at hpu
             cases hpu
           · rw [hl] at hpu
             cases hpu
             rfl
          have hhv : (bareV v).subs.headD (.mk () () [] []) = bare q := by
           show (v.subs.map bare).headD _ = _
           rcases hl : v.subs with _ | ⟨a, l⟩
           · rw [hl] at hqv
             cases hqv
           · rw [hl] at hqv
             cases hqv
             rfl
          have hjo : Hid (joinOne sj M'.d.fields (x.vals.map bareV) (bareV v) = bareV vq) := by
           show _ = _
           rw [Hj0.out, hbare]
           unfold joinU
           rw [if_neg (by rw [Hr.out]; decide), if_pos H17.out, hhu, hhv, g1.1]
           rfl
          clear g1 g2 g3 g4 g5 n1 n2 n3 hus hhu hhv hcall BU2 BV14 p0 p1 q0 q1 hpm hqm hAu hAv hpu hqv hbu hbv su sv hu14 hv14 o0 o1 a0 a1 a2 a3 lo la d0 d1 d2 d3 x0' z2' z3' BU
          rw [hcell] at BQ
          have BOq2 := (BOq.up X14).stays SQ (show w.heap.size + 3 ≠ wr.heap.size by have := HJ.out.stays.size; omega)
          clear BOq EQ
          have BOq := BOq2
          have EQ := EQ2
          have o0 : wq.cell? ⟨w.heap.size + 3, 0, none⟩ = some (.slice z.a.1 z.vals.length z.a.2) := BOq.cell 0
          have o1 : wq.cell? ⟨w.heap.size + 3, 1, none⟩ = some (.slice z.b.1 z.unk.length z.b.2) := BOq.cell 1
          have a0 : wq.cell? ⟨wr.heap.size, 0, none⟩ = some (.int .i64 vq.number) := BQ.cell 0
          have a1 : wq.cell? ⟨wr.heap.size, 1, none⟩ = some (.slice vq.a.1 vq.words.length vq.a.2) := BQ.cell 1
          have a2 : wq.cell? ⟨wr.heap.size, 2, none⟩ = some (.slice vq.b.1 vq.texts.length vq.b.2) := BQ.cell 2
          have a3 : wq.cell? ⟨wr.heap.size, 3, none⟩ = some (.slice vq.c.1 vq.subs.length vq.c.2) := BQ.cell 3
          have lo := BOq.lt
          have la := BQ.lt

          have Hvq := Lib.hid hvq
          have Huv := Lib.hid uvq
          have Hlq := Lib.hid lq
          clear hvq uvq lq hcell hbare SQ BOq2 EQ2
          go_wp2_with fail
          have hvq := Hvq.out
          have uvq := Huv.out
          have lq := Hlq.out
          have hput := jPut (x := z) (v := vq) (w := wq) (HJ.out.at_.up EQ) hvq (by have := HJ.out.len; omega) lq.1 lq.2.1 lq.2.2
          unfold treeV tvalV at hput
          refine hput.mono ?_
          rintro e w20 ⟨z2, rfl, q1, q2, q3, q4, q5, q6⟩
          clear hput
          have BO20 := BOq.up q6
          have w0c : w20.cell? ⟨w.heap.size + 3, 0, none⟩ = some (.slice z.a.1 z.vals.length z.a.2) := BO20.cell 0
          have w1c : w20.cell? ⟨w.heap.size + 3, 1, none⟩ = some (.slice z.b.1 z.unk.length z.b.2) := BO20.cell 1
          have w0f := BO20.free 0
          have w1f := BO20.free 1
          have wl := BO20.lt
          have hmore := HJ.out.more EQ uvq q1 q2 q3 q5 q6 (show w.heap.size ≤ w.heap.size + 3 by omega) hko Xo.out Yo.out
          have hL : ((y.vals.map bareV).take (k + 1)).foldl (fun out v => putT out (joinOne sj M'.d.fields (x.vals.map bareV) v)) (x.vals.map bareV) = putT (((y.vals.map bareV).take k).foldl (fun out v => putT out (joinOne sj M'.d.fields (x.vals.map bareV) v)) (x.vals.map bareV)) (bareV vq) := by
           rw [take_snoc _ _ (bareV v) (by rw [List.getElem?_map, Hvk.out]; rfl), List.foldl_append]
           show putT _ (joinOne sj M'.d.fields (x.vals.map bareV) (bareV v)) = _
           rw [hjo.out]
          rw [← hL] at hmore
          have HM := Lib.hid hmore
          clear hmore hL q1 q2 q3 q4 q5 hvq uvq lq
          go_wp2
          go_roundw
          case rel => exact ⟨k + 1, z2, by omega, by go_num, HM.out⟩
          case measure => simp [intOf]; omega
        · have t17 : (f'.kind == 17) = false := by rw [beq_eq_false_iff_ne]; exact h17
          have hjo : Hid (joinOne sj M'.d.fields (x.vals.map bareV) (bareV v) = bareV v) := by
           show _ = _
           rw [Hj0.out]
           unfold joinU
           rw [if_neg (by rw [hrep]; decide), if_neg h17]
          rw [hrep] at z3
          clear hrep h17
          go_wp2_with (go_at_call 50; refine (Hg.out _ (Xr.trans X2)).mono ?_; rintro e w13 ⟨rfl, E13⟩; have EQ : Ext wr w13 := X2.trans E13; have BOq := BO2.up E13; have BVq := BV2.up E13; have o0 : w13.cell? ⟨w.heap.size + 3, 0, none⟩ = some (.slice z.a.1 z.vals.length z.a.2) := BOq.cell 0; have o1 : w13.cell? ⟨w.heap.size + 3, 1, none⟩ = some (.slice z.b.1 z.unk.length z.b.2) := BOq.cell 1; have a0 : w13.cell? ⟨wr.heap.size, 0, none⟩ = some (.int .i64 v.number) := BVq.cell 0; have a1 : w13.cell? ⟨wr.heap.size, 1, none⟩ = some (.slice v.a.1 v.words.length v.a.2) := BVq.cell 1; have a2 : w13.cell? ⟨wr.heap.size, 2, none⟩ = some (.slice v.b.1 v.texts.length v.b.2) := BVq.cell 2; have a3 : w13.cell? ⟨wr.heap.size, 3, none⟩ = some (.slice v.c.1 v.subs.length v.c.2) := BVq.cell 3; have lo := BOq.lt; have la := BVq.lt; obtain ⟨b9, off9, u', hA9, hu9, hb9, d0, d1, d2, d3⟩ := valCells (Hx.out.vals.ext (Xr.trans EQ)) hjl; obtain rfl : u' = u := Option.some.inj (hu9.symm.trans Hu.out); have x0' : w13.cell? ⟨w.heap.size, 0, none⟩ = some (.slice (some ⟨b9, off9, none⟩) x.vals.length x.a.2) := (by rw [← hA9]; exact E13.of_cell x0); have z2' := E13.of_cell z2; have z3' := E13.of_cell z3; have lb' := Nat.lt_of_lt_of_le lb E13.size; have BXq := BX2.up E13; have lx' := BXq.lt; have BFq := BF.up E13; clear hA9 hu9)
          have X14 : Ext w13 (w13.alloc (.cells #[.int .i64 u'.number, .slice u'.a.1 u'.words.length u'.a.2, .slice u'.b.1 u'.texts.length u'.b.2, .slice u'.c.1 u'.subs.length u'.c.2] 57)) := (Ext.refl w13).alloc _
          generalize w13.alloc (.cells #[.int .i64 u'.number, .slice u'.a.1 u'.words.length u'.a.2, .slice u'.b.1 u'.texts.length u'.b.2, .slice u'.c.1 u'.subs.length u'.c.2] 57) = w14 at *
          replace EQ := EQ.trans X14
          replace BOq := BOq.up X14
          have hvq : ValAt w14 v := (Hy.out.val hvm).up (Xr.trans EQ)
          have uvq : ∀ b, UsesV v b → UsesT x b ∨ UsesT y b ∨ wx.heap.size ≤ b := fun b hb => .inr (.inl (UsesT.of_val hvm hb))
          have lq : v.words.length ≤ 1000000000 ∧ v.texts.length ≤ 1000000000 ∧ v.subs.length ≤ 1000000000 := by
           obtain ⟨l1, l2, l3⟩ := Fy.out.each v hvm
           exact ⟨by omega, by omega, by omega⟩
          have hput := jPut (x := z) (v := v) (w := w14) (HJ.out.at_.up EQ) hvq (by have := HJ.out.len; omega) lq.1 lq.2.1 lq.2.2
          unfold treeV tvalV at hput
          refine hput.mono ?_
          rintro e w20 ⟨z2, rfl, q1, q2, q3, q4, q5, q6⟩
          clear hput
          have BO20 := BOq.up q6
          have w0c : w20.cell? ⟨w.heap.size + 3, 0, none⟩ = some (.slice z.a.1 z.vals.length z.a.2) := BO20.cell 0
          have w1c : w20.cell? ⟨w.heap.size + 3, 1, none⟩ = some (.slice z.b.1 z.unk.length z.b.2) := BO20.cell 1
          have w0f := BO20.free 0
          have w1f := BO20.free 1
          have wl := BO20.lt
          have hmore := HJ.out.more EQ uvq q1 q2 q3 q5 q6 (show w.heap.size ≤ w.heap.size + 3 by omega) hko Xo.out Yo.out
          have hL : ((y.vals.map bareV).take (k + 1)).foldl (fun out v => putT out (joinOne sj M'.d.fields (x.vals.map bareV) v)) (x.vals.map bareV) = putT (((y.vals.map bareV).take k).foldl (fun out v => putT out (joinOne sj M'.d.fields (x.vals.map bareV) v)) (x.vals.map bareV)) (bareV v) := by
           rw [take_snoc _ _ (bareV v) (by rw [List.getElem?_map, Hvk.out]; rfl), List.foldl_append]
           show putT _ (joinOne sj M'.d.fields (x.vals.map bareV) (bareV v)) = _
           rw [hjo.out]
          rw [← hL] at hmore
          have HM := Lib.hid hmore
          clear hmore hL q1 q2 q3 q4 q5 hvq uvq lq
          go_wp2
          go_roundw
          case rel => exact ⟨k + 1, z2, by omega, by go_num, HM.out⟩
          case measure => simp [intOf]; omega
      · have hjo := Hj0.out
        rw [hrep] at z3
        have Hr := Lib.hid hrep
        clear hrep
        go_wp2_with (go_at_call 50; refine (Hg.out _ (Xr.trans X2)).mono ?_; rintro e w13 ⟨rfl, E13⟩; have EQ : Ext wr w13 := X2.trans E13; have BOq := BO2.up E13; have BVq := BV2.up E13; have o0 : w13.cell? ⟨w.heap.size + 3, 0, none⟩ = some (.slice z.a.1 z.vals.length z.a.2) := BOq.cell 0; have o1 : w13.cell? ⟨w.heap.size + 3, 1, none⟩ = some (.slice z.b.1 z.unk.length z.b.2) := BOq.cell 1; have a0 : w13.cell? ⟨wr.heap.size, 0, none⟩ = some (.int .i64 v.number) := BVq.cell 0; have a1 : w13.cell? ⟨wr.heap.size, 1, none⟩ = some (.slice v.a.1 v.words.length v.a.2) := BVq.cell 1; have a2 : w13.cell? ⟨wr.heap.size, 2, none⟩ = some (.slice v.b.1 v.texts.length v.b.2) := BVq.cell 2; have a3 : w13.cell? ⟨wr.heap.size, 3, none⟩ = some (.slice v.c.1 v.subs.length v.c.2) := BVq.cell 3; have lo := BOq.lt; have la := BVq.lt; obtain ⟨b9, off9, u', hA9, hu9, hb9, d0, d1, d2, d3⟩ := valCells (Hx.out.vals.ext (Xr.trans EQ)) hjl; obtain rfl : u' = u := Option.some.inj (hu9.symm.trans Hu.out); have x0' : w13.cell? ⟨w.heap.size, 0, none⟩ = some (.slice (some ⟨b9, off9, none⟩) x.vals.length x.a.2) := (by rw [← hA9]; exact E13.of_cell x0); have z2' := E13.of_cell z2; have z3' := E13.of_cell z3; have lb' := Nat.lt_of_lt_of_le lb E13.size; have BXq := BX2.up E13; have lx' := BXq.lt; have BFq := BF.up E13; clear hA9 hu9)
        have BU := BlkT.new w13 57 #[.int .i64 u'.number, .slice u'.a.1 u'.words.length u'.a.2, .slice u'.b.1 u'.texts.length u'.b.2, .slice u'.c.1 u'.subs.length u'.c.2] rfl
        have X14 : Ext w13 (w13.alloc (.cells #[.int .i64 u'.number, .slice u'.a.1 u'.words.length u'.a.2, .slice u'.b.1 u'.texts.length u'.b.2, .slice u'.c.1 u'.subs.length u'.c.2] 57)) := (Ext.refl w13).alloc _
        generalize w13.alloc (.cells #[.int .i64 u'.number, .slice u'.a.1 u'.words.length u'.a.2, .slice u'.b.1 u'.texts.length u'.b.2, .slice u'.c.1 u'.subs.length u'.c.2] 57) = w14 at *
        have E14 : Ext wr w14 := EQ.trans X14
        have hu14 : ValAt w14 u' := (Hx.out.val hum).up (Xr.trans E14)
        have hv14 : ValAt w14 v := (Hy.out.val hvm).up (Xr.trans E14)
        have uu : ∀ b, UsesV u' b → b < wr.heap.size := fun b hb => by have := Xo.out b (UsesT.of_val hum hb); have := Xr.size; omega
        have uw : ∀ b, UsesV v b → b < wr.heap.size := fun b hb => by have := Yo.out b (UsesT.of_val hvm hb); have := Xr.size; omega
        obtain ⟨l1, l2, l3⟩ := Fx.out.each u' hum
        obtain ⟨m1, m2, m3⟩ := Fy.out.each v hvm
        refine calm (fun _ _ _ hd h => ⟨hd, h.2⟩) (jreg11 (w0 := wr) (u := u') (v := v) E14 (Nat.le_refl _) (BVq.up X14) hu14 hv14 BU ⟨by omega, by omega, by omega⟩ ⟨by omega, by omega, by omega⟩ ?_)
        intro v55 v56 v57 v58 v59 v60 v61 v62 v63 v64 v65 v66 v67 v68 v69 v70 v71 v72 v73 v74 v75 v76 v77 v78 A0 A1 A2 c0 c1 c2 wq EQ2 SQ BQ r0 r1 r2
        obtain ⟨vq, hcell, hbare, hvq, hus, n1, n2, n3⟩ := join_rows hu14 hv14 SQ (Nat.le_refl _) uu uw r0 r1 r2
        have uvq : ∀ b, UsesV vq b → UsesT x b ∨ UsesT y b ∨ wx.heap.size ≤ b := fun b hb => by
         rcases hus b hb with q | q | q
         · exact .inl (UsesT.of_val hum q)
         · exact .inr (.inl (UsesT.of_val hvm q))
         · have := HJ.out.stays.size
           exact .inr (.inr (by omega))
        have lq : vq.words.length ≤ 1000000000 ∧ vq.texts.length ≤ 1000000000 ∧ vq.subs.length ≤ 1000000000 := ⟨by omega, by omega, by omega⟩
        clear r0 r1 r2 n1 n2 n3 hus l1 l2 l3 m1 m2 m3 uu uw hu14 hv14 o0 o1 a0 a1 a2 a3 lo la d0 d1 d2 d3 x0' z2' z3' BU
        rw [hcell] at BQ
        have BOq2 := (BOq.up X14).stays SQ (show w.heap.size + 3 ≠ wr.heap.size by have := HJ.out.stays.size; omega)
        clear BOq EQ
        have BOq := BOq2
        have EQ := EQ2
        have o0 : wq.cell? ⟨w.heap.size + 3, 0, none⟩ = some (.slice z.a.1 z.vals.length z.a.2) := BOq.cell 0
        have o1 : wq.cell? ⟨w.heap.size + 3, 1, none⟩ = some (.slice z.b.1 z.unk.length z.b.2) := BOq.cell 1
        have a0 : wq.cell? ⟨wr.heap.size, 0, none⟩ = some (.int .i64 vq.number) := BQ.cell 0
        have a1 : wq.cell? ⟨wr.heap.size, 1, none⟩ = some (.slice vq.a.1 vq.words.length vq.a.2) := BQ.cell 1
        have a2 : wq.cell? ⟨wr.heap.size, 2, none⟩ = some (.slice vq.b.1 vq.texts.length vq.b.2) := BQ.cell 2
        have a3 : wq.cell? ⟨wr.heap.size, 3, none⟩ = some (.slice vq.c.1 vq.subs.length vq.c.2) := BQ.cell 3
        have lo := BOq.lt
        have la := BQ.lt
        have hjo : Hid (joinOne sj M'.d.fields (x.vals.map bareV) (bareV v) = bareV vq) := by
         show _ = _
         rw [Hj0.out, hbare]
         unfold joinU
         rw [if_pos Hr.out]
         rfl
        have Hvq := Lib.hid hvq
        have Huv := Lib.hid uvq
        have Hlq := Lib.hid lq
        clear hvq uvq lq hcell hbare SQ BOq2 EQ2
        go_wp2_with fail
        have hvq := Hvq.out
        have uvq := Huv.out
        have lq := Hlq.out
        have hput := jPut (x := z) (v := vq) (w := wq) (HJ.out.at_.up EQ) hvq (by have := HJ.out.len; omega) lq.1 lq.2.1 lq.2.2
        unfold treeV tvalV at hput
        refine hput.mono ?_
        rintro e w20 ⟨z2, rfl, q1, q2, q3, q4, q5, q6⟩
        clear hput
        have BO20 := BOq.up q6
        have w0c : w20.cell? ⟨w.heap.size + 3, 0, none⟩ = some (.slice z.a.1 z.vals.length z.a.2) := BO20.cell 0
        have w1c : w20.cell? ⟨w.heap.size + 3, 1, none⟩ = some (.slice z.b.1 z.unk.length z.b.2) := BO20.cell 1
        have w0f := BO20.free 0
        have w1f := BO20.free 1
        have wl := BO20.lt
        have hmore := HJ.out.more EQ uvq q1 q2 q3 q5 q6 (show w.heap.size ≤ w.heap.size + 3 by omega) hko Xo.out Yo.out
        have hL : ((y.vals.map bareV).take (k + 1)).foldl (fun out v => putT out (joinOne sj M'.d.fields (x.vals.map bareV) v)) (x.vals.map bareV) = putT (((y.vals.map bareV).take k).foldl (fun out v => putT out (joinOne sj M'.d.fields (x.vals.map bareV) v)) (x.vals.map bareV)) (bareV vq) := by
         rw [take_snoc _ _ (bareV v) (by rw [List.getElem?_map, Hvk.out]; rfl), List.foldl_append]
         show putT _ (joinOne sj M'.d.fields (x.vals.map bareV) (bareV v)) = _
         rw [hjo.out]
        rw [← hL] at hmore
        have HM := Lib.hid hmore
        clear hmore hL q1 q2 q3 q4 q5 hvq uvq lq
        go_wp2
        go_roundw
        case rel => exact ⟨k + 1, z2, by omega, by go_num, HM.out⟩
        case measure => simp [intOf]; omega
  · have hge : ¬ ((k : Int) < (y.vals.length : Int)) := by omega
    have hkl : k = y.vals.length := by omega
    have X1 : wr.cell? ⟨w.heap.size, 1, none⟩ = some (.slice x.b.1 x.unk.length x.b.2) := BXr.cell 1
    have Y1 : wr.cell? ⟨w.heap.size + 1, 1, none⟩ = some (.slice y.b.1 y.unk.length y.b.2) := BYr.cell 1
    have BRr := BR.stays hJ.stays (show w.heap.size + 2 ≠ w.heap.size + 3 by omega)
    have Hkl := Lib.hid hkl
    clear hkl hJ
    go_wp2
    refine calm (fun _ _ _ hd h => ⟨hd, h.2⟩) (jreg15 (w0 := w) (x := x) (y := y) (z := z) Xr (show w.heap.size ≤ w.heap.size + 3 by omega) HJ.out.out (Hx.out.unk.up Xr) (Hy.out.unk.up Xr) X1 Y1 (by omega) (by omega) ?_)
    intro v101 v102 v103 v104 v105 v106 v107 v108 A0 c0 wz EZ SZ BZ oz
    have BRz := BRr.stays SZ (show w.heap.size + 2 ≠ w.heap.size + 3 by omega)
    have o0 : wz.cell? ⟨w.heap.size + 3, 0, none⟩ = some (.slice z.a.1 z.vals.length z.a.2) := BZ.cell 0
    have o1 : wz.cell? ⟨w.heap.size + 3, 1, none⟩ = some (.slice A0 (x.unk.length + y.unk.length) c0) := BZ.cell 1
    have r0 : wz.cell? ⟨w.heap.size + 2, 0, none⟩ = some (.slice none 0 0) := BRz.cell 0
    have r1 : wz.cell? ⟨w.heap.size + 2, 1, none⟩ = some (.slice none 0 0) := BRz.cell 1
    have f0 := BRz.free 0
    have f1 := BRz.free 1
    have lr := BRz.lt
    have lz := BZ.lt
    have HSZ := Lib.hid SZ
    clear SZ
    go_wp2
    (try simp only [Exit.inBlock, Exit.then])
    have BF := (BRz.set_ 0 (.slice z.a.1 z.vals.length z.a.2)).set_ 1 (.slice A0 (x.unk.length + y.unk.length) c0)
    refine bodyPost_ret (results_cell_row (ty := 40) rfl _ _ (w.heap.size + 2) _ _ (0, 0) _ rfl BF Tryz.underlying40 rfl (by kernel_rfl)) rfl ?_
    have h2 : w.heap.size ≤ w.heap.size + 2 := by omega
    have EF := (EZ.setCell (p := ⟨w.heap.size + 2, 0, none⟩) h2 (.slice z.a.1 z.vals.length z.a.2)).setCell (p := ⟨w.heap.size + 2, 1, none⟩) h2 (.slice A0 (x.unk.length + y.unk.length) c0)
    have of1 := (oz.far BRz (by decide) h2 0 (.slice z.a.1 z.vals.length z.a.2)).far (BRz.set_ 0 (.slice z.a.1 z.vals.length z.a.2)) (by decide) h2 1 (.slice A0 (x.unk.length + y.unk.length) c0)
    have hSF := (((HSZ.out.less (t := fun b => b ≠ w.heap.size + 3 ∧ b ≠ w.heap.size + 2) (fun b h => h.1)).set (p := ⟨w.heap.size + 2, 0, none⟩) (fun h => h.2 rfl) (.slice z.a.1 z.vals.length z.a.2)).set (p := ⟨w.heap.size + 2, 1, none⟩) (fun h => h.2 rfl) (.slice A0 (x.unk.length + y.unk.length) c0))
    have hne : ∀ b, UsesT z b → b ≠ w.heap.size + 3 ∧ b ≠ w.heap.size + 2 := fun b hb => by
     rcases HJ.out.uses b hb with q | q | q
     · have := Xo.out b q
       omega
     · have := Yo.out b q
       omega
     · omega
    refine ⟨.mk z.a (A0, c0) z.vals (x.unk ++ y.unk), ?_, ?_, rfl, TreeAt.of ?_ ⟨?_, fun t ht => ?_⟩ (fun u hu => ?_), fun b hb => ?_, EF⟩
    · show Ending.returned (Value.agg #[.slice z.a.1 z.vals.length z.a.2, .slice A0 (x.unk.length + y.unk.length) c0]) = Ending.returned (Value.agg #[.slice z.a.1 z.vals.length z.a.2, .slice A0 (x.unk ++ y.unk).length c0])
      rw [List.length_append]
    · show z.vals.map bareV = _
      rw [HJ.out.vals, Hkl.out, List.take_of_length_le (by rw [List.length_map]; exact Nat.le_refl _)]
    · exact HJ.out.at_.vals.stays hSF (fun b hb => hne b (.vals hb))
    · show Reads _ A0 (x.unk ++ y.unk).length c0 1 ((x.unk ++ y.unk).map strV)
      rw [List.length_append, List.map_append]
      exact of1.reads
    · rcases List.mem_append.1 ht with h | h
      · exact Hx.out.unk.size t h
      · exact Hy.out.unk.size t h
    · exact (HJ.out.at_.val hu).stays hSF (fun b hb => hne b (UsesT.of_val hu hb))
    · rcases hb.cases' with q | q | ⟨u, hu, q⟩
      · have := X0.size
        exact (HJ.out.uses b (.vals q)).imp id (fun r => r.imp id (fun r => by omega))
      · refine .inr (.inr (of1.uses_new (b := b) ?_))
        have q' : UsesA A0 (x.unk ++ y.unk).length b := q
        rwa [List.length_append] at q'
      · have := X0.size
        exact (HJ.out.uses b (UsesT.of_val hu q)).imp id (fun r => r.imp id (fun r => by omega))

end Go.Proofs.YtnnphodgegcddaaGreat
