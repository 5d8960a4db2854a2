/- Contracts of layer 15: two right meanings of any depth, joined, as the reference has it. -/
import Derived.Test.YtnnphodgegcddaaGreatQcW29

namespace Go.Proofs.YtnnphodgegcddaaGreat
open Go.RowKit Go.Shelf
set_option linter.unusedVariables false

theorem one_sub {rs : Nat → MsgT → Prop} {f : FieldD} {v : ValR} (h : RightF rs f (bareV v)) (hr : f.rep = false) (h17 : f.kind = 17) : 0 < v.subs.length := by
 obtain ⟨_, _, h1, h2⟩ := h
 have h1 := h1 hr
 unfold manyU at h1
 have n17 : numberB 17 = false := by decide
 rcases h2 with ⟨q, _⟩ | ⟨_, _, q, _⟩ | ⟨_, q1, q2, _⟩
 · rw [h17, n17] at q
   cases q
 · exact absurd h17 q
 · rw [q1, q2] at h1
   have h3 : (bareV v).subs.length = 1 := by simpa using h1
   have h4 : (bareV v).subs = v.subs.map bare := rfl
   rw [h4, List.length_map] at h3
   omega

theorem sub_right {rs : Nat → MsgT → Prop} {f : FieldD} {v : ValR} (h : RightF rs f (bareV v)) (h17 : f.kind = 17) : ∀ y ∈ v.subs, rs f.of_.toNat (bare y) := by
 obtain ⟨_, _, _, h2⟩ := h
 have n17 : numberB 17 = false := by decide
 rcases h2 with ⟨q, _⟩ | ⟨_, _, q, _⟩ | ⟨_, _, _, q⟩
 · rw [h17, n17] at q
   cases q
 · exact absurd h17 q
 · exact fun y hy => q (bare y) (List.mem_map_of_mem hy)

theorem rJoinJ {A : Option Addr} {n c m : Nat} {S : List MsgV} {x y : MsgR} {w : World} {rs : Nat → MsgT → Prop} {sj : Nat → MsgT → MsgT → MsgT} (hR : rightS (S.map MsgV.d) = true) (hs : SchemaAt w A n c S) (hx : TreeAt w x) (hy : TreeAt w y) (fx : FitT 100000000 x) (fy : FitT 100000000 y)
  (rx : RightJ rs (S.map MsgV.d) m (bare x)) (ry : RightJ rs (S.map MsgV.d) m (bare y))
  (hc : ∀ (o : Nat) (p q : MsgR) (W : World), Ext w W → TreeAt w p → TreeAt w q → FitT 100000000 p → FitT 100000000 q → rs o (bare p) → rs o (bare q) → Calls Tryz.prog 14 #[.slice A n c, .int .i64 (o : Int), treeV p, treeV q] W fun e W' => ∃ z, e = .returned (treeV z) ∧ bare z = sj o (bare p) (bare q) ∧ TreeAt W' z ∧ (∀ b, UsesT z b → UsesT p b ∨ UsesT q b ∨ W.heap.size ≤ b) ∧ Ext W W') :
  Calls Tryz.prog 14 #[.slice A n c, .int .i64 (m : Int), treeV x, treeV y] w fun e w' => ∃ z, e = .returned (treeV z) ∧ bare z = joinJ sj (S.map MsgV.d) m (bare x) (bare y) ∧ TreeAt w' z ∧ (∀ b, UsesT z b → UsesT x b ∨ UsesT y b ∨ w.heap.size ≤ b) ∧ Ext w w' := by
 obtain ⟨Md, hMd, _, vx, _⟩ := rx
 obtain ⟨Md', hMd', _, vy, _⟩ := ry
 obtain rfl : Md' = Md := Option.some.inj (hMd'.symm.trans hMd)
 have hMd2 := hMd
 rw [List.getElem?_map, Option.map_eq_some_iff] at hMd
 obtain ⟨M, hM, rfl⟩ := hMd
 have hm : m < n := by
  have := (List.getElem?_eq_some_iff.1 hM).1
  have := hs.length
  omega
 obtain ⟨b1, off1, M', hSA, hM', hf, _⟩ := hs.msg (k := m) hm
 obtain rfl : M' = M := Option.some.inj (hM'.symm.trans hM)
 have hMn : M'.n ≤ 1000000 := by have := (right_msg hR hMd2).2.2.1; have := hf.length; omega
 have bx : (bare x).vals = x.vals.map bareV := by rw [bare_eq]; rfl
 have by_ : (bare y).vals = y.vals.map bareV := by rw [bare_eq]; rfl
 have ux : (bare x).unk = x.unk := by rw [bare_eq]; rfl
 have uy : (bare y).unk = y.unk := by rw [bare_eq]; rfl
 have key : ∀ v : ValR, (∃ (i : Nat) (f : FieldD), M'.d.fields[i]? = some f ∧ RightF rs f (bareV v)) → ∃ (i : Nat) (f : FieldD), M'.d.fields[i]? = some f ∧ idxB (numP v.number) M'.d.fields = (i : Int) ∧ M'.d.fields.find? (fun g => g.number == v.number) = some f ∧ RightF rs f (bareV v) := by
  rintro v ⟨i, f, hfi, hF⟩
  have hn : v.number = f.number := hF.1
  have h1 := (right_field hR hMd2 hfi).2
  refine ⟨i, f, hfi, ?_, ?_, hF⟩
  · rw [hn]
    exact h1
  · rw [hn]
    exact (find_of_idx (p := fun g : FieldD => decide (g.number = f.number)) (l := M'.d.fields)).2 i f h1 hfi
 have kx : ∀ v ∈ x.vals, _ := fun v hv => key v (vx (bareV v) (by rw [bx]; exact List.mem_map_of_mem hv))
 have ky : ∀ v ∈ y.vals, _ := fun v hv => key v (vy (bareV v) (by rw [by_]; exact List.mem_map_of_mem hv))
 have ok : JoinOk M'.d x y := by
  refine ⟨fun v hv => ?_, fun v hv f hff hr h17 => ?_, fun v hv f hff hr h17 => ?_⟩
  · obtain ⟨i, f, h1, h2, h3, _⟩ := ky v hv
    exact ⟨i, f, h1, h2, h3⟩
  · obtain ⟨i, f', h1, h2, h3, h4⟩ := ky v hv
    obtain rfl : f' = f := Option.some.inj (h3.symm.trans hff)
    exact one_sub h4 hr h17
  · obtain ⟨i, f', h1, h2, h3, h4⟩ := kx v hv
    obtain rfl : f' = f := Option.some.inj (h3.symm.trans hff)
    exact one_sub h4 hr h17
 refine (rJoinM (sj := sj) hs hm hM hMn hx hy fx fy ok (fun u hu v hv huv f hff hr h17 p hp q hq W hW => ?_)).mono ?_
 · obtain ⟨i, f1, h1, _, h3, h4⟩ := ky v hv
   obtain rfl : f1 = f := Option.some.inj (h3.symm.trans hff)
   obtain ⟨_, f2, _, _, h5, h6⟩ := kx u hu
   rw [huv] at h5
   obtain rfl : f2 = f1 := Option.some.inj (h5.symm.trans hff)
   obtain ⟨o, ho, _⟩ := right_of hR hMd2 h1 h17
   have a1 := sub_right h4 h17 q hq
   have a2 := sub_right h6 h17 p hp
   rw [ho] at a1 a2 ⊢
   rw [Int.toNat_natCast] at a1 a2 ⊢
   exact hc o p q W hW (hx.sub u hu p hp) (hy.sub v hv q hq) (fx.sub u hu p hp) (fy.sub v hv q hq) a2 a1
 · rintro e w' ⟨z, rfl, q1, q2, q3, q4, q5⟩
   refine ⟨z, rfl, ?_, q3, q4, q5⟩
   rw [bare_eq z, q1, q2]
   unfold joinJ
   rw [hMd2]
   show _ = MsgX.mk () () ((bare y).vals.foldl _ (bare x).vals) ((bare x).unk ++ (bare y).unk)
   rw [bx, by_, ux, uy]

def RJoin (S : List MsgV) (d : Nat) : Prop := ∀ (D m : Nat) (x y : MsgR) (w : World) (A : Option Addr) (n c : Nat), d ≤ D → SchemaAt w A n c S → TreeAt w x → TreeAt w y → FitT 100000000 x → FitT 100000000 y → RightV (S.map MsgV.d) d m (bare x) → RightV (S.map MsgV.d) d m (bare y) →
 Calls Tryz.prog 14 #[.slice A n c, .int .i64 (m : Int), treeV x, treeV y] w fun e w' => ∃ z, e = .returned (treeV z) ∧ bare z = joinV (S.map MsgV.d) D m (bare x) (bare y) ∧ TreeAt w' z ∧ (∀ b, UsesT z b → UsesT x b ∨ UsesT y b ∨ w.heap.size ≤ b) ∧ Ext w w'

theorem rJoin {S : List MsgV} (hR : rightS (S.map MsgV.d) = true) : ∀ d, RJoin S d
 | 0 => by
   intro D m x y w A n c _ hs hx hy fx fy rx ry
   have hv := fun (sj : Nat → MsgT → MsgT → MsgT) => rJoinJ (sj := sj) (rs := fun _ _ => False) hR hs hx hy fx fy rx ry (fun o p q W _ _ _ _ _ h _ => h.elim)
   rcases D with _ | D
   · exact hv _
   · exact hv _
 | d + 1 => by
   intro D m x y w A n c hD hs hx hy fx fy rx ry
   obtain ⟨D', rfl⟩ : ∃ D', D = D' + 1 := ⟨D - 1, by omega⟩
   exact rJoinJ (sj := joinV (S.map MsgV.d) D') (rs := RightV (S.map MsgV.d) d) hR hs hx hy fx fy rx ry (fun o p q W hW tp tq fp fq rp rq => rJoin hR d D' o p q W A n c (by omega) (hs.up hW) (tp.up hW) (tq.up hW) fp fq rp rq)

end Go.Proofs.YtnnphodgegcddaaGreat
