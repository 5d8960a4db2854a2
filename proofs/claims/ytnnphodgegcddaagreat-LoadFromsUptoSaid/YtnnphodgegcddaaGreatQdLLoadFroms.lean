/-
 The law darninglaw20.LoadFroms returns true for every input whose bulk is at most 1048576, and every argument reads afterwards as it read before.
-/
import Derived.Test.YtnnphodgegcddaaGreatRows
import Derived.Test.YtnnphodgegcddaaGreatQdOpen
import Derived.Test.YtnnphodgegcddaaGreatQdKLoadFroms
import Derived.Test.YtnnphodgegcddaaGreatQdOpenM
import Derived.Test.YtnnphodgegcddaaGreatQdOpenT
import Derived.JoinedCond
import Derived.WalkKit
import Derived.ProofKit
import Derived.OpenShut
import Derived.ShutString
import Derived.ChangeOld
import Derived.Below
import Derived.Lib.SmallJoins
import Derived.SizedLaws

namespace Go.Proofs.YtnnphodgegcddaaGreat.loadFroms
open Go.ChangeShapes Go.WideShapes Go.ChangeAt Go.RowKit Go.Joins
open Go.ChangeMaps (open_string shut_string)
set_option linter.unusedVariables false

theorem own : ownKnob Tryz.prog.godebug = none := by kernel_rfl

theorem laidOut : laidOutB Tryz.prog = true := by kernel_rfl

set_option maxRecDepth 100000 in
theorem contract (H : Type) (enc : TypeId × Value → H) (W : World) (base : Nat) (args : Array Value) (ds gs : List (DataW H)) (before : List MemPlace)
  (hval0 : ∀ (j : Nat) t v, Tryz.f4.params[j]? = some t → args[j]? = some v → Value.okWide Tryz.prog W .any base t v)
  (hW : DataW.Whole enc Tryz.prog Tryz.f4.params.toList Rows.loadFromsSpec.vars false W args.toList ds gs before) (hk : Rows.uptoSmall H (ds ++ gs) = true) :
  Calls Tryz.prog 4 args W fun e W' => ∃ v, e = .returned v ∧ Rows.loadFromsSpec.post enc Tryz.prog Tryz.f4 false true false false W args v W' := by
 have hB := of_decide_eq_true hk
 clear hk
 have hval : ∀ (j : Nat) t v, Tryz.f4.params[j]? = some t → args[j]? = some v → Value.okWide Tryz.prog W .any base t v := hval0
 have hW' := hW
 obtain ⟨p, q, hA0, hV, rfl, hfz, hnd⟩ := hW
 have hA : DataW.TrodAll enc Tryz.prog W 0 (fun _ => true) true Tryz.f4.params.toList args.toList ds p := hA0
 rw [Tryz.params4] at hA hval
 obtain ⟨v0, vs0, d0, ds0, p0, q0, hargs, rfl, rfl, h0, r0⟩ := trodAll_cons hA
 obtain ⟨v1, vs1, d1, ds1, p1, q1, rfl, rfl, rfl, h1, r1⟩ := trodAll_cons r0
 obtain ⟨v2, vs2, d2, ds2, p2, q2, rfl, rfl, rfl, h2, r2⟩ := trodAll_cons r1
 obtain ⟨rfl, rfl, rfl⟩ := trodAll_nil r2
 obtain rfl : args = #[v0, v1, v2] := by cases args; simp_all
 obtain ⟨rfl, rfl⟩ := trodVars_none hV
 simp only [List.append_nil, Rows.uptoBulkAll] at hB
 simp only [List.append_nil] at hW'
 obtain ⟨a0, len0, cap0, rfl⟩ := okWide_slice Tryz.underlying23 (hval 0 23 v0 rfl rfl)
 have k0 := h0
 have lt0 : ∀ x ∈ p0, x.block < W.heap.size := by obtain ⟨m, hm⟩ := k0; exact DataW.trod_lt m _ _ _ hm
 obtain ⟨l0, w0⟩ : ∃ l, SchemaAt W a0 len0 cap0 l := by
  obtain ⟨fuel, hf⟩ := h0
  obtain ⟨A, n, c, l, e, hs⟩ := open_schema (v := .slice a0 len0 cap0) (tf := 80) Tryz.underlying23 Tryz.underlying82 (by kernel_rfl) (by kernel_rfl) Tryz.underlying9 rfl Tryz.underlying80 Tryz.underlying48 (by kernel_rfl) (by kernel_rfl) Tryz.underlying9 Tryz.underlying3 Tryz.underlying3 Tryz.underlying4 Tryz.underlying4 Tryz.underlying3 hf
  cases e
  exact ⟨l, hs⟩
 have k1 := h1
 have lt1 : ∀ x ∈ p1, x.block < W.heap.size := by obtain ⟨m, hm⟩ := k1; exact DataW.trod_lt m _ _ _ hm
 obtain ⟨x1, rfl, w1⟩ := open_field Tryz.underlying48 (by kernel_rfl) (by kernel_rfl) Tryz.underlying9 Tryz.underlying3 Tryz.underlying3 Tryz.underlying4 Tryz.underlying4 Tryz.underlying3 (hval 1 48 v1 rfl rfl) h1
 have k2 := h2
 have lt2 : ∀ x ∈ p2, x.block < W.heap.size := by obtain ⟨m, hm⟩ := k2; exact DataW.trod_lt m _ _ _ hm
 obtain ⟨x2, rfl, w2, F2, L2, M2⟩ := open_val (B := 1048576) ⟨Tryz.underlying35, by kernel_rfl, by kernel_rfl, Tryz.underlying32, Tryz.underlying33, Tryz.underlying52, by kernel_rfl, by kernel_rfl, Tryz.underlying3, Tryz.underlying49, Tryz.underlying33, Tryz.underlying50, Tryz.underlying112, by kernel_rfl, Tryz.underlying9, by kernel_rfl⟩ (by omega) (hval 2 52 v2 rfl rfl) h2
 clear hA0 hval0
 refine (loadFroms_walk (w := W) w0 w1 w2 F2 L2 M2).mono fun e W' ⟨he, bel⟩ => ?_
 subst he
 exact ⟨_, rfl, _, _, _, [], _, [], hW', trodAll_mk1 (shut_bool Tryz.underlying4 _), (trodAll_cons_mk (Below.trod laidOut (by kernel_rfl) (of_decide_eq_true (by kernel_rfl)) k0 bel lt0) (trodAll_cons_mk (Below.trod laidOut (by kernel_rfl) (of_decide_eq_true (by kernel_rfl)) k1 bel lt1) (trodAll_cons_mk (Below.trod laidOut (by kernel_rfl) (of_decide_eq_true (by kernel_rfl)) k2 bel lt2) trodAll_mk0))), rfl, Below.frame bel _, fun h => by cases h⟩

set_option maxRecDepth 100000 in
theorem lifted (os : Os) (started : os.Started) (H : Type) (enc : TypeId × Value → H) (F : Stop.Interp) :
  ReturnsInHanded {} Tryz.checked os 4 .any ((Rows.OpenSpec.upto Rows.loadFromsSpec).pre6 enc Tryz.prog Tryz.f4 Rows.loadFromsUptoRow.domain false) (((Rows.OpenSpec.upto Rows.loadFromsSpec).at F).post enc Tryz.prog Tryz.f4 false true false false) := by
 refine returnsInHanded_of_cond (C := Tryz.checked) (s := Rows.OpenSpec.upto Rows.loadFromsSpec) (k := Rows.uptoSmall) rfl own started (by kernel_rfl) Tryz.func4
  (OpenSpec.witness (enc := enc) (C := Tryz.checked) (s := Rows.OpenSpec.upto Rows.loadFromsSpec) (k := Rows.uptoSmall) rfl false ⟨#[], #[.slice none 0 0, .agg #[.string ⟨#[]⟩, .int .i64 0, .int .i64 0, .bool false, .bool false, .int .i64 0], .agg #[.int .i64 0, .slice none 0 0, .slice none 0 0, .slice none 0 0]], []⟩ 8 (by kernel_rfl) (by kernel_rfl) (by kernel_rfl)
   (x := ([.nil, .agg [.lit (.string []), .lit (.int .i64 0), .lit (.int .i64 0), .lit (.bool false), .lit (.bool false), .lit (.int .i64 0)], .agg [.lit (.int .i64 0), .nil, .nil, .nil]], [], [])) (by kernel_rfl) rfl (by kernel_rfl)) ?_
 intro W base args ds gs before hval hW _ hk _
 exact contract H enc W base args ds gs before hval hW hk

theorem over : Rows.loadFromsUptoRow.holds Tryz.pinned (Rows.OpenSpec.upto Rows.loadFromsSpec) :=
 OpenClaim.holds_of_cond 4 Tryz.f4 rfl rfl rfl rfl rfl rfl rfl ⟨rfl, rfl, rfl, rfl, rfl⟩ rfl rfl rfl rfl rfl (by kernel_rfl) Tryz.func4 (by kernel_rfl)
  (of_decide_eq_true (by kernel_rfl)) (by unfold Func.isWrapper; first | (rw [if_pos (by decide +kernel)]; kernel_rfl) | (rw [if_neg (by decide +kernel)]; exact ⟨rfl, rfl⟩))
  (fun os started H enc _ F => lifted os started H enc F)

theorem proved : Rows.LoadFromsUptoSaid := over

#print axioms proved

end Go.Proofs.YtnnphodgegcddaaGreat.loadFroms
