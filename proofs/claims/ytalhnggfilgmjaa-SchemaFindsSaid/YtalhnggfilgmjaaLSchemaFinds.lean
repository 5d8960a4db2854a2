/-
  The law darninglaw07.SchemaFinds returns true for every input, and every argument reads afterwards as it read before. No condition.
-/
import Derived.Test.YtalhnggfilgmjaaRows
import Derived.Test.YtalhnggfilgmjaaOpen
import Derived.Test.YtalhnggfilgmjaaKSchemaFinds
import Derived.Test.YtalhnggfilgmjaaOpenZ
import Derived.WalkKit
import Derived.ProofKit
import Derived.OpenShut
import Derived.ShutString
import Derived.ChangeOld
import Derived.Below
import Derived.Lib.SmallJoins
import Derived.SizedLaws
namespace Go.Proofs.Ytalhnggfilgmjaa.schemaFinds
open Go.ChangeShapes Go.WideShapes Go.ChangeAt Go.RowKit Go.Joins
open Go.ChangeMaps (open_string shut_string)
set_option linter.unusedVariables false

theorem own : ownKnob Try.prog.godebug = none := by kernel_rfl

theorem laidOut : laidOutB Try.prog = true := by kernel_rfl

set_option maxRecDepth 100000 in
theorem lifted (os : Os) (started : os.Started) (H : Type) (enc : TypeId × Value → H) :
    ReturnsInHanded {} Try.checked os 4 .any (Rows.schemaFindsSpec.pre6 enc Try.prog Try.f4 Rows.schemaFindsRow.domain false) (Rows.schemaFindsSpec.post enc Try.prog Try.f4 false true false false) := by
  refine returnsInHanded_of_change_sized (C := Try.checked) own started (by kernel_rfl) Try.func4
    (ChangeSpec.witness6 (enc := enc) (C := Try.checked) false ⟨#[], #[.slice none 0 0, .slice none 0 0, .agg #[.string ⟨#[]⟩, .slice none 0 0], .string ⟨#[]⟩, .int .i64 0], []⟩ 8 (by kernel_rfl) (by kernel_rfl) (by kernel_rfl) (by kernel_rfl)) ?_
  intro W base args ds gs before hval0 hW hcnd hsz0 _
  have hsz : (DataW.weightsEach Try.prog (Try.f4.params.toList ++ Rows.schemaFindsSpec.plain.varTypes Try.prog) (ds ++ gs)).all (· ≤ reachBytes) = true := hsz0
  clear hsz0
  have hval : ∀ (j : Nat) t v, Try.f4.params[j]? = some t → args[j]? = some v → Value.okWide Try.prog W .any base t v := hval0
  have hW' := hW
  obtain ⟨p, q, hA0, hV, rfl, hfz, hnd⟩ := hW
  have hA : DataW.TrodAll enc Try.prog W 0 (fun _ => true) true Try.f4.params.toList args.toList ds p := hA0
  rw [Try.params4] at hA hval hsz
  obtain ⟨v0, vs0, d0, ds0, p0, q0, hargs, rfl, rfl, h0, r0⟩ := trodAll_cons hA
  obtain ⟨v1, vs1, d1, ds1, p1, q1, rfl, rfl, rfl, h1, r1⟩ := trodAll_cons r0
  obtain ⟨v2, vs2, d2, ds2, p2, q2, rfl, rfl, rfl, h2, r2⟩ := trodAll_cons r1
  obtain ⟨v3, vs3, d3, ds3, p3, q3, rfl, rfl, rfl, h3, r3⟩ := trodAll_cons r2
  obtain ⟨v4, vs4, d4, ds4, p4, q4, rfl, rfl, rfl, h4, r4⟩ := trodAll_cons r3
  obtain ⟨rfl, rfl, rfl⟩ := trodAll_nil r4
  obtain rfl : args = #[v0, v1, v2, v3, v4] := by cases args; simp_all
  obtain ⟨rfl, rfl⟩ := trodVars_none hV
  obtain ⟨a0, len0, cap0, rfl⟩ := okWide_slice Try.underlying33 (hval 0 33 v0 rfl rfl)
  have k0 := h0
  have lt0 : ∀ x ∈ p0, x.block < W.heap.size := by obtain ⟨m, hm⟩ := k0; exact DataW.trod_lt m _ _ _ hm
  obtain ⟨l0, w0, s0, S0⟩ : ∃ l, SchemaAt W a0 len0 cap0 l ∧ (∀ m ∈ l, m.c ≤ 2932031007317) ∧ cap0 ≤ 3518437208780 := by
    obtain ⟨fuel, hf⟩ := h0
    obtain ⟨A, n, c, l, e, hs, hs2, hs3⟩ := open_schema_sized (v := .slice a0 len0 cap0) (tf := 34) Try.underlying33 Try.underlying36 (by kernel_rfl) (by kernel_rfl) Try.underlying9 rfl Try.underlying34 Try.underlying56 (by kernel_rfl) (by kernel_rfl) Try.underlying9 Try.underlying3 Try.underlying3 Try.underlying4 Try.underlying4 Try.underlying3 (by kernel_rfl) (by kernel_rfl) (fun n hn => by simpa using List.all_eq_true.1 hsz _ (DataW.weights_mem_each (j := 0) (t := 33) rfl rfl n hn)) hf
    cases e
    exact ⟨l, hs, hs2, hs3⟩
  obtain ⟨a1, len1, cap1, rfl⟩ := okWide_slice Try.underlying33 (hval 1 33 v1 rfl rfl)
  have k1 := h1
  have lt1 : ∀ x ∈ p1, x.block < W.heap.size := by obtain ⟨m, hm⟩ := k1; exact DataW.trod_lt m _ _ _ hm
  obtain ⟨l1, w1, s1, S1⟩ : ∃ l, SchemaAt W a1 len1 cap1 l ∧ (∀ m ∈ l, m.c ≤ 2932031007317) ∧ cap1 ≤ 3518437208780 := by
    obtain ⟨fuel, hf⟩ := h1
    obtain ⟨A, n, c, l, e, hs, hs2, hs3⟩ := open_schema_sized (v := .slice a1 len1 cap1) (tf := 34) Try.underlying33 Try.underlying36 (by kernel_rfl) (by kernel_rfl) Try.underlying9 rfl Try.underlying34 Try.underlying56 (by kernel_rfl) (by kernel_rfl) Try.underlying9 Try.underlying3 Try.underlying3 Try.underlying4 Try.underlying4 Try.underlying3 (by kernel_rfl) (by kernel_rfl) (fun n hn => by simpa using List.all_eq_true.1 hsz _ (DataW.weights_mem_each (j := 1) (t := 33) rfl rfl n hn)) hf
    cases e
    exact ⟨l, hs, hs2, hs3⟩
  have k2 := h2
  have lt2 : ∀ x ∈ p2, x.block < W.heap.size := by obtain ⟨m, hm⟩ := k2; exact DataW.trod_lt m _ _ _ hm
  obtain ⟨a2, A2, n2, c2, l2, e2, b2, w2⟩ := open_message (tf := 34) Try.underlying36 (by kernel_rfl) (by kernel_rfl) Try.underlying9 rfl Try.underlying34 Try.underlying56 (by kernel_rfl) (by kernel_rfl) Try.underlying9 Try.underlying3 Try.underlying3 Try.underlying4 Try.underlying4 Try.underlying3 (hval 2 36 v2 rfl rfl) h2
  subst e2
  obtain ⟨a3, rfl, rfl, rfl, w3⟩ := open_string Try.underlying9 (hval 3 9 v3 rfl rfl) h3
  obtain ⟨a4, rfl, rfl, rfl, w4⟩ := open_int Try.underlying3 (hval 4 3 v4 rfl rfl) h4
  have b4 : -9223372036854775808 ≤ a4 ∧ a4 < 9223372036854775808 := by simp [Lit.wf, IntKind.min, IntKind.max, IntKind.signed, IntKind.bits] at w4; omega
  clear hA0 hval0
  refine (schemaFinds_walk (w := W) w0 s0 S0 w1 s1 S1 w2 w3 b4).mono fun e W' ⟨he, bel⟩ => ?_
  subst he
  exact ⟨_, rfl, _, _, _, [], _, [], hW', trodAll_mk1 (shut_bool Try.underlying4 _), (trodAll_cons_mk (Below.trod laidOut (by kernel_rfl) (of_decide_eq_true (by kernel_rfl)) k0 bel lt0) (trodAll_cons_mk (Below.trod laidOut (by kernel_rfl) (of_decide_eq_true (by kernel_rfl)) k1 bel lt1) (trodAll_cons_mk (Below.trod laidOut (by kernel_rfl) (of_decide_eq_true (by kernel_rfl)) k2 bel lt2) (trodAll_cons_mk (shut_string Try.underlying9 w3) (trodAll_cons_mk (shut_int Try.underlying3 w4) trodAll_mk0))))), rfl, Below.frame bel _, fun h => by cases h⟩

theorem over : Rows.schemaFindsRow.holds Try.pinned (OpenSpec.ofChange Rows.schemaFindsSpec) :=
  OpenClaim.holds_of_wide 4 Try.f4 rfl rfl rfl rfl rfl rfl rfl ⟨rfl, rfl, rfl, rfl, rfl⟩ rfl rfl rfl rfl rfl (by kernel_rfl) Try.func4 (by kernel_rfl)
    (of_decide_eq_true (by kernel_rfl)) (by unfold Func.isWrapper; first | (rw [if_pos (by decide +kernel)]; kernel_rfl) | (rw [if_neg (by decide +kernel)]; exact ⟨rfl, rfl⟩))
    (fun os started H enc _ => lifted os started H enc)

theorem proved : Rows.SchemaFindsSaid := over

#print axioms proved

end Go.Proofs.Ytalhnggfilgmjaa.schemaFinds
