/- Contracts of layer 6: kinds. -/
import Derived.Test.YtlmmlmmadgcmcaaChecked
import Derived.Test.YtlmmlmmadgcmcaaS6
import Derived.Test.YtlmmlmmadgcmcaaW1
namespace Go.Proofs.Ytlmmlmmadgcmcaa
open Go.RowKit
set_option linter.unusedVariables false

set_option maxHeartbeats 4000000 in
theorem kForms (w : World) : Calls Try.prog 100 #[] w fun e w' => ∃ b, e = .returned (.map (some b)) ∧ MapI w' b .i64 formsM ∧ Ext w w' := by
  have hmm := @run_makeMap Try.prog
  go_enter Try.func100, Try.ntmps100
  have own := MapI.made w .i64
  have hE := (Ext.refl w).alloc (.map #[] 0)
  have hb : w.heap.size ≤ w.heap.size := Nat.le_refl _
  go_wp2_with ((with_reducible show wpList _ _ _ ({ dst := _, op := Op.insert _ _ _ _, type := _, pos := _, after := _, guard := _ } :: _) _ _); refine wpList_insert rfl _ _ _ rfl Try.underlying149 Try.underlying3 rfl own rfl rfl rfl ?_; intro w1 own1 hg1; replace hE := hE.put hg1 hb; replace own := own1; clear own1 hg1)
  go_ret
  exact ⟨_, rfl, own, hE⟩

end Go.Proofs.Ytlmmlmmadgcmcaa
