/- Words for a region that draws its order and holds calls. No program is named. -/
import Derived.Test.YtlmmlmmadgcmcaaLib2
namespace Go.Proofs.Ytlmmlmmadgcmcaa
open Go.RowKit

/-- What go_region_held3 holds over a region: all that lay in w is as it was. -/
theorem Ext.keep {w W : World} (X : Ext w W) : Ext w W ∧ ∀ b o, b < w.heap.size → W.cell? ⟨b, o, none⟩ = w.cell? ⟨b, o, none⟩ := ⟨X, fun b o h => X.cell (p := ⟨b, o, none⟩) h⟩

/-- A new block behind which a draw lies. -/
theorem Ext.new_blk_drew {w w' : World} {cs : Array Value} {t : TypeId} (h : Ext (w.alloc (.cells cs t)).drew w') : Blk w' w.heap.size cs := Ext.new_blk ((Ext.refl _).drew.trans h)

end Go.Proofs.Ytlmmlmmadgcmcaa
