/-
  NARROWER THAN 'FOR EVERY INPUT', by the rows' own cells (each row's printed sentence says how): TreeFits: loops · TreeRight: loops · LoadFroms: loops · ThreeTrees: loops.
  DERIVED. THE GIVEN ROWS OF THIS SEAT. 8 by the template 'for every input the law returns true; each argument reads behind the call as it read before'; 0 by the template 'total and deterministic' (their statements: YtgjhglehghjoeaaGreatTotals.lean).
  GIVEN WITH THE SEED: the statements are not yours to turn. If you find one false, say at which input.
  Laid BY PROGRAM, IN A SANDBOX (cutbox-rows.mjs): the forced cells as the released guide's own fill.sh prints them over the translation ad6908b1d164d23e… (all of the seat's roots in one cut). By AI agents, Wed Nov 11 2026. No macro, syntax, notation, axiom, sorry.
-/
import Derived.Test.YtgjhglehghjoeaaGreatChecked
import GoSem.Claim
import GoSem.ClaimJoined
import GoSem.ClaimMapViews
import Derived.JoinedTies
import Derived.KernelRfl
namespace Go.Proofs.YtgjhglehghjoeaaGreat
/- THE CELL 'sum', in the pinned program and in every row, IS THE sha256 OF THE DUMP (.gsa) THAT YtgjhglehghjoeaaGreatProg.lean LOADS. Nothing in Lean hashes anything: it is a label: what it is worth is what the hold of that sum in a sandbox is worth. -/
noncomputable def Tryz.pinned : Pinned := { name := "ytgjhglehghjoeaagreat", sum := "ad6908b1d164d23e0309ad723cc20947e7ca4b421769eeb881156a8f162881c8", checked := Tryz.checked }
namespace Rows
def none {H : Type} : Left H := { results := [], args := [] }

/-- 'darninglaw14.TreeFits': WHATEVER THE INPUT: true; the input reads as it did. -/
def treeFitsSpec : ChangeSpec := { name := "treeFits", fn := fun _ => fun
  | [d1, d2, d3] => { results := [.lit (.bool true)], args := [d1, d2, d3] }
  | _ => none }
def treeFitsRow : OpenClaim := { program := "ytgjhglehghjoeaagreat", sum := "ad6908b1d164d23e0309ad723cc20947e7ca4b421769eeb881156a8f162881c8", func := "darning/darninglaw14.TreeFits", spec := "treeFits", unfollowed := true, recurses := true, loops := true, plainKeys := false, apart := false }
def TreeFitsSaid : Prop := treeFitsRow.holds Tryz.pinned (OpenSpec.ofChange treeFitsSpec)

/-- ITS FALSE NEIGHBOUR: 'it returns false'. Refute it at one input. -/
def treeFitsWrong : ChangeSpec := { name := "treeFits", fn := fun _ => fun
  | [d1, d2, d3] => { results := [.lit (.bool false)], args := [d1, d2, d3] }
  | _ => none }
def TreeFitsWrongFalsely : Prop := treeFitsRow.holds Tryz.pinned (OpenSpec.ofChange treeFitsWrong)

/-- 'darninglaw14.TreeRight': WHATEVER THE INPUT: true; the input reads as it did. -/
def treeRightSpec : ChangeSpec := { name := "treeRight", fn := fun _ => fun
  | [d1, d2, d3, d4, d5] => { results := [.lit (.bool true)], args := [d1, d2, d3, d4, d5] }
  | _ => none }
def treeRightRow : OpenClaim := { program := "ytgjhglehghjoeaagreat", sum := "ad6908b1d164d23e0309ad723cc20947e7ca4b421769eeb881156a8f162881c8", func := "darning/darninglaw14.TreeRight", spec := "treeRight", unfollowed := true, recurses := true, loops := true, plainKeys := false, apart := false }
def TreeRightSaid : Prop := treeRightRow.holds Tryz.pinned (OpenSpec.ofChange treeRightSpec)

/-- ITS FALSE NEIGHBOUR: 'it returns false'. Refute it at one input. -/
def treeRightWrong : ChangeSpec := { name := "treeRight", fn := fun _ => fun
  | [d1, d2, d3, d4, d5] => { results := [.lit (.bool false)], args := [d1, d2, d3, d4, d5] }
  | _ => none }
def TreeRightWrongFalsely : Prop := treeRightRow.holds Tryz.pinned (OpenSpec.ofChange treeRightWrong)

/-- 'darninglaw17.MergeMeans': WHATEVER THE INPUT: true; the input reads as it did. -/
def mergeMeansSpec : ChangeSpec := { name := "mergeMeans", fn := fun _ => fun
  | [d1, d2, d3, d4, d5] => { results := [.lit (.bool true)], args := [d1, d2, d3, d4, d5] }
  | _ => none }
def mergeMeansRow : OpenClaim := { program := "ytgjhglehghjoeaagreat", sum := "ad6908b1d164d23e0309ad723cc20947e7ca4b421769eeb881156a8f162881c8", func := "darning/darninglaw17.MergeMeans", spec := "mergeMeans", unfollowed := true, recurses := true, plainKeys := false, apart := false }
def MergeMeansSaid : Prop := mergeMeansRow.holds Tryz.pinned (OpenSpec.ofChange mergeMeansSpec)

/-- ITS FALSE NEIGHBOUR: 'it returns false'. Refute it at one input. -/
def mergeMeansWrong : ChangeSpec := { name := "mergeMeans", fn := fun _ => fun
  | [d1, d2, d3, d4, d5] => { results := [.lit (.bool false)], args := [d1, d2, d3, d4, d5] }
  | _ => none }
def MergeMeansWrongFalsely : Prop := mergeMeansRow.holds Tryz.pinned (OpenSpec.ofChange mergeMeansWrong)

/-- 'darninglaw20.LoadFroms': WHATEVER THE INPUT: true; the input reads as it did. -/
def loadFromsSpec : ChangeSpec := { name := "loadFroms", fn := fun _ => fun
  | [d1, d2, d3] => { results := [.lit (.bool true)], args := [d1, d2, d3] }
  | _ => none }
def loadFromsRow : OpenClaim := { program := "ytgjhglehghjoeaagreat", sum := "ad6908b1d164d23e0309ad723cc20947e7ca4b421769eeb881156a8f162881c8", func := "darning/darninglaw20.LoadFroms", spec := "loadFroms", unfollowed := true, recurses := true, loops := true, plainKeys := false, apart := false }
def LoadFromsSaid : Prop := loadFromsRow.holds Tryz.pinned (OpenSpec.ofChange loadFromsSpec)

/-- ITS FALSE NEIGHBOUR: 'it returns false'. Refute it at one input. -/
def loadFromsWrong : ChangeSpec := { name := "loadFroms", fn := fun _ => fun
  | [d1, d2, d3] => { results := [.lit (.bool false)], args := [d1, d2, d3] }
  | _ => none }
def LoadFromsWrongFalsely : Prop := loadFromsRow.holds Tryz.pinned (OpenSpec.ofChange loadFromsWrong)

/-- 'darninglaw26.ThreeTrees': WHATEVER THE INPUT: true; the input reads as it did. -/
def threeTreesSpec : ChangeSpec := { name := "threeTrees", fn := fun _ => fun
  | [d1, d2, d3, d4, d5] => { results := [.lit (.bool true)], args := [d1, d2, d3, d4, d5] }
  | _ => none }
def threeTreesRow : OpenClaim := { program := "ytgjhglehghjoeaagreat", sum := "ad6908b1d164d23e0309ad723cc20947e7ca4b421769eeb881156a8f162881c8", func := "darning/darninglaw26.ThreeTrees", spec := "threeTrees", unfollowed := true, recurses := true, loops := true, plainKeys := false, apart := false }
def ThreeTreesSaid : Prop := threeTreesRow.holds Tryz.pinned (OpenSpec.ofChange threeTreesSpec)

/-- ITS FALSE NEIGHBOUR: 'it returns false'. Refute it at one input. -/
def threeTreesWrong : ChangeSpec := { name := "threeTrees", fn := fun _ => fun
  | [d1, d2, d3, d4, d5] => { results := [.lit (.bool false)], args := [d1, d2, d3, d4, d5] }
  | _ => none }
def ThreeTreesWrongFalsely : Prop := threeTreesRow.holds Tryz.pinned (OpenSpec.ofChange threeTreesWrong)

/-- 'darninglaw26.ThreeMerges': WHATEVER THE INPUT: true; the input reads as it did. -/
def threeMergesSpec : ChangeSpec := { name := "threeMerges", fn := fun _ => fun
  | [d1, d2, d3, d4, d5, d6] => { results := [.lit (.bool true)], args := [d1, d2, d3, d4, d5, d6] }
  | _ => none }
def threeMergesRow : OpenClaim := { program := "ytgjhglehghjoeaagreat", sum := "ad6908b1d164d23e0309ad723cc20947e7ca4b421769eeb881156a8f162881c8", func := "darning/darninglaw26.ThreeMerges", spec := "threeMerges", unfollowed := true, recurses := true, plainKeys := false, apart := false }
def ThreeMergesSaid : Prop := threeMergesRow.holds Tryz.pinned (OpenSpec.ofChange threeMergesSpec)

/-- ITS FALSE NEIGHBOUR: 'it returns false'. Refute it at one input. -/
def threeMergesWrong : ChangeSpec := { name := "threeMerges", fn := fun _ => fun
  | [d1, d2, d3, d4, d5, d6] => { results := [.lit (.bool false)], args := [d1, d2, d3, d4, d5, d6] }
  | _ => none }
def ThreeMergesWrongFalsely : Prop := threeMergesRow.holds Tryz.pinned (OpenSpec.ofChange threeMergesWrong)

/-- 'darninglaw20.LoadMeans': WHATEVER THE INPUT: true; the input reads as it did. -/
def loadMeansSpec : ChangeSpec := { name := "loadMeans", fn := fun _ => fun
  | [d1, d2, d3, d4, d5] => { results := [.lit (.bool true)], args := [d1, d2, d3, d4, d5] }
  | _ => none }
def loadMeansRow : OpenClaim := { program := "ytgjhglehghjoeaagreat", sum := "ad6908b1d164d23e0309ad723cc20947e7ca4b421769eeb881156a8f162881c8", func := "darning/darninglaw20.LoadMeans", spec := "loadMeans", unfollowed := true, recurses := true, plainKeys := false, apart := false }
def LoadMeansSaid : Prop := loadMeansRow.holds Tryz.pinned (OpenSpec.ofChange loadMeansSpec)

/-- ITS FALSE NEIGHBOUR: 'it returns false'. Refute it at one input. -/
def loadMeansWrong : ChangeSpec := { name := "loadMeans", fn := fun _ => fun
  | [d1, d2, d3, d4, d5] => { results := [.lit (.bool false)], args := [d1, d2, d3, d4, d5] }
  | _ => none }
def LoadMeansWrongFalsely : Prop := loadMeansRow.holds Tryz.pinned (OpenSpec.ofChange loadMeansWrong)

/-- 'darninglaw26.ThreeSwaps': WHATEVER THE INPUT: true; the input reads as it did. -/
def threeSwapsSpec : ChangeSpec := { name := "threeSwaps", fn := fun _ => fun
  | [d1, d2, d3, d4, d5, d6] => { results := [.lit (.bool true)], args := [d1, d2, d3, d4, d5, d6] }
  | _ => none }
def threeSwapsRow : OpenClaim := { program := "ytgjhglehghjoeaagreat", sum := "ad6908b1d164d23e0309ad723cc20947e7ca4b421769eeb881156a8f162881c8", func := "darning/darninglaw26.ThreeSwaps", spec := "threeSwaps", unfollowed := true, recurses := true, plainKeys := false, apart := false }
def ThreeSwapsSaid : Prop := threeSwapsRow.holds Tryz.pinned (OpenSpec.ofChange threeSwapsSpec)

/-- ITS FALSE NEIGHBOUR: 'it returns false'. Refute it at one input. -/
def threeSwapsWrong : ChangeSpec := { name := "threeSwaps", fn := fun _ => fun
  | [d1, d2, d3, d4, d5, d6] => { results := [.lit (.bool false)], args := [d1, d2, d3, d4, d5, d6] }
  | _ => none }
def ThreeSwapsWrongFalsely : Prop := threeSwapsRow.holds Tryz.pinned (OpenSpec.ofChange threeSwapsWrong)

/- THE SECOND FORM. 'bulk': how many values and letters a reading holds, each counted each time it is reached (what is shared counts as often as it is met; a slice's spare places count too). A statement '..UptoSaid' is the law's where the arguments, and the package variables that the reading takes, are together of bulk at most 1048576: NARROWER than '..Said'. Prove '..Said' where nothing that the law and all that it calls make is longer than what came in: it says more and counts as full. Else prove '..UptoSaid'. A law counts once. -/
mutual
def uptoBulk {H : Type} : DataW H → Nat
  | .lit (.string bytes) => bytes.length + 1
  | .lit _ => 1
  | .nil => 1
  | .ptr d => uptoBulk d + 1
  | .slice elems spare => uptoBulkAll elems + uptoBulkAll spare + 1
  | .agg parts => uptoBulkAll parts + 1
  | .iface _ d => uptoBulk d + 1
  | .map entries => uptoBulkEntries entries + 1
  | .held _ => 1
def uptoBulkAll {H : Type} : List (DataW H) → Nat
  | [] => 0
  | d :: r => uptoBulk d + uptoBulkAll r
def uptoBulkEntries {H : Type} : List (Lit × DataW H) → Nat
  | [] => 0
  | x :: r => uptoBulkEntry x + uptoBulkEntries r
def uptoBulkEntry {H : Type} : Lit × DataW H → Nat
  | (.string bytes, d) => bytes.length + uptoBulk d + 1
  | (_, d) => uptoBulk d + 1
 end
def uptoSmall : (H : Type) → List (DataW H) → Bool := fun _ ds => decide (uptoBulkAll ds ≤ 1048576)
def OpenSpec.upto (s : _root_.Go.ChangeSpec) : _root_.Go.OpenSpec := { _root_.Go.OpenSpec.ofChange s with cond := some uptoSmall }

/-- 'darninglaw14.TreeFits', WHERE WHAT IT READS IS OF BULK AT MOST 1048576: true; the input reads as it did. -/
def treeFitsUptoRow : OpenClaim := { program := "ytgjhglehghjoeaagreat", sum := "ad6908b1d164d23e0309ad723cc20947e7ca4b421769eeb881156a8f162881c8", func := "darning/darninglaw14.TreeFits", spec := "treeFits", unfollowed := true, recurses := true, loops := true, plainKeys := false, apart := false, narrowed := true }
def TreeFitsUptoSaid : Prop := treeFitsUptoRow.holds Tryz.pinned (OpenSpec.upto treeFitsSpec)

/-- 'darninglaw14.TreeRight', WHERE WHAT IT READS IS OF BULK AT MOST 1048576: true; the input reads as it did. -/
def treeRightUptoRow : OpenClaim := { program := "ytgjhglehghjoeaagreat", sum := "ad6908b1d164d23e0309ad723cc20947e7ca4b421769eeb881156a8f162881c8", func := "darning/darninglaw14.TreeRight", spec := "treeRight", unfollowed := true, recurses := true, loops := true, plainKeys := false, apart := false, narrowed := true }
def TreeRightUptoSaid : Prop := treeRightUptoRow.holds Tryz.pinned (OpenSpec.upto treeRightSpec)

/-- 'darninglaw17.MergeMeans', WHERE WHAT IT READS IS OF BULK AT MOST 1048576: true; the input reads as it did. -/
def mergeMeansUptoRow : OpenClaim := { program := "ytgjhglehghjoeaagreat", sum := "ad6908b1d164d23e0309ad723cc20947e7ca4b421769eeb881156a8f162881c8", func := "darning/darninglaw17.MergeMeans", spec := "mergeMeans", unfollowed := true, recurses := true, plainKeys := false, apart := false, narrowed := true }
def MergeMeansUptoSaid : Prop := mergeMeansUptoRow.holds Tryz.pinned (OpenSpec.upto mergeMeansSpec)

/-- 'darninglaw20.LoadFroms', WHERE WHAT IT READS IS OF BULK AT MOST 1048576: true; the input reads as it did. -/
def loadFromsUptoRow : OpenClaim := { program := "ytgjhglehghjoeaagreat", sum := "ad6908b1d164d23e0309ad723cc20947e7ca4b421769eeb881156a8f162881c8", func := "darning/darninglaw20.LoadFroms", spec := "loadFroms", unfollowed := true, recurses := true, loops := true, plainKeys := false, apart := false, narrowed := true }
def LoadFromsUptoSaid : Prop := loadFromsUptoRow.holds Tryz.pinned (OpenSpec.upto loadFromsSpec)

/-- 'darninglaw26.ThreeTrees', WHERE WHAT IT READS IS OF BULK AT MOST 1048576: true; the input reads as it did. -/
def threeTreesUptoRow : OpenClaim := { program := "ytgjhglehghjoeaagreat", sum := "ad6908b1d164d23e0309ad723cc20947e7ca4b421769eeb881156a8f162881c8", func := "darning/darninglaw26.ThreeTrees", spec := "threeTrees", unfollowed := true, recurses := true, loops := true, plainKeys := false, apart := false, narrowed := true }
def ThreeTreesUptoSaid : Prop := threeTreesUptoRow.holds Tryz.pinned (OpenSpec.upto threeTreesSpec)

/-- 'darninglaw26.ThreeMerges', WHERE WHAT IT READS IS OF BULK AT MOST 1048576: true; the input reads as it did. -/
def threeMergesUptoRow : OpenClaim := { program := "ytgjhglehghjoeaagreat", sum := "ad6908b1d164d23e0309ad723cc20947e7ca4b421769eeb881156a8f162881c8", func := "darning/darninglaw26.ThreeMerges", spec := "threeMerges", unfollowed := true, recurses := true, plainKeys := false, apart := false, narrowed := true }
def ThreeMergesUptoSaid : Prop := threeMergesUptoRow.holds Tryz.pinned (OpenSpec.upto threeMergesSpec)

/-- 'darninglaw20.LoadMeans', WHERE WHAT IT READS IS OF BULK AT MOST 1048576: true; the input reads as it did. -/
def loadMeansUptoRow : OpenClaim := { program := "ytgjhglehghjoeaagreat", sum := "ad6908b1d164d23e0309ad723cc20947e7ca4b421769eeb881156a8f162881c8", func := "darning/darninglaw20.LoadMeans", spec := "loadMeans", unfollowed := true, recurses := true, plainKeys := false, apart := false, narrowed := true }
def LoadMeansUptoSaid : Prop := loadMeansUptoRow.holds Tryz.pinned (OpenSpec.upto loadMeansSpec)

/-- 'darninglaw26.ThreeSwaps', WHERE WHAT IT READS IS OF BULK AT MOST 1048576: true; the input reads as it did. -/
def threeSwapsUptoRow : OpenClaim := { program := "ytgjhglehghjoeaagreat", sum := "ad6908b1d164d23e0309ad723cc20947e7ca4b421769eeb881156a8f162881c8", func := "darning/darninglaw26.ThreeSwaps", spec := "threeSwaps", unfollowed := true, recurses := true, plainKeys := false, apart := false, narrowed := true }
def ThreeSwapsUptoSaid : Prop := threeSwapsUptoRow.holds Tryz.pinned (OpenSpec.upto threeSwapsSpec)

end Rows
end Go.Proofs.YtgjhglehghjoeaaGreat
