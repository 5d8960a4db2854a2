/-
  NARROWER THAN 'FOR EVERY INPUT', by the rows' own cells (each row's printed sentence says how): TreeFits: loops · TreeRight: loops.
  DERIVED. THE GIVEN ROWS OF THIS SEAT. 5 by the template 'for every input the law returns true; each argument reads behind the call as it read before'; 0 by the template 'total and deterministic' (their statements: YtcbpbpeogfbpiaaGreatTotals.lean).
  GIVEN WITH THE SEED: the statements are not yours to turn. If you find one false, say at which input.
  Laid BY PROGRAM, IN A SANDBOX (cutbox-rows.mjs): the forced cells as the released guide's own fill.sh prints them over the translation 59a1e971f798b5be… (all of the seat's roots in one cut). By AI agents, Wed Nov 11 2026. No macro, syntax, notation, axiom, sorry.
-/
import Derived.Test.YtcbpbpeogfbpiaaGreatChecked
import GoSem.Claim
import GoSem.ClaimJoined
import GoSem.ClaimMapViews
import Derived.JoinedTies
import Derived.KernelRfl
namespace Go.Proofs.YtcbpbpeogfbpiaaGreat
/- THE CELL 'sum', in the pinned program and in every row, IS THE sha256 OF THE DUMP (.gsa) THAT YtcbpbpeogfbpiaaGreatProg.lean LOADS. Nothing in Lean hashes anything: it is a label: what it is worth is what the hold of that sum in a sandbox is worth. -/
noncomputable def Tryz.pinned : Pinned := { name := "ytcbpbpeogfbpiaagreat", sum := "59a1e971f798b5beabe588e9946771b6b0f70f0ea3c07d0fb93e6cd2b19b7a5b", checked := Tryz.checked }
namespace Rows
def none {H : Type} : Left H := { results := [], args := [] }

/-- 'darninglaw18.NormForms': WHATEVER THE INPUT: true; the input reads as it did. -/
def normFormsSpec : ChangeSpec := { name := "normForms", fn := fun _ => fun
  | [d1, d2, d3, d4, d5] => { results := [.lit (.bool true)], args := [d1, d2, d3, d4, d5] }
  | _ => none }
def normFormsRow : OpenClaim := { program := "ytcbpbpeogfbpiaagreat", sum := "59a1e971f798b5beabe588e9946771b6b0f70f0ea3c07d0fb93e6cd2b19b7a5b", func := "darning/darninglaw18.NormForms", spec := "normForms", unfollowed := true, recurses := true, plainKeys := false, apart := false }
def NormFormsSaid : Prop := normFormsRow.holds Tryz.pinned (OpenSpec.ofChange normFormsSpec)

/-- ITS FALSE NEIGHBOUR: 'it returns false'. Refute it at one input. -/
def normFormsWrong : ChangeSpec := { name := "normForms", fn := fun _ => fun
  | [d1, d2, d3, d4, d5] => { results := [.lit (.bool false)], args := [d1, d2, d3, d4, d5] }
  | _ => none }
def NormFormsWrongFalsely : Prop := normFormsRow.holds Tryz.pinned (OpenSpec.ofChange normFormsWrong)

/-- 'darninglaw18.NormStays': WHATEVER THE INPUT: true; the input reads as it did. -/
def normStaysSpec : ChangeSpec := { name := "normStays", fn := fun _ => fun
  | [d1, d2, d3, d4, d5] => { results := [.lit (.bool true)], args := [d1, d2, d3, d4, d5] }
  | _ => none }
def normStaysRow : OpenClaim := { program := "ytcbpbpeogfbpiaagreat", sum := "59a1e971f798b5beabe588e9946771b6b0f70f0ea3c07d0fb93e6cd2b19b7a5b", func := "darning/darninglaw18.NormStays", spec := "normStays", unfollowed := true, recurses := true, plainKeys := false, apart := false }
def NormStaysSaid : Prop := normStaysRow.holds Tryz.pinned (OpenSpec.ofChange normStaysSpec)

/-- ITS FALSE NEIGHBOUR: 'it returns false'. Refute it at one input. -/
def normStaysWrong : ChangeSpec := { name := "normStays", fn := fun _ => fun
  | [d1, d2, d3, d4, d5] => { results := [.lit (.bool false)], args := [d1, d2, d3, d4, d5] }
  | _ => none }
def NormStaysWrongFalsely : Prop := normStaysRow.holds Tryz.pinned (OpenSpec.ofChange normStaysWrong)

/-- 'darninglaw14.TreeFits': WHATEVER THE INPUT: true; the input reads as it did. -/
def treeFitsSpec : ChangeSpec := { name := "treeFits", fn := fun _ => fun
  | [d1, d2, d3] => { results := [.lit (.bool true)], args := [d1, d2, d3] }
  | _ => none }
def treeFitsRow : OpenClaim := { program := "ytcbpbpeogfbpiaagreat", sum := "59a1e971f798b5beabe588e9946771b6b0f70f0ea3c07d0fb93e6cd2b19b7a5b", func := "darning/darninglaw14.TreeFits", spec := "treeFits", unfollowed := true, recurses := true, loops := true, plainKeys := false, apart := false }
def TreeFitsSaid : Prop := treeFitsRow.holds Tryz.pinned (OpenSpec.ofChange treeFitsSpec)

/-- ITS FALSE NEIGHBOUR: 'it returns false'. Refute it at one input. -/
def treeFitsWrong : ChangeSpec := { name := "treeFits", fn := fun _ => fun
  | [d1, d2, d3] => { results := [.lit (.bool false)], args := [d1, d2, d3] }
  | _ => none }
def TreeFitsWrongFalsely : Prop := treeFitsRow.holds Tryz.pinned (OpenSpec.ofChange treeFitsWrong)

/-- 'darninglaw14.TreeRight': WHATEVER THE INPUT: true; the input reads as it did. -/
def treeRightSpec : ChangeSpec := { name := "treeRight", fn := fun _ => fun
  | [d1, d2, d3, d4, d5] => { results := [.lit (.bool true)], args := [d1, d2, d3, d4, d5] }
  | _ => none }
def treeRightRow : OpenClaim := { program := "ytcbpbpeogfbpiaagreat", sum := "59a1e971f798b5beabe588e9946771b6b0f70f0ea3c07d0fb93e6cd2b19b7a5b", func := "darning/darninglaw14.TreeRight", spec := "treeRight", unfollowed := true, recurses := true, loops := true, plainKeys := false, apart := false }
def TreeRightSaid : Prop := treeRightRow.holds Tryz.pinned (OpenSpec.ofChange treeRightSpec)

/-- ITS FALSE NEIGHBOUR: 'it returns false'. Refute it at one input. -/
def treeRightWrong : ChangeSpec := { name := "treeRight", fn := fun _ => fun
  | [d1, d2, d3, d4, d5] => { results := [.lit (.bool false)], args := [d1, d2, d3, d4, d5] }
  | _ => none }
def TreeRightWrongFalsely : Prop := treeRightRow.holds Tryz.pinned (OpenSpec.ofChange treeRightWrong)

/-- 'darninglaw17.MergeMeans': WHATEVER THE INPUT: true; the input reads as it did. -/
def mergeMeansSpec : ChangeSpec := { name := "mergeMeans", fn := fun _ => fun
  | [d1, d2, d3, d4, d5] => { results := [.lit (.bool true)], args := [d1, d2, d3, d4, d5] }
  | _ => none }
def mergeMeansRow : OpenClaim := { program := "ytcbpbpeogfbpiaagreat", sum := "59a1e971f798b5beabe588e9946771b6b0f70f0ea3c07d0fb93e6cd2b19b7a5b", func := "darning/darninglaw17.MergeMeans", spec := "mergeMeans", unfollowed := true, recurses := true, plainKeys := false, apart := false }
def MergeMeansSaid : Prop := mergeMeansRow.holds Tryz.pinned (OpenSpec.ofChange mergeMeansSpec)

/-- ITS FALSE NEIGHBOUR: 'it returns false'. Refute it at one input. -/
def mergeMeansWrong : ChangeSpec := { name := "mergeMeans", fn := fun _ => fun
  | [d1, d2, d3, d4, d5] => { results := [.lit (.bool false)], args := [d1, d2, d3, d4, d5] }
  | _ => none }
def MergeMeansWrongFalsely : Prop := mergeMeansRow.holds Tryz.pinned (OpenSpec.ofChange mergeMeansWrong)

/- THE SECOND FORM. 'bulk': how many values and letters a reading holds, each counted each time it is reached (what is shared counts as often as it is met; a slice's spare places count too). A statement '..UptoSaid' is the law's where the arguments, and the package variables that the reading takes, are together of bulk at most 1048576: NARROWER than '..Said'. Prove '..Said' where nothing that the law and all that it calls make is longer than what came in: it says more and counts as full. Else prove '..UptoSaid'. A law counts once. -/
mutual
def uptoBulk {H : Type} : DataW H → Nat
  | .lit (.string bytes) => bytes.length + 1
  | .lit _ => 1
  | .nil => 1
  | .ptr d => uptoBulk d + 1
  | .slice elems spare => uptoBulkAll elems + uptoBulkAll spare + 1
  | .agg parts => uptoBulkAll parts + 1
  | .iface _ d => uptoBulk d + 1
  | .map entries => uptoBulkEntries entries + 1
  | .held _ => 1
def uptoBulkAll {H : Type} : List (DataW H) → Nat
  | [] => 0
  | d :: r => uptoBulk d + uptoBulkAll r
def uptoBulkEntries {H : Type} : List (Lit × DataW H) → Nat
  | [] => 0
  | x :: r => uptoBulkEntry x + uptoBulkEntries r
def uptoBulkEntry {H : Type} : Lit × DataW H → Nat
  | (.string bytes, d) => bytes.length + uptoBulk d + 1
  | (_, d) => uptoBulk d + 1
 end
def uptoSmall : (H : Type) → List (DataW H) → Bool := fun _ ds => decide (uptoBulkAll ds ≤ 1048576)
def OpenSpec.upto (s : _root_.Go.ChangeSpec) : _root_.Go.OpenSpec := { _root_.Go.OpenSpec.ofChange s with cond := some uptoSmall }

/-- 'darninglaw18.NormForms', WHERE WHAT IT READS IS OF BULK AT MOST 1048576: true; the input reads as it did. -/
def normFormsUptoRow : OpenClaim := { program := "ytcbpbpeogfbpiaagreat", sum := "59a1e971f798b5beabe588e9946771b6b0f70f0ea3c07d0fb93e6cd2b19b7a5b", func := "darning/darninglaw18.NormForms", spec := "normForms", unfollowed := true, recurses := true, plainKeys := false, apart := false, narrowed := true }
def NormFormsUptoSaid : Prop := normFormsUptoRow.holds Tryz.pinned (OpenSpec.upto normFormsSpec)

/-- 'darninglaw18.NormStays', WHERE WHAT IT READS IS OF BULK AT MOST 1048576: true; the input reads as it did. -/
def normStaysUptoRow : OpenClaim := { program := "ytcbpbpeogfbpiaagreat", sum := "59a1e971f798b5beabe588e9946771b6b0f70f0ea3c07d0fb93e6cd2b19b7a5b", func := "darning/darninglaw18.NormStays", spec := "normStays", unfollowed := true, recurses := true, plainKeys := false, apart := false, narrowed := true }
def NormStaysUptoSaid : Prop := normStaysUptoRow.holds Tryz.pinned (OpenSpec.upto normStaysSpec)

/-- 'darninglaw14.TreeFits', WHERE WHAT IT READS IS OF BULK AT MOST 1048576: true; the input reads as it did. -/
def treeFitsUptoRow : OpenClaim := { program := "ytcbpbpeogfbpiaagreat", sum := "59a1e971f798b5beabe588e9946771b6b0f70f0ea3c07d0fb93e6cd2b19b7a5b", func := "darning/darninglaw14.TreeFits", spec := "treeFits", unfollowed := true, recurses := true, loops := true, plainKeys := false, apart := false, narrowed := true }
def TreeFitsUptoSaid : Prop := treeFitsUptoRow.holds Tryz.pinned (OpenSpec.upto treeFitsSpec)

/-- 'darninglaw14.TreeRight', WHERE WHAT IT READS IS OF BULK AT MOST 1048576: true; the input reads as it did. -/
def treeRightUptoRow : OpenClaim := { program := "ytcbpbpeogfbpiaagreat", sum := "59a1e971f798b5beabe588e9946771b6b0f70f0ea3c07d0fb93e6cd2b19b7a5b", func := "darning/darninglaw14.TreeRight", spec := "treeRight", unfollowed := true, recurses := true, loops := true, plainKeys := false, apart := false, narrowed := true }
def TreeRightUptoSaid : Prop := treeRightUptoRow.holds Tryz.pinned (OpenSpec.upto treeRightSpec)

/-- 'darninglaw17.MergeMeans', WHERE WHAT IT READS IS OF BULK AT MOST 1048576: true; the input reads as it did. -/
def mergeMeansUptoRow : OpenClaim := { program := "ytcbpbpeogfbpiaagreat", sum := "59a1e971f798b5beabe588e9946771b6b0f70f0ea3c07d0fb93e6cd2b19b7a5b", func := "darning/darninglaw17.MergeMeans", spec := "mergeMeans", unfollowed := true, recurses := true, plainKeys := false, apart := false, narrowed := true }
def MergeMeansUptoSaid : Prop := mergeMeansUptoRow.holds Tryz.pinned (OpenSpec.upto mergeMeansSpec)

end Rows
end Go.Proofs.YtcbpbpeogfbpiaaGreat
