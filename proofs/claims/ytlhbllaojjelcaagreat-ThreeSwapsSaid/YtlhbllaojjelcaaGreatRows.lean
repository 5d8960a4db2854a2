/-
  NARROWER THAN 'FOR EVERY INPUT', by the rows' own cells (each row's printed sentence says how): ThreeTrees: loops.
  DERIVED. THE GIVEN ROWS OF THIS SEAT. 3 by the template 'for every input the law returns true; each argument reads behind the call as it read before'; 0 by the template 'total and deterministic' (their statements: YtlhbllaojjelcaaGreatTotals.lean).
  GIVEN WITH THE SEED: the statements are not yours to turn. If you find one false, say at which input.
  Laid BY PROGRAM, IN A SANDBOX (cutbox-rows.mjs): the forced cells as the released guide's own fill.sh prints them over the translation 47b565a61604c1b8… (all of the seat's roots in one cut). By AI agents, Wed Nov 11 2026. No macro, syntax, notation, axiom, sorry.
-/
import Derived.Test.YtlhbllaojjelcaaGreatChecked
import GoSem.Claim
import GoSem.ClaimJoined
import GoSem.ClaimMapViews
import Derived.JoinedTies
import Derived.KernelRfl
namespace Go.Proofs.YtlhbllaojjelcaaGreat
/- THE CELL 'sum', in the pinned program and in every row, IS THE sha256 OF THE DUMP (.gsa) THAT YtlhbllaojjelcaaGreatProg.lean LOADS. Nothing in Lean hashes anything: it is a label: what it is worth is what the hold of that sum in a sandbox is worth. -/
noncomputable def Tryz.pinned : Pinned := { name := "ytlhbllaojjelcaagreat", sum := "47b565a61604c1b8074e4fb09f2496d893c956216d79f2739e5c118ed31f4c97", checked := Tryz.checked }
namespace Rows
def none {H : Type} : Left H := { results := [], args := [] }

/-- 'darninglaw26.ThreeTrees': WHATEVER THE INPUT: true; the input reads as it did. -/
def threeTreesSpec : ChangeSpec := { name := "threeTrees", fn := fun _ => fun
  | [d1, d2, d3, d4, d5] => { results := [.lit (.bool true)], args := [d1, d2, d3, d4, d5] }
  | _ => none }
def threeTreesRow : OpenClaim := { program := "ytlhbllaojjelcaagreat", sum := "47b565a61604c1b8074e4fb09f2496d893c956216d79f2739e5c118ed31f4c97", func := "darning/darninglaw26.ThreeTrees", spec := "threeTrees", unfollowed := true, recurses := true, loops := true, plainKeys := false, apart := false }
def ThreeTreesSaid : Prop := threeTreesRow.holds Tryz.pinned (OpenSpec.ofChange threeTreesSpec)

/-- ITS FALSE NEIGHBOUR: 'it returns false'. Refute it at one input. -/
def threeTreesWrong : ChangeSpec := { name := "threeTrees", fn := fun _ => fun
  | [d1, d2, d3, d4, d5] => { results := [.lit (.bool false)], args := [d1, d2, d3, d4, d5] }
  | _ => none }
def ThreeTreesWrongFalsely : Prop := threeTreesRow.holds Tryz.pinned (OpenSpec.ofChange threeTreesWrong)

/-- 'darninglaw26.ThreeMerges': WHATEVER THE INPUT: true; the input reads as it did. -/
def threeMergesSpec : ChangeSpec := { name := "threeMerges", fn := fun _ => fun
  | [d1, d2, d3, d4, d5, d6] => { results := [.lit (.bool true)], args := [d1, d2, d3, d4, d5, d6] }
  | _ => none }
def threeMergesRow : OpenClaim := { program := "ytlhbllaojjelcaagreat", sum := "47b565a61604c1b8074e4fb09f2496d893c956216d79f2739e5c118ed31f4c97", func := "darning/darninglaw26.ThreeMerges", spec := "threeMerges", unfollowed := true, recurses := true, plainKeys := false, apart := false }
def ThreeMergesSaid : Prop := threeMergesRow.holds Tryz.pinned (OpenSpec.ofChange threeMergesSpec)

/-- ITS FALSE NEIGHBOUR: 'it returns false'. Refute it at one input. -/
def threeMergesWrong : ChangeSpec := { name := "threeMerges", fn := fun _ => fun
  | [d1, d2, d3, d4, d5, d6] => { results := [.lit (.bool false)], args := [d1, d2, d3, d4, d5, d6] }
  | _ => none }
def ThreeMergesWrongFalsely : Prop := threeMergesRow.holds Tryz.pinned (OpenSpec.ofChange threeMergesWrong)

/-- 'darninglaw26.ThreeSwaps': WHATEVER THE INPUT: true; the input reads as it did. -/
def threeSwapsSpec : ChangeSpec := { name := "threeSwaps", fn := fun _ => fun
  | [d1, d2, d3, d4, d5, d6] => { results := [.lit (.bool true)], args := [d1, d2, d3, d4, d5, d6] }
  | _ => none }
def threeSwapsRow : OpenClaim := { program := "ytlhbllaojjelcaagreat", sum := "47b565a61604c1b8074e4fb09f2496d893c956216d79f2739e5c118ed31f4c97", func := "darning/darninglaw26.ThreeSwaps", spec := "threeSwaps", unfollowed := true, recurses := true, plainKeys := false, apart := false }
def ThreeSwapsSaid : Prop := threeSwapsRow.holds Tryz.pinned (OpenSpec.ofChange threeSwapsSpec)

/-- ITS FALSE NEIGHBOUR: 'it returns false'. Refute it at one input. -/
def threeSwapsWrong : ChangeSpec := { name := "threeSwaps", fn := fun _ => fun
  | [d1, d2, d3, d4, d5, d6] => { results := [.lit (.bool false)], args := [d1, d2, d3, d4, d5, d6] }
  | _ => none }
def ThreeSwapsWrongFalsely : Prop := threeSwapsRow.holds Tryz.pinned (OpenSpec.ofChange threeSwapsWrong)

/- THE SECOND FORM. 'bulk': how many values and letters a reading holds, each counted each time it is reached (what is shared counts as often as it is met; a slice's spare places count too). A statement '..UptoSaid' is the law's where the arguments, and the package variables that the reading takes, are together of bulk at most 1048576: NARROWER than '..Said'. Prove '..Said' where nothing that the law and all that it calls make is longer than what came in: it says more and counts as full. Else prove '..UptoSaid'. A law counts once. -/
mutual
def uptoBulk {H : Type} : DataW H → Nat
  | .lit (.string bytes) => bytes.length + 1
  | .lit _ => 1
  | .nil => 1
  | .ptr d => uptoBulk d + 1
  | .slice elems spare => uptoBulkAll elems + uptoBulkAll spare + 1
  | .agg parts => uptoBulkAll parts + 1
  | .iface _ d => uptoBulk d + 1
  | .map entries => uptoBulkEntries entries + 1
  | .held _ => 1
def uptoBulkAll {H : Type} : List (DataW H) → Nat
  | [] => 0
  | d :: r => uptoBulk d + uptoBulkAll r
def uptoBulkEntries {H : Type} : List (Lit × DataW H) → Nat
  | [] => 0
  | x :: r => uptoBulkEntry x + uptoBulkEntries r
def uptoBulkEntry {H : Type} : Lit × DataW H → Nat
  | (.string bytes, d) => bytes.length + uptoBulk d + 1
  | (_, d) => uptoBulk d + 1
 end
def uptoSmall : (H : Type) → List (DataW H) → Bool := fun _ ds => decide (uptoBulkAll ds ≤ 1048576)
def OpenSpec.upto (s : _root_.Go.ChangeSpec) : _root_.Go.OpenSpec := { _root_.Go.OpenSpec.ofChange s with cond := some uptoSmall }

/-- 'darninglaw26.ThreeTrees', WHERE WHAT IT READS IS OF BULK AT MOST 1048576: true; the input reads as it did. -/
def threeTreesUptoRow : OpenClaim := { program := "ytlhbllaojjelcaagreat", sum := "47b565a61604c1b8074e4fb09f2496d893c956216d79f2739e5c118ed31f4c97", func := "darning/darninglaw26.ThreeTrees", spec := "threeTrees", unfollowed := true, recurses := true, loops := true, plainKeys := false, apart := false, narrowed := true }
def ThreeTreesUptoSaid : Prop := threeTreesUptoRow.holds Tryz.pinned (OpenSpec.upto threeTreesSpec)

/-- 'darninglaw26.ThreeMerges', WHERE WHAT IT READS IS OF BULK AT MOST 1048576: true; the input reads as it did. -/
def threeMergesUptoRow : OpenClaim := { program := "ytlhbllaojjelcaagreat", sum := "47b565a61604c1b8074e4fb09f2496d893c956216d79f2739e5c118ed31f4c97", func := "darning/darninglaw26.ThreeMerges", spec := "threeMerges", unfollowed := true, recurses := true, plainKeys := false, apart := false, narrowed := true }
def ThreeMergesUptoSaid : Prop := threeMergesUptoRow.holds Tryz.pinned (OpenSpec.upto threeMergesSpec)

/-- 'darninglaw26.ThreeSwaps', WHERE WHAT IT READS IS OF BULK AT MOST 1048576: true; the input reads as it did. -/
def threeSwapsUptoRow : OpenClaim := { program := "ytlhbllaojjelcaagreat", sum := "47b565a61604c1b8074e4fb09f2496d893c956216d79f2739e5c118ed31f4c97", func := "darning/darninglaw26.ThreeSwaps", spec := "threeSwaps", unfollowed := true, recurses := true, plainKeys := false, apart := false, narrowed := true }
def ThreeSwapsUptoSaid : Prop := threeSwapsUptoRow.holds Tryz.pinned (OpenSpec.upto threeSwapsSpec)

end Rows
end Go.Proofs.YtlhbllaojjelcaaGreat
