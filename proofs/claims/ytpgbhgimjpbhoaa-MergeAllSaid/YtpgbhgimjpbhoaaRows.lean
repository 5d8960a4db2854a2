/-
  No cell of these rows narrows 'for every input' (looked for: loops, veiled, ifaces, maps, wideKeys, modest, calm, conditions, laid).
  DERIVED. THE GIVEN ROWS OF THIS SEAT. 8 by the template 'for every input the law returns true; each argument reads behind the call as it read before'; 0 by the template 'total and deterministic' (their statements: YtpgbhgimjpbhoaaTotals.lean).
  GIVEN WITH THE SEED: the statements are not yours to turn. If you find one false, say at which input.
  Laid BY PROGRAM, IN A SANDBOX (cutbox-rows.mjs): the forced cells as the released guide's own fill.sh prints them over the translation c56489cbfade816c… (all of the seat's roots in one cut). By AI agents, Wed Nov 11 2026. No macro, syntax, notation, axiom, sorry.
-/
import Derived.Test.YtpgbhgimjpbhoaaChecked
import GoSem.Claim
import GoSem.ClaimJoined
import GoSem.ClaimMapViews
import Derived.JoinedTies
import Derived.KernelRfl
namespace Go.Proofs.Ytpgbhgimjpbhoaa
/- THE CELL 'sum', in the pinned program and in every row, IS THE sha256 OF THE DUMP (.gsa) THAT YtpgbhgimjpbhoaaProg.lean LOADS. Nothing in Lean hashes anything: it is a label: what it is worth is what the hold of that sum in a sandbox is worth. -/
noncomputable def Try.pinned : Pinned := { name := "ytpgbhgimjpbhoaa", sum := "c56489cbfade816ceea4f717cebe7e155231bfafdc07ec11fcbbf8e0c1e67e1b", checked := Try.checked }
namespace Rows
def none {H : Type} : Left H := { results := [], args := [] }

/-- 'darninglaw07.SchemaFinds': WHATEVER THE INPUT: true; the input reads as it did. -/
def schemaFindsSpec : ChangeSpec := { name := "schemaFinds", fn := fun _ => fun
  | [d1, d2, d3, d4, d5] => { results := [.lit (.bool true)], args := [d1, d2, d3, d4, d5] }
  | _ => none }
def schemaFindsRow : OpenClaim := { program := "ytpgbhgimjpbhoaa", sum := "c56489cbfade816ceea4f717cebe7e155231bfafdc07ec11fcbbf8e0c1e67e1b", func := "darning/darninglaw07.SchemaFinds", spec := "schemaFinds", unfollowed := true, recurses := true, plainKeys := false, apart := false }
def SchemaFindsSaid : Prop := schemaFindsRow.holds Try.pinned (OpenSpec.ofChange schemaFindsSpec)

/-- ITS FALSE NEIGHBOUR: 'it returns false'. Refute it at one input. -/
def schemaFindsWrong : ChangeSpec := { name := "schemaFinds", fn := fun _ => fun
  | [d1, d2, d3, d4, d5] => { results := [.lit (.bool false)], args := [d1, d2, d3, d4, d5] }
  | _ => none }
def SchemaFindsWrongFalsely : Prop := schemaFindsRow.holds Try.pinned (OpenSpec.ofChange schemaFindsWrong)

/-- 'darninglaw11.ValidChecks': WHATEVER THE INPUT: true; the input reads as it did. -/
def validChecksSpec : ChangeSpec := { name := "validChecks", fn := fun _ => fun
  | [d1, d2, d3, d4] => { results := [.lit (.bool true)], args := [d1, d2, d3, d4] }
  | _ => none }
def validChecksRow : OpenClaim := { program := "ytpgbhgimjpbhoaa", sum := "c56489cbfade816ceea4f717cebe7e155231bfafdc07ec11fcbbf8e0c1e67e1b", func := "darning/darninglaw11.ValidChecks", spec := "validChecks", unfollowed := true, recurses := true, plainKeys := false, apart := false }
def ValidChecksSaid : Prop := validChecksRow.holds Try.pinned (OpenSpec.ofChange validChecksSpec)

/-- ITS FALSE NEIGHBOUR: 'it returns false'. Refute it at one input. -/
def validChecksWrong : ChangeSpec := { name := "validChecks", fn := fun _ => fun
  | [d1, d2, d3, d4] => { results := [.lit (.bool false)], args := [d1, d2, d3, d4] }
  | _ => none }
def ValidChecksWrongFalsely : Prop := validChecksRow.holds Try.pinned (OpenSpec.ofChange validChecksWrong)

/-- 'darninglaw11.ValidDepths': WHATEVER THE INPUT: true; the input reads as it did. -/
def validDepthsSpec : ChangeSpec := { name := "validDepths", fn := fun _ => fun
  | [d1, d2, d3] => { results := [.lit (.bool true)], args := [d1, d2, d3] }
  | _ => none }
def validDepthsRow : OpenClaim := { program := "ytpgbhgimjpbhoaa", sum := "c56489cbfade816ceea4f717cebe7e155231bfafdc07ec11fcbbf8e0c1e67e1b", func := "darning/darninglaw11.ValidDepths", spec := "validDepths", unfollowed := true, recurses := true, plainKeys := false, apart := false }
def ValidDepthsSaid : Prop := validDepthsRow.holds Try.pinned (OpenSpec.ofChange validDepthsSpec)

/-- ITS FALSE NEIGHBOUR: 'it returns false'. Refute it at one input. -/
def validDepthsWrong : ChangeSpec := { name := "validDepths", fn := fun _ => fun
  | [d1, d2, d3] => { results := [.lit (.bool false)], args := [d1, d2, d3] }
  | _ => none }
def ValidDepthsWrongFalsely : Prop := validDepthsRow.holds Try.pinned (OpenSpec.ofChange validDepthsWrong)

/-- 'darninglaw11.ValidTogether': WHATEVER THE INPUT: true; the input reads as it did. -/
def validTogetherSpec : ChangeSpec := { name := "validTogether", fn := fun _ => fun
  | [d1, d2, d3, d4, d5] => { results := [.lit (.bool true)], args := [d1, d2, d3, d4, d5] }
  | _ => none }
def validTogetherRow : OpenClaim := { program := "ytpgbhgimjpbhoaa", sum := "c56489cbfade816ceea4f717cebe7e155231bfafdc07ec11fcbbf8e0c1e67e1b", func := "darning/darninglaw11.ValidTogether", spec := "validTogether", unfollowed := true, recurses := true, plainKeys := false, apart := false }
def ValidTogetherSaid : Prop := validTogetherRow.holds Try.pinned (OpenSpec.ofChange validTogetherSpec)

/-- ITS FALSE NEIGHBOUR: 'it returns false'. Refute it at one input. -/
def validTogetherWrong : ChangeSpec := { name := "validTogether", fn := fun _ => fun
  | [d1, d2, d3, d4, d5] => { results := [.lit (.bool false)], args := [d1, d2, d3, d4, d5] }
  | _ => none }
def ValidTogetherWrongFalsely : Prop := validTogetherRow.holds Try.pinned (OpenSpec.ofChange validTogetherWrong)

/-- 'darninglaw17.MergeAll': WHATEVER THE INPUT: true; the input reads as it did. -/
def mergeAllSpec : ChangeSpec := { name := "mergeAll", fn := fun _ => fun
  | [d1, d2, d3, d4, d5, d6] => { results := [.lit (.bool true)], args := [d1, d2, d3, d4, d5, d6] }
  | _ => none }
def mergeAllRow : OpenClaim := { program := "ytpgbhgimjpbhoaa", sum := "c56489cbfade816ceea4f717cebe7e155231bfafdc07ec11fcbbf8e0c1e67e1b", func := "darning/darninglaw17.MergeAll", spec := "mergeAll", unfollowed := true, recurses := true, plainKeys := false, apart := false }
def MergeAllSaid : Prop := mergeAllRow.holds Try.pinned (OpenSpec.ofChange mergeAllSpec)

/-- ITS FALSE NEIGHBOUR: 'it returns false'. Refute it at one input. -/
def mergeAllWrong : ChangeSpec := { name := "mergeAll", fn := fun _ => fun
  | [d1, d2, d3, d4, d5, d6] => { results := [.lit (.bool false)], args := [d1, d2, d3, d4, d5, d6] }
  | _ => none }
def MergeAllWrongFalsely : Prop := mergeAllRow.holds Try.pinned (OpenSpec.ofChange mergeAllWrong)

/-- 'darninglaw17.MergeChain': WHATEVER THE INPUT: true; the input reads as it did. -/
def mergeChainSpec : ChangeSpec := { name := "mergeChain", fn := fun _ => fun
  | [d1, d2, d3, d4, d5, d6] => { results := [.lit (.bool true)], args := [d1, d2, d3, d4, d5, d6] }
  | _ => none }
def mergeChainRow : OpenClaim := { program := "ytpgbhgimjpbhoaa", sum := "c56489cbfade816ceea4f717cebe7e155231bfafdc07ec11fcbbf8e0c1e67e1b", func := "darning/darninglaw17.MergeChain", spec := "mergeChain", unfollowed := true, recurses := true, plainKeys := false, apart := false }
def MergeChainSaid : Prop := mergeChainRow.holds Try.pinned (OpenSpec.ofChange mergeChainSpec)

/-- ITS FALSE NEIGHBOUR: 'it returns false'. Refute it at one input. -/
def mergeChainWrong : ChangeSpec := { name := "mergeChain", fn := fun _ => fun
  | [d1, d2, d3, d4, d5, d6] => { results := [.lit (.bool false)], args := [d1, d2, d3, d4, d5, d6] }
  | _ => none }
def MergeChainWrongFalsely : Prop := mergeChainRow.holds Try.pinned (OpenSpec.ofChange mergeChainWrong)

/-- 'darninglaw17.MergeSplits': WHATEVER THE INPUT: true; the input reads as it did. -/
def mergeSplitsSpec : ChangeSpec := { name := "mergeSplits", fn := fun _ => fun
  | [d1, d2, d3, d4] => { results := [.lit (.bool true)], args := [d1, d2, d3, d4] }
  | _ => none }
def mergeSplitsRow : OpenClaim := { program := "ytpgbhgimjpbhoaa", sum := "c56489cbfade816ceea4f717cebe7e155231bfafdc07ec11fcbbf8e0c1e67e1b", func := "darning/darninglaw17.MergeSplits", spec := "mergeSplits", unfollowed := true, recurses := true, plainKeys := false, apart := false }
def MergeSplitsSaid : Prop := mergeSplitsRow.holds Try.pinned (OpenSpec.ofChange mergeSplitsSpec)

/-- ITS FALSE NEIGHBOUR: 'it returns false'. Refute it at one input. -/
def mergeSplitsWrong : ChangeSpec := { name := "mergeSplits", fn := fun _ => fun
  | [d1, d2, d3, d4] => { results := [.lit (.bool false)], args := [d1, d2, d3, d4] }
  | _ => none }
def MergeSplitsWrongFalsely : Prop := mergeSplitsRow.holds Try.pinned (OpenSpec.ofChange mergeSplitsWrong)

/-- 'darninglaw35.FeedNil': WHATEVER THE INPUT: true; the input reads as it did. -/
def feedNilSpec : ChangeSpec := { name := "feedNil", fn := fun _ => fun
  | [d] => { results := [.lit (.bool true)], args := [d] }
  | _ => none }
def feedNilRow : OpenClaim := { program := "ytpgbhgimjpbhoaa", sum := "c56489cbfade816ceea4f717cebe7e155231bfafdc07ec11fcbbf8e0c1e67e1b", func := "darning/darninglaw35.FeedNil", spec := "feedNil", unfollowed := true, recurses := true, plainKeys := false, apart := false }
def FeedNilSaid : Prop := feedNilRow.holds Try.pinned (OpenSpec.ofChange feedNilSpec)

/-- ITS FALSE NEIGHBOUR: 'it returns false'. Refute it at one input. -/
def feedNilWrong : ChangeSpec := { name := "feedNil", fn := fun _ => fun
  | [d] => { results := [.lit (.bool false)], args := [d] }
  | _ => none }
def FeedNilWrongFalsely : Prop := feedNilRow.holds Try.pinned (OpenSpec.ofChange feedNilWrong)

/- THE SECOND FORM. 'bulk': how many values and letters a reading holds, each counted each time it is reached (what is shared counts as often as it is met; a slice's spare places count too). A statement '..UptoSaid' is the law's where the arguments, and the package variables that the reading takes, are together of bulk at most 1048576: NARROWER than '..Said'. Prove '..Said' where nothing that the law and all that it calls make is longer than what came in: it says more and counts as full. Else prove '..UptoSaid'. A law counts once. -/
mutual
def uptoBulk {H : Type} : DataW H → Nat
  | .lit (.string bytes) => bytes.length + 1
  | .lit _ => 1
  | .nil => 1
  | .ptr d => uptoBulk d + 1
  | .slice elems spare => uptoBulkAll elems + uptoBulkAll spare + 1
  | .agg parts => uptoBulkAll parts + 1
  | .iface _ d => uptoBulk d + 1
  | .map entries => uptoBulkEntries entries + 1
  | .held _ => 1
def uptoBulkAll {H : Type} : List (DataW H) → Nat
  | [] => 0
  | d :: r => uptoBulk d + uptoBulkAll r
def uptoBulkEntries {H : Type} : List (Lit × DataW H) → Nat
  | [] => 0
  | x :: r => uptoBulkEntry x + uptoBulkEntries r
def uptoBulkEntry {H : Type} : Lit × DataW H → Nat
  | (.string bytes, d) => bytes.length + uptoBulk d + 1
  | (_, d) => uptoBulk d + 1
 end
def uptoSmall : (H : Type) → List (DataW H) → Bool := fun _ ds => decide (uptoBulkAll ds ≤ 1048576)
def OpenSpec.upto (s : _root_.Go.ChangeSpec) : _root_.Go.OpenSpec := { _root_.Go.OpenSpec.ofChange s with cond := some uptoSmall }

/-- 'darninglaw07.SchemaFinds', WHERE WHAT IT READS IS OF BULK AT MOST 1048576: true; the input reads as it did. -/
def schemaFindsUptoRow : OpenClaim := { program := "ytpgbhgimjpbhoaa", sum := "c56489cbfade816ceea4f717cebe7e155231bfafdc07ec11fcbbf8e0c1e67e1b", func := "darning/darninglaw07.SchemaFinds", spec := "schemaFinds", unfollowed := true, recurses := true, plainKeys := false, apart := false, narrowed := true }
def SchemaFindsUptoSaid : Prop := schemaFindsUptoRow.holds Try.pinned (OpenSpec.upto schemaFindsSpec)

/-- 'darninglaw11.ValidChecks', WHERE WHAT IT READS IS OF BULK AT MOST 1048576: true; the input reads as it did. -/
def validChecksUptoRow : OpenClaim := { program := "ytpgbhgimjpbhoaa", sum := "c56489cbfade816ceea4f717cebe7e155231bfafdc07ec11fcbbf8e0c1e67e1b", func := "darning/darninglaw11.ValidChecks", spec := "validChecks", unfollowed := true, recurses := true, plainKeys := false, apart := false, narrowed := true }
def ValidChecksUptoSaid : Prop := validChecksUptoRow.holds Try.pinned (OpenSpec.upto validChecksSpec)

/-- 'darninglaw11.ValidDepths', WHERE WHAT IT READS IS OF BULK AT MOST 1048576: true; the input reads as it did. -/
def validDepthsUptoRow : OpenClaim := { program := "ytpgbhgimjpbhoaa", sum := "c56489cbfade816ceea4f717cebe7e155231bfafdc07ec11fcbbf8e0c1e67e1b", func := "darning/darninglaw11.ValidDepths", spec := "validDepths", unfollowed := true, recurses := true, plainKeys := false, apart := false, narrowed := true }
def ValidDepthsUptoSaid : Prop := validDepthsUptoRow.holds Try.pinned (OpenSpec.upto validDepthsSpec)

/-- 'darninglaw11.ValidTogether', WHERE WHAT IT READS IS OF BULK AT MOST 1048576: true; the input reads as it did. -/
def validTogetherUptoRow : OpenClaim := { program := "ytpgbhgimjpbhoaa", sum := "c56489cbfade816ceea4f717cebe7e155231bfafdc07ec11fcbbf8e0c1e67e1b", func := "darning/darninglaw11.ValidTogether", spec := "validTogether", unfollowed := true, recurses := true, plainKeys := false, apart := false, narrowed := true }
def ValidTogetherUptoSaid : Prop := validTogetherUptoRow.holds Try.pinned (OpenSpec.upto validTogetherSpec)

/-- 'darninglaw17.MergeAll', WHERE WHAT IT READS IS OF BULK AT MOST 1048576: true; the input reads as it did. -/
def mergeAllUptoRow : OpenClaim := { program := "ytpgbhgimjpbhoaa", sum := "c56489cbfade816ceea4f717cebe7e155231bfafdc07ec11fcbbf8e0c1e67e1b", func := "darning/darninglaw17.MergeAll", spec := "mergeAll", unfollowed := true, recurses := true, plainKeys := false, apart := false, narrowed := true }
def MergeAllUptoSaid : Prop := mergeAllUptoRow.holds Try.pinned (OpenSpec.upto mergeAllSpec)

/-- 'darninglaw17.MergeChain', WHERE WHAT IT READS IS OF BULK AT MOST 1048576: true; the input reads as it did. -/
def mergeChainUptoRow : OpenClaim := { program := "ytpgbhgimjpbhoaa", sum := "c56489cbfade816ceea4f717cebe7e155231bfafdc07ec11fcbbf8e0c1e67e1b", func := "darning/darninglaw17.MergeChain", spec := "mergeChain", unfollowed := true, recurses := true, plainKeys := false, apart := false, narrowed := true }
def MergeChainUptoSaid : Prop := mergeChainUptoRow.holds Try.pinned (OpenSpec.upto mergeChainSpec)

/-- 'darninglaw17.MergeSplits', WHERE WHAT IT READS IS OF BULK AT MOST 1048576: true; the input reads as it did. -/
def mergeSplitsUptoRow : OpenClaim := { program := "ytpgbhgimjpbhoaa", sum := "c56489cbfade816ceea4f717cebe7e155231bfafdc07ec11fcbbf8e0c1e67e1b", func := "darning/darninglaw17.MergeSplits", spec := "mergeSplits", unfollowed := true, recurses := true, plainKeys := false, apart := false, narrowed := true }
def MergeSplitsUptoSaid : Prop := mergeSplitsUptoRow.holds Try.pinned (OpenSpec.upto mergeSplitsSpec)

/-- 'darninglaw35.FeedNil', WHERE WHAT IT READS IS OF BULK AT MOST 1048576: true; the input reads as it did. -/
def feedNilUptoRow : OpenClaim := { program := "ytpgbhgimjpbhoaa", sum := "c56489cbfade816ceea4f717cebe7e155231bfafdc07ec11fcbbf8e0c1e67e1b", func := "darning/darninglaw35.FeedNil", spec := "feedNil", unfollowed := true, recurses := true, plainKeys := false, apart := false, narrowed := true }
def FeedNilUptoSaid : Prop := feedNilUptoRow.holds Try.pinned (OpenSpec.upto feedNilSpec)

end Rows
end Go.Proofs.Ytpgbhgimjpbhoaa
