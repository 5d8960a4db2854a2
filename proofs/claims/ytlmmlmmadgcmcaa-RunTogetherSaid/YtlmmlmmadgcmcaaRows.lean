/-
  No cell of these rows narrows 'for every input' (looked for: loops, veiled, ifaces, maps, wideKeys, modest, calm, conditions, laid).
  DERIVED. THE GIVEN ROWS OF THIS SEAT. 12 by the template 'for every input the law returns true; each argument reads behind the call as it read before'; 0 by the template 'total and deterministic' (their statements: YtlmmlmmadgcmcaaTotals.lean).
  GIVEN WITH THE SEED: the statements are not yours to turn. If you find one false, say at which input.
  Laid BY PROGRAM, IN A SANDBOX (cutbox-rows.mjs): the forced cells as the released guide's own fill.sh prints them over the translation 139d30d51130dd75… (all of the seat's roots in one cut). By AI agents, Wed Nov 11 2026. No macro, syntax, notation, axiom, sorry.
-/
import Derived.Test.YtlmmlmmadgcmcaaChecked
import GoSem.Claim
import GoSem.ClaimJoined
import GoSem.ClaimMapViews
import Derived.JoinedTies
import Derived.KernelRfl
namespace Go.Proofs.Ytlmmlmmadgcmcaa
/- THE CELL 'sum', in the pinned program and in every row, IS THE sha256 OF THE DUMP (.gsa) THAT YtlmmlmmadgcmcaaProg.lean LOADS. Nothing in Lean hashes anything: it is a label: what it is worth is what the hold of that sum in a sandbox is worth. -/
noncomputable def Try.pinned : Pinned := { name := "ytlmmlmmadgcmcaa", sum := "139d30d51130dd75a445e74cd8e53ffc82e642800cdb02301685434cf620750d", checked := Try.checked }
namespace Rows
def none {H : Type} : Left H := { results := [], args := [] }

/-- 'darninglaw07.SchemaChecks': WHATEVER THE INPUT: true; the input reads as it did. -/
def schemaChecksSpec : ChangeSpec := { name := "schemaChecks", fn := fun _ => fun
  | [d] => { results := [.lit (.bool true)], args := [d] }
  | _ => none }
def schemaChecksRow : OpenClaim := { program := "ytlmmlmmadgcmcaa", sum := "139d30d51130dd75a445e74cd8e53ffc82e642800cdb02301685434cf620750d", func := "darning/darninglaw07.SchemaChecks", spec := "schemaChecks", plainKeys := false, apart := false }
def SchemaChecksSaid : Prop := schemaChecksRow.holds Try.pinned (OpenSpec.ofChange schemaChecksSpec)

/-- ITS FALSE NEIGHBOUR: 'it returns false'. Refute it at one input. -/
def schemaChecksWrong : ChangeSpec := { name := "schemaChecks", fn := fun _ => fun
  | [d] => { results := [.lit (.bool false)], args := [d] }
  | _ => none }
def SchemaChecksWrongFalsely : Prop := schemaChecksRow.holds Try.pinned (OpenSpec.ofChange schemaChecksWrong)

/-- 'darninglaw07.SchemaEach': WHATEVER THE INPUT: true; the input reads as it did. -/
def schemaEachSpec : ChangeSpec := { name := "schemaEach", fn := fun _ => fun
  | [d] => { results := [.lit (.bool true)], args := [d] }
  | _ => none }
def schemaEachRow : OpenClaim := { program := "ytlmmlmmadgcmcaa", sum := "139d30d51130dd75a445e74cd8e53ffc82e642800cdb02301685434cf620750d", func := "darning/darninglaw07.SchemaEach", spec := "schemaEach", unfollowed := true, recurses := true, plainKeys := false, apart := false }
def SchemaEachSaid : Prop := schemaEachRow.holds Try.pinned (OpenSpec.ofChange schemaEachSpec)

/-- ITS FALSE NEIGHBOUR: 'it returns false'. Refute it at one input. -/
def schemaEachWrong : ChangeSpec := { name := "schemaEach", fn := fun _ => fun
  | [d] => { results := [.lit (.bool false)], args := [d] }
  | _ => none }
def SchemaEachWrongFalsely : Prop := schemaEachRow.holds Try.pinned (OpenSpec.ofChange schemaEachWrong)

/-- 'darninglaw10.ViewLooks': WHATEVER THE INPUT: true; the input reads as it did. -/
def viewLooksSpec : ChangeSpec := { name := "viewLooks", fn := fun _ => fun
  | [d1, d2, d3] => { results := [.lit (.bool true)], args := [d1, d2, d3] }
  | _ => none }
def viewLooksRow : OpenClaim := { program := "ytlmmlmmadgcmcaa", sum := "139d30d51130dd75a445e74cd8e53ffc82e642800cdb02301685434cf620750d", func := "darning/darninglaw10.ViewLooks", spec := "viewLooks", unfollowed := true, recurses := true, plainKeys := false, apart := false }
def ViewLooksSaid : Prop := viewLooksRow.holds Try.pinned (OpenSpec.ofChange viewLooksSpec)

/-- ITS FALSE NEIGHBOUR: 'it returns false'. Refute it at one input. -/
def viewLooksWrong : ChangeSpec := { name := "viewLooks", fn := fun _ => fun
  | [d1, d2, d3] => { results := [.lit (.bool false)], args := [d1, d2, d3] }
  | _ => none }
def ViewLooksWrongFalsely : Prop := viewLooksRow.holds Try.pinned (OpenSpec.ofChange viewLooksWrong)

/-- 'darninglaw08.ScalarPuts': WHATEVER THE INPUT: true; the input reads as it did. -/
def scalarPutsSpec : ChangeSpec := { name := "scalarPuts", fn := fun _ => fun
  | [d1, d2] => { results := [.lit (.bool true)], args := [d1, d2] }
  | _ => none }
def scalarPutsRow : OpenClaim := { program := "ytlmmlmmadgcmcaa", sum := "139d30d51130dd75a445e74cd8e53ffc82e642800cdb02301685434cf620750d", func := "darning/darninglaw08.ScalarPuts", spec := "scalarPuts", recurses := true, plainKeys := false, apart := false }
def ScalarPutsSaid : Prop := scalarPutsRow.holds Try.pinned (OpenSpec.ofChange scalarPutsSpec)

/-- ITS FALSE NEIGHBOUR: 'it returns false'. Refute it at one input. -/
def scalarPutsWrong : ChangeSpec := { name := "scalarPuts", fn := fun _ => fun
  | [d1, d2] => { results := [.lit (.bool false)], args := [d1, d2] }
  | _ => none }
def ScalarPutsWrongFalsely : Prop := scalarPutsRow.holds Try.pinned (OpenSpec.ofChange scalarPutsWrong)

/-- 'darninglaw08.ScalarReads': WHATEVER THE INPUT: true; the input reads as it did. -/
def scalarReadsSpec : ChangeSpec := { name := "scalarReads", fn := fun _ => fun
  | [d1, d2] => { results := [.lit (.bool true)], args := [d1, d2] }
  | _ => none }
def scalarReadsRow : OpenClaim := { program := "ytlmmlmmadgcmcaa", sum := "139d30d51130dd75a445e74cd8e53ffc82e642800cdb02301685434cf620750d", func := "darning/darninglaw08.ScalarReads", spec := "scalarReads", recurses := true, plainKeys := false, apart := false }
def ScalarReadsSaid : Prop := scalarReadsRow.holds Try.pinned (OpenSpec.ofChange scalarReadsSpec)

/-- ITS FALSE NEIGHBOUR: 'it returns false'. Refute it at one input. -/
def scalarReadsWrong : ChangeSpec := { name := "scalarReads", fn := fun _ => fun
  | [d1, d2] => { results := [.lit (.bool false)], args := [d1, d2] }
  | _ => none }
def ScalarReadsWrongFalsely : Prop := scalarReadsRow.holds Try.pinned (OpenSpec.ofChange scalarReadsWrong)

/-- 'darninglaw08.ScalarSame': WHATEVER THE INPUT: true; the input reads as it did. -/
def scalarSameSpec : ChangeSpec := { name := "scalarSame", fn := fun _ => fun
  | [d1, d2, d3, d4, d5] => { results := [.lit (.bool true)], args := [d1, d2, d3, d4, d5] }
  | _ => none }
def scalarSameRow : OpenClaim := { program := "ytlmmlmmadgcmcaa", sum := "139d30d51130dd75a445e74cd8e53ffc82e642800cdb02301685434cf620750d", func := "darning/darninglaw08.ScalarSame", spec := "scalarSame", plainKeys := false, apart := false }
def ScalarSameSaid : Prop := scalarSameRow.holds Try.pinned (OpenSpec.ofChange scalarSameSpec)

/-- ITS FALSE NEIGHBOUR: 'it returns false'. Refute it at one input. -/
def scalarSameWrong : ChangeSpec := { name := "scalarSame", fn := fun _ => fun
  | [d1, d2, d3, d4, d5] => { results := [.lit (.bool false)], args := [d1, d2, d3, d4, d5] }
  | _ => none }
def ScalarSameWrongFalsely : Prop := scalarSameRow.holds Try.pinned (OpenSpec.ofChange scalarSameWrong)

/-- 'darninglaw09.RunCuts': WHATEVER THE INPUT: true; the input reads as it did. -/
def runCutsSpec : ChangeSpec := { name := "runCuts", fn := fun _ => fun
  | [d1, d2, d3] => { results := [.lit (.bool true)], args := [d1, d2, d3] }
  | _ => none }
def runCutsRow : OpenClaim := { program := "ytlmmlmmadgcmcaa", sum := "139d30d51130dd75a445e74cd8e53ffc82e642800cdb02301685434cf620750d", func := "darning/darninglaw09.RunCuts", spec := "runCuts", unfollowed := true, recurses := true, plainKeys := false, apart := false }
def RunCutsSaid : Prop := runCutsRow.holds Try.pinned (OpenSpec.ofChange runCutsSpec)

/-- ITS FALSE NEIGHBOUR: 'it returns false'. Refute it at one input. -/
def runCutsWrong : ChangeSpec := { name := "runCuts", fn := fun _ => fun
  | [d1, d2, d3] => { results := [.lit (.bool false)], args := [d1, d2, d3] }
  | _ => none }
def RunCutsWrongFalsely : Prop := runCutsRow.holds Try.pinned (OpenSpec.ofChange runCutsWrong)

/-- 'darninglaw09.RunTogether': WHATEVER THE INPUT: true; the input reads as it did. -/
def runTogetherSpec : ChangeSpec := { name := "runTogether", fn := fun _ => fun
  | [d1, d2, d3] => { results := [.lit (.bool true)], args := [d1, d2, d3] }
  | _ => none }
def runTogetherRow : OpenClaim := { program := "ytlmmlmmadgcmcaa", sum := "139d30d51130dd75a445e74cd8e53ffc82e642800cdb02301685434cf620750d", func := "darning/darninglaw09.RunTogether", spec := "runTogether", unfollowed := true, recurses := true, plainKeys := false, apart := false }
def RunTogetherSaid : Prop := runTogetherRow.holds Try.pinned (OpenSpec.ofChange runTogetherSpec)

/-- ITS FALSE NEIGHBOUR: 'it returns false'. Refute it at one input. -/
def runTogetherWrong : ChangeSpec := { name := "runTogether", fn := fun _ => fun
  | [d1, d2, d3] => { results := [.lit (.bool false)], args := [d1, d2, d3] }
  | _ => none }
def RunTogetherWrongFalsely : Prop := runTogetherRow.holds Try.pinned (OpenSpec.ofChange runTogetherWrong)

/-- 'darninglaw10.ViewSplit': WHATEVER THE INPUT: true; the input reads as it did. -/
def viewSplitSpec : ChangeSpec := { name := "viewSplit", fn := fun _ => fun
  | [d1, d2, d3] => { results := [.lit (.bool true)], args := [d1, d2, d3] }
  | _ => none }
def viewSplitRow : OpenClaim := { program := "ytlmmlmmadgcmcaa", sum := "139d30d51130dd75a445e74cd8e53ffc82e642800cdb02301685434cf620750d", func := "darning/darninglaw10.ViewSplit", spec := "viewSplit", unfollowed := true, recurses := true, plainKeys := false, apart := false }
def ViewSplitSaid : Prop := viewSplitRow.holds Try.pinned (OpenSpec.ofChange viewSplitSpec)

/-- ITS FALSE NEIGHBOUR: 'it returns false'. Refute it at one input. -/
def viewSplitWrong : ChangeSpec := { name := "viewSplit", fn := fun _ => fun
  | [d1, d2, d3] => { results := [.lit (.bool false)], args := [d1, d2, d3] }
  | _ => none }
def ViewSplitWrongFalsely : Prop := viewSplitRow.holds Try.pinned (OpenSpec.ofChange viewSplitWrong)

/-- 'darninglaw10.ViewParts': WHATEVER THE INPUT: true; the input reads as it did. -/
def viewPartsSpec : ChangeSpec := { name := "viewParts", fn := fun _ => fun
  | [d1, d2, d3] => { results := [.lit (.bool true)], args := [d1, d2, d3] }
  | _ => none }
def viewPartsRow : OpenClaim := { program := "ytlmmlmmadgcmcaa", sum := "139d30d51130dd75a445e74cd8e53ffc82e642800cdb02301685434cf620750d", func := "darning/darninglaw10.ViewParts", spec := "viewParts", unfollowed := true, recurses := true, plainKeys := false, apart := false }
def ViewPartsSaid : Prop := viewPartsRow.holds Try.pinned (OpenSpec.ofChange viewPartsSpec)

/-- ITS FALSE NEIGHBOUR: 'it returns false'. Refute it at one input. -/
def viewPartsWrong : ChangeSpec := { name := "viewParts", fn := fun _ => fun
  | [d1, d2, d3] => { results := [.lit (.bool false)], args := [d1, d2, d3] }
  | _ => none }
def ViewPartsWrongFalsely : Prop := viewPartsRow.holds Try.pinned (OpenSpec.ofChange viewPartsWrong)

/-- 'darninglaw09.RunPacks': WHATEVER THE INPUT: true; the input reads as it did. -/
def runPacksSpec : ChangeSpec := { name := "runPacks", fn := fun _ => fun
  | [d1, d2] => { results := [.lit (.bool true)], args := [d1, d2] }
  | _ => none }
def runPacksRow : OpenClaim := { program := "ytlmmlmmadgcmcaa", sum := "139d30d51130dd75a445e74cd8e53ffc82e642800cdb02301685434cf620750d", func := "darning/darninglaw09.RunPacks", spec := "runPacks", unfollowed := true, recurses := true, plainKeys := false, apart := false }
def RunPacksSaid : Prop := runPacksRow.holds Try.pinned (OpenSpec.ofChange runPacksSpec)

/-- ITS FALSE NEIGHBOUR: 'it returns false'. Refute it at one input. -/
def runPacksWrong : ChangeSpec := { name := "runPacks", fn := fun _ => fun
  | [d1, d2] => { results := [.lit (.bool false)], args := [d1, d2] }
  | _ => none }
def RunPacksWrongFalsely : Prop := runPacksRow.holds Try.pinned (OpenSpec.ofChange runPacksWrong)

/-- 'darninglaw09.RunWords': WHATEVER THE INPUT: true; the input reads as it did. -/
def runWordsSpec : ChangeSpec := { name := "runWords", fn := fun _ => fun
  | [d1, d2, d3] => { results := [.lit (.bool true)], args := [d1, d2, d3] }
  | _ => none }
def runWordsRow : OpenClaim := { program := "ytlmmlmmadgcmcaa", sum := "139d30d51130dd75a445e74cd8e53ffc82e642800cdb02301685434cf620750d", func := "darning/darninglaw09.RunWords", spec := "runWords", unfollowed := true, recurses := true, plainKeys := false, apart := false }
def RunWordsSaid : Prop := runWordsRow.holds Try.pinned (OpenSpec.ofChange runWordsSpec)

/-- ITS FALSE NEIGHBOUR: 'it returns false'. Refute it at one input. -/
def runWordsWrong : ChangeSpec := { name := "runWords", fn := fun _ => fun
  | [d1, d2, d3] => { results := [.lit (.bool false)], args := [d1, d2, d3] }
  | _ => none }
def RunWordsWrongFalsely : Prop := runWordsRow.holds Try.pinned (OpenSpec.ofChange runWordsWrong)

/- THE SECOND FORM. 'bulk': how many values and letters a reading holds, each counted each time it is reached (what is shared counts as often as it is met; a slice's spare places count too). A statement '..UptoSaid' is the law's where the arguments, and the package variables that the reading takes, are together of bulk at most 1048576: NARROWER than '..Said'. Prove '..Said' where nothing that the law and all that it calls make is longer than what came in: it says more and counts as full. Else prove '..UptoSaid'. A law counts once. -/
mutual
def uptoBulk {H : Type} : DataW H → Nat
  | .lit (.string bytes) => bytes.length + 1
  | .lit _ => 1
  | .nil => 1
  | .ptr d => uptoBulk d + 1
  | .slice elems spare => uptoBulkAll elems + uptoBulkAll spare + 1
  | .agg parts => uptoBulkAll parts + 1
  | .iface _ d => uptoBulk d + 1
  | .map entries => uptoBulkEntries entries + 1
  | .held _ => 1
def uptoBulkAll {H : Type} : List (DataW H) → Nat
  | [] => 0
  | d :: r => uptoBulk d + uptoBulkAll r
def uptoBulkEntries {H : Type} : List (Lit × DataW H) → Nat
  | [] => 0
  | x :: r => uptoBulkEntry x + uptoBulkEntries r
def uptoBulkEntry {H : Type} : Lit × DataW H → Nat
  | (.string bytes, d) => bytes.length + uptoBulk d + 1
  | (_, d) => uptoBulk d + 1
 end
def uptoSmall : (H : Type) → List (DataW H) → Bool := fun _ ds => decide (uptoBulkAll ds ≤ 1048576)
def OpenSpec.upto (s : _root_.Go.ChangeSpec) : _root_.Go.OpenSpec := { _root_.Go.OpenSpec.ofChange s with cond := some uptoSmall }

/-- 'darninglaw07.SchemaChecks', WHERE WHAT IT READS IS OF BULK AT MOST 1048576: true; the input reads as it did. -/
def schemaChecksUptoRow : OpenClaim := { program := "ytlmmlmmadgcmcaa", sum := "139d30d51130dd75a445e74cd8e53ffc82e642800cdb02301685434cf620750d", func := "darning/darninglaw07.SchemaChecks", spec := "schemaChecks", plainKeys := false, apart := false, narrowed := true }
def SchemaChecksUptoSaid : Prop := schemaChecksUptoRow.holds Try.pinned (OpenSpec.upto schemaChecksSpec)

/-- 'darninglaw07.SchemaEach', WHERE WHAT IT READS IS OF BULK AT MOST 1048576: true; the input reads as it did. -/
def schemaEachUptoRow : OpenClaim := { program := "ytlmmlmmadgcmcaa", sum := "139d30d51130dd75a445e74cd8e53ffc82e642800cdb02301685434cf620750d", func := "darning/darninglaw07.SchemaEach", spec := "schemaEach", unfollowed := true, recurses := true, plainKeys := false, apart := false, narrowed := true }
def SchemaEachUptoSaid : Prop := schemaEachUptoRow.holds Try.pinned (OpenSpec.upto schemaEachSpec)

/-- 'darninglaw10.ViewLooks', WHERE WHAT IT READS IS OF BULK AT MOST 1048576: true; the input reads as it did. -/
def viewLooksUptoRow : OpenClaim := { program := "ytlmmlmmadgcmcaa", sum := "139d30d51130dd75a445e74cd8e53ffc82e642800cdb02301685434cf620750d", func := "darning/darninglaw10.ViewLooks", spec := "viewLooks", unfollowed := true, recurses := true, plainKeys := false, apart := false, narrowed := true }
def ViewLooksUptoSaid : Prop := viewLooksUptoRow.holds Try.pinned (OpenSpec.upto viewLooksSpec)

/-- 'darninglaw08.ScalarPuts', WHERE WHAT IT READS IS OF BULK AT MOST 1048576: true; the input reads as it did. -/
def scalarPutsUptoRow : OpenClaim := { program := "ytlmmlmmadgcmcaa", sum := "139d30d51130dd75a445e74cd8e53ffc82e642800cdb02301685434cf620750d", func := "darning/darninglaw08.ScalarPuts", spec := "scalarPuts", recurses := true, plainKeys := false, apart := false, narrowed := true }
def ScalarPutsUptoSaid : Prop := scalarPutsUptoRow.holds Try.pinned (OpenSpec.upto scalarPutsSpec)

/-- 'darninglaw08.ScalarReads', WHERE WHAT IT READS IS OF BULK AT MOST 1048576: true; the input reads as it did. -/
def scalarReadsUptoRow : OpenClaim := { program := "ytlmmlmmadgcmcaa", sum := "139d30d51130dd75a445e74cd8e53ffc82e642800cdb02301685434cf620750d", func := "darning/darninglaw08.ScalarReads", spec := "scalarReads", recurses := true, plainKeys := false, apart := false, narrowed := true }
def ScalarReadsUptoSaid : Prop := scalarReadsUptoRow.holds Try.pinned (OpenSpec.upto scalarReadsSpec)

/-- 'darninglaw08.ScalarSame', WHERE WHAT IT READS IS OF BULK AT MOST 1048576: true; the input reads as it did. -/
def scalarSameUptoRow : OpenClaim := { program := "ytlmmlmmadgcmcaa", sum := "139d30d51130dd75a445e74cd8e53ffc82e642800cdb02301685434cf620750d", func := "darning/darninglaw08.ScalarSame", spec := "scalarSame", plainKeys := false, apart := false, narrowed := true }
def ScalarSameUptoSaid : Prop := scalarSameUptoRow.holds Try.pinned (OpenSpec.upto scalarSameSpec)

/-- 'darninglaw09.RunCuts', WHERE WHAT IT READS IS OF BULK AT MOST 1048576: true; the input reads as it did. -/
def runCutsUptoRow : OpenClaim := { program := "ytlmmlmmadgcmcaa", sum := "139d30d51130dd75a445e74cd8e53ffc82e642800cdb02301685434cf620750d", func := "darning/darninglaw09.RunCuts", spec := "runCuts", unfollowed := true, recurses := true, plainKeys := false, apart := false, narrowed := true }
def RunCutsUptoSaid : Prop := runCutsUptoRow.holds Try.pinned (OpenSpec.upto runCutsSpec)

/-- 'darninglaw09.RunTogether', WHERE WHAT IT READS IS OF BULK AT MOST 1048576: true; the input reads as it did. -/
def runTogetherUptoRow : OpenClaim := { program := "ytlmmlmmadgcmcaa", sum := "139d30d51130dd75a445e74cd8e53ffc82e642800cdb02301685434cf620750d", func := "darning/darninglaw09.RunTogether", spec := "runTogether", unfollowed := true, recurses := true, plainKeys := false, apart := false, narrowed := true }
def RunTogetherUptoSaid : Prop := runTogetherUptoRow.holds Try.pinned (OpenSpec.upto runTogetherSpec)

/-- 'darninglaw10.ViewSplit', WHERE WHAT IT READS IS OF BULK AT MOST 1048576: true; the input reads as it did. -/
def viewSplitUptoRow : OpenClaim := { program := "ytlmmlmmadgcmcaa", sum := "139d30d51130dd75a445e74cd8e53ffc82e642800cdb02301685434cf620750d", func := "darning/darninglaw10.ViewSplit", spec := "viewSplit", unfollowed := true, recurses := true, plainKeys := false, apart := false, narrowed := true }
def ViewSplitUptoSaid : Prop := viewSplitUptoRow.holds Try.pinned (OpenSpec.upto viewSplitSpec)

/-- 'darninglaw10.ViewParts', WHERE WHAT IT READS IS OF BULK AT MOST 1048576: true; the input reads as it did. -/
def viewPartsUptoRow : OpenClaim := { program := "ytlmmlmmadgcmcaa", sum := "139d30d51130dd75a445e74cd8e53ffc82e642800cdb02301685434cf620750d", func := "darning/darninglaw10.ViewParts", spec := "viewParts", unfollowed := true, recurses := true, plainKeys := false, apart := false, narrowed := true }
def ViewPartsUptoSaid : Prop := viewPartsUptoRow.holds Try.pinned (OpenSpec.upto viewPartsSpec)

/-- 'darninglaw09.RunPacks', WHERE WHAT IT READS IS OF BULK AT MOST 1048576: true; the input reads as it did. -/
def runPacksUptoRow : OpenClaim := { program := "ytlmmlmmadgcmcaa", sum := "139d30d51130dd75a445e74cd8e53ffc82e642800cdb02301685434cf620750d", func := "darning/darninglaw09.RunPacks", spec := "runPacks", unfollowed := true, recurses := true, plainKeys := false, apart := false, narrowed := true }
def RunPacksUptoSaid : Prop := runPacksUptoRow.holds Try.pinned (OpenSpec.upto runPacksSpec)

/-- 'darninglaw09.RunWords', WHERE WHAT IT READS IS OF BULK AT MOST 1048576: true; the input reads as it did. -/
def runWordsUptoRow : OpenClaim := { program := "ytlmmlmmadgcmcaa", sum := "139d30d51130dd75a445e74cd8e53ffc82e642800cdb02301685434cf620750d", func := "darning/darninglaw09.RunWords", spec := "runWords", unfollowed := true, recurses := true, plainKeys := false, apart := false, narrowed := true }
def RunWordsUptoSaid : Prop := runWordsUptoRow.holds Try.pinned (OpenSpec.upto runWordsSpec)

end Rows
end Go.Proofs.Ytlmmlmmadgcmcaa
