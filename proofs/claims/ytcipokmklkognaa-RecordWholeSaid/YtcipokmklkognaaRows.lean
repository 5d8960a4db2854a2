/-
  No cell of these rows narrows 'for every input' (looked for: loops, veiled, ifaces, maps, wideKeys, modest, calm, conditions, laid).
  DERIVED. THE GIVEN ROWS OF THIS SEAT. 12 by the template 'for every input the law returns true; each argument reads behind the call as it read before'; 0 by the template 'total and deterministic' (their statements: YtcipokmklkognaaTotals.lean).
  GIVEN WITH THE SEED: the statements are not yours to turn. If you find one false, say at which input.
  Laid BY PROGRAM, IN A SANDBOX (cutbox-rows.mjs): the forced cells as the released guide's own fill.sh prints them over the translation 62d1339a8ed9224a… (all of the seat's roots in one cut). By AI agents, Wed Nov 11 2026. No macro, syntax, notation, axiom, sorry.
-/
import Derived.Test.YtcipokmklkognaaChecked
import GoSem.Claim
import GoSem.ClaimJoined
import GoSem.ClaimMapViews
import Derived.JoinedTies
import Derived.KernelRfl
namespace Go.Proofs.Ytcipokmklkognaa
/- THE CELL 'sum', in the pinned program and in every row, IS THE sha256 OF THE DUMP (.gsa) THAT YtcipokmklkognaaProg.lean LOADS. Nothing in Lean hashes anything: it is a label: what it is worth is what the hold of that sum in a sandbox is worth. -/
noncomputable def Try.pinned : Pinned := { name := "ytcipokmklkognaa", sum := "62d1339a8ed9224ab594b6973cca8ecb9ae68218046c9ee9235a4ef91f102a32", checked := Try.checked }
namespace Rows
def none {H : Type} : Left H := { results := [], args := [] }

/-- 'darninglaw04.UtfFirst': WHATEVER THE INPUT: true; the input reads as it did. -/
def utfFirstSpec : ChangeSpec := { name := "utfFirst", fn := fun _ => fun
  | [d] => { results := [.lit (.bool true)], args := [d] }
  | _ => none }
def utfFirstRow : OpenClaim := { program := "ytcipokmklkognaa", sum := "62d1339a8ed9224ab594b6973cca8ecb9ae68218046c9ee9235a4ef91f102a32", func := "darning/darninglaw04.UtfFirst", spec := "utfFirst", apart := false }
def UtfFirstSaid : Prop := utfFirstRow.holds Try.pinned (OpenSpec.ofChange utfFirstSpec)

/-- ITS FALSE NEIGHBOUR: 'it returns false'. Refute it at one input. -/
def utfFirstWrong : ChangeSpec := { name := "utfFirst", fn := fun _ => fun
  | [d] => { results := [.lit (.bool false)], args := [d] }
  | _ => none }
def UtfFirstWrongFalsely : Prop := utfFirstRow.holds Try.pinned (OpenSpec.ofChange utfFirstWrong)

/-- 'darninglaw03.TagBack': WHATEVER THE INPUT: true; the input reads as it did. -/
def tagBackSpec : ChangeSpec := { name := "tagBack", fn := fun _ => fun
  | [d1, d2] => { results := [.lit (.bool true)], args := [d1, d2] }
  | _ => none }
def tagBackRow : OpenClaim := { program := "ytcipokmklkognaa", sum := "62d1339a8ed9224ab594b6973cca8ecb9ae68218046c9ee9235a4ef91f102a32", func := "darning/darninglaw03.TagBack", spec := "tagBack", apart := false }
def TagBackSaid : Prop := tagBackRow.holds Try.pinned (OpenSpec.ofChange tagBackSpec)

/-- ITS FALSE NEIGHBOUR: 'it returns false'. Refute it at one input. -/
def tagBackWrong : ChangeSpec := { name := "tagBack", fn := fun _ => fun
  | [d1, d2] => { results := [.lit (.bool false)], args := [d1, d2] }
  | _ => none }
def TagBackWrongFalsely : Prop := tagBackRow.holds Try.pinned (OpenSpec.ofChange tagBackWrong)

/-- 'darninglaw06.KindForms': WHATEVER THE INPUT: true; the input reads as it did. -/
def kindFormsSpec : ChangeSpec := { name := "kindForms", fn := fun _ => fun
  | [d1, d2] => { results := [.lit (.bool true)], args := [d1, d2] }
  | _ => none }
def kindFormsRow : OpenClaim := { program := "ytcipokmklkognaa", sum := "62d1339a8ed9224ab594b6973cca8ecb9ae68218046c9ee9235a4ef91f102a32", func := "darning/darninglaw06.KindForms", spec := "kindForms", apart := false }
def KindFormsSaid : Prop := kindFormsRow.holds Try.pinned (OpenSpec.ofChange kindFormsSpec)

/-- ITS FALSE NEIGHBOUR: 'it returns false'. Refute it at one input. -/
def kindFormsWrong : ChangeSpec := { name := "kindForms", fn := fun _ => fun
  | [d1, d2] => { results := [.lit (.bool false)], args := [d1, d2] }
  | _ => none }
def KindFormsWrongFalsely : Prop := kindFormsRow.holds Try.pinned (OpenSpec.ofChange kindFormsWrong)

/-- 'darninglaw06.KindWords': WHATEVER THE INPUT: true; the input reads as it did. -/
def kindWordsSpec : ChangeSpec := { name := "kindWords", fn := fun _ => fun
  | [d1, d2] => { results := [.lit (.bool true)], args := [d1, d2] }
  | _ => none }
def kindWordsRow : OpenClaim := { program := "ytcipokmklkognaa", sum := "62d1339a8ed9224ab594b6973cca8ecb9ae68218046c9ee9235a4ef91f102a32", func := "darning/darninglaw06.KindWords", spec := "kindWords", apart := false }
def KindWordsSaid : Prop := kindWordsRow.holds Try.pinned (OpenSpec.ofChange kindWordsSpec)

/-- ITS FALSE NEIGHBOUR: 'it returns false'. Refute it at one input. -/
def kindWordsWrong : ChangeSpec := { name := "kindWords", fn := fun _ => fun
  | [d1, d2] => { results := [.lit (.bool false)], args := [d1, d2] }
  | _ => none }
def KindWordsWrongFalsely : Prop := kindWordsRow.holds Try.pinned (OpenSpec.ofChange kindWordsWrong)

/-- 'darninglaw03.TagPuts': WHATEVER THE INPUT: true; the input reads as it did. -/
def tagPutsSpec : ChangeSpec := { name := "tagPuts", fn := fun _ => fun
  | [d1, d2, d3] => { results := [.lit (.bool true)], args := [d1, d2, d3] }
  | _ => none }
def tagPutsRow : OpenClaim := { program := "ytcipokmklkognaa", sum := "62d1339a8ed9224ab594b6973cca8ecb9ae68218046c9ee9235a4ef91f102a32", func := "darning/darninglaw03.TagPuts", spec := "tagPuts", recurses := true, apart := false }
def TagPutsSaid : Prop := tagPutsRow.holds Try.pinned (OpenSpec.ofChange tagPutsSpec)

/-- ITS FALSE NEIGHBOUR: 'it returns false'. Refute it at one input. -/
def tagPutsWrong : ChangeSpec := { name := "tagPuts", fn := fun _ => fun
  | [d1, d2, d3] => { results := [.lit (.bool false)], args := [d1, d2, d3] }
  | _ => none }
def TagPutsWrongFalsely : Prop := tagPutsRow.holds Try.pinned (OpenSpec.ofChange tagPutsWrong)

/-- 'darninglaw04.UtfCuts': WHATEVER THE INPUT: true; the input reads as it did. -/
def utfCutsSpec : ChangeSpec := { name := "utfCuts", fn := fun _ => fun
  | [d1, d2] => { results := [.lit (.bool true)], args := [d1, d2] }
  | _ => none }
def utfCutsRow : OpenClaim := { program := "ytcipokmklkognaa", sum := "62d1339a8ed9224ab594b6973cca8ecb9ae68218046c9ee9235a4ef91f102a32", func := "darning/darninglaw04.UtfCuts", spec := "utfCuts", apart := false }
def UtfCutsSaid : Prop := utfCutsRow.holds Try.pinned (OpenSpec.ofChange utfCutsSpec)

/-- ITS FALSE NEIGHBOUR: 'it returns false'. Refute it at one input. -/
def utfCutsWrong : ChangeSpec := { name := "utfCuts", fn := fun _ => fun
  | [d1, d2] => { results := [.lit (.bool false)], args := [d1, d2] }
  | _ => none }
def UtfCutsWrongFalsely : Prop := utfCutsRow.holds Try.pinned (OpenSpec.ofChange utfCutsWrong)

/-- 'darninglaw04.UtfTogether': WHATEVER THE INPUT: true; the input reads as it did. -/
def utfTogetherSpec : ChangeSpec := { name := "utfTogether", fn := fun _ => fun
  | [d1, d2, d3, d4] => { results := [.lit (.bool true)], args := [d1, d2, d3, d4] }
  | _ => none }
def utfTogetherRow : OpenClaim := { program := "ytcipokmklkognaa", sum := "62d1339a8ed9224ab594b6973cca8ecb9ae68218046c9ee9235a4ef91f102a32", func := "darning/darninglaw04.UtfTogether", spec := "utfTogether", apart := false }
def UtfTogetherSaid : Prop := utfTogetherRow.holds Try.pinned (OpenSpec.ofChange utfTogetherSpec)

/-- ITS FALSE NEIGHBOUR: 'it returns false'. Refute it at one input. -/
def utfTogetherWrong : ChangeSpec := { name := "utfTogether", fn := fun _ => fun
  | [d1, d2, d3, d4] => { results := [.lit (.bool false)], args := [d1, d2, d3, d4] }
  | _ => none }
def UtfTogetherWrongFalsely : Prop := utfTogetherRow.holds Try.pinned (OpenSpec.ofChange utfTogetherWrong)

/-- 'darninglaw06.KindStays': WHATEVER THE INPUT: true; the input reads as it did. -/
def kindStaysSpec : ChangeSpec := { name := "kindStays", fn := fun _ => fun
  | [d1, d2, d3] => { results := [.lit (.bool true)], args := [d1, d2, d3] }
  | _ => none }
def kindStaysRow : OpenClaim := { program := "ytcipokmklkognaa", sum := "62d1339a8ed9224ab594b6973cca8ecb9ae68218046c9ee9235a4ef91f102a32", func := "darning/darninglaw06.KindStays", spec := "kindStays", apart := false }
def KindStaysSaid : Prop := kindStaysRow.holds Try.pinned (OpenSpec.ofChange kindStaysSpec)

/-- ITS FALSE NEIGHBOUR: 'it returns false'. Refute it at one input. -/
def kindStaysWrong : ChangeSpec := { name := "kindStays", fn := fun _ => fun
  | [d1, d2, d3] => { results := [.lit (.bool false)], args := [d1, d2, d3] }
  | _ => none }
def KindStaysWrongFalsely : Prop := kindStaysRow.holds Try.pinned (OpenSpec.ofChange kindStaysWrong)

/-- 'darninglaw05.RecordSplits': WHATEVER THE INPUT: true; the input reads as it did. -/
def recordSplitsSpec : ChangeSpec := { name := "recordSplits", fn := fun _ => fun
  | [d1, d2] => { results := [.lit (.bool true)], args := [d1, d2] }
  | _ => none }
def recordSplitsRow : OpenClaim := { program := "ytcipokmklkognaa", sum := "62d1339a8ed9224ab594b6973cca8ecb9ae68218046c9ee9235a4ef91f102a32", func := "darning/darninglaw05.RecordSplits", spec := "recordSplits", apart := false }
def RecordSplitsSaid : Prop := recordSplitsRow.holds Try.pinned (OpenSpec.ofChange recordSplitsSpec)

/-- ITS FALSE NEIGHBOUR: 'it returns false'. Refute it at one input. -/
def recordSplitsWrong : ChangeSpec := { name := "recordSplits", fn := fun _ => fun
  | [d1, d2] => { results := [.lit (.bool false)], args := [d1, d2] }
  | _ => none }
def RecordSplitsWrongFalsely : Prop := recordSplitsRow.holds Try.pinned (OpenSpec.ofChange recordSplitsWrong)

/-- 'darninglaw05.RecordMore': WHATEVER THE INPUT: true; the input reads as it did. -/
def recordMoreSpec : ChangeSpec := { name := "recordMore", fn := fun _ => fun
  | [d1, d2] => { results := [.lit (.bool true)], args := [d1, d2] }
  | _ => none }
def recordMoreRow : OpenClaim := { program := "ytcipokmklkognaa", sum := "62d1339a8ed9224ab594b6973cca8ecb9ae68218046c9ee9235a4ef91f102a32", func := "darning/darninglaw05.RecordMore", spec := "recordMore", apart := false }
def RecordMoreSaid : Prop := recordMoreRow.holds Try.pinned (OpenSpec.ofChange recordMoreSpec)

/-- ITS FALSE NEIGHBOUR: 'it returns false'. Refute it at one input. -/
def recordMoreWrong : ChangeSpec := { name := "recordMore", fn := fun _ => fun
  | [d1, d2] => { results := [.lit (.bool false)], args := [d1, d2] }
  | _ => none }
def RecordMoreWrongFalsely : Prop := recordMoreRow.holds Try.pinned (OpenSpec.ofChange recordMoreWrong)

/-- 'darninglaw05.RecordPuts': WHATEVER THE INPUT: true; the input reads as it did. -/
def recordPutsSpec : ChangeSpec := { name := "recordPuts", fn := fun _ => fun
  | [d1, d2, d3, d4] => { results := [.lit (.bool true)], args := [d1, d2, d3, d4] }
  | _ => none }
def recordPutsRow : OpenClaim := { program := "ytcipokmklkognaa", sum := "62d1339a8ed9224ab594b6973cca8ecb9ae68218046c9ee9235a4ef91f102a32", func := "darning/darninglaw05.RecordPuts", spec := "recordPuts", recurses := true, apart := false }
def RecordPutsSaid : Prop := recordPutsRow.holds Try.pinned (OpenSpec.ofChange recordPutsSpec)

/-- ITS FALSE NEIGHBOUR: 'it returns false'. Refute it at one input. -/
def recordPutsWrong : ChangeSpec := { name := "recordPuts", fn := fun _ => fun
  | [d1, d2, d3, d4] => { results := [.lit (.bool false)], args := [d1, d2, d3, d4] }
  | _ => none }
def RecordPutsWrongFalsely : Prop := recordPutsRow.holds Try.pinned (OpenSpec.ofChange recordPutsWrong)

/-- 'darninglaw05.RecordWhole': WHATEVER THE INPUT: true; the input reads as it did. -/
def recordWholeSpec : ChangeSpec := { name := "recordWhole", fn := fun _ => fun
  | [d] => { results := [.lit (.bool true)], args := [d] }
  | _ => none }
def recordWholeRow : OpenClaim := { program := "ytcipokmklkognaa", sum := "62d1339a8ed9224ab594b6973cca8ecb9ae68218046c9ee9235a4ef91f102a32", func := "darning/darninglaw05.RecordWhole", spec := "recordWhole", apart := false }
def RecordWholeSaid : Prop := recordWholeRow.holds Try.pinned (OpenSpec.ofChange recordWholeSpec)

/-- ITS FALSE NEIGHBOUR: 'it returns false'. Refute it at one input. -/
def recordWholeWrong : ChangeSpec := { name := "recordWhole", fn := fun _ => fun
  | [d] => { results := [.lit (.bool false)], args := [d] }
  | _ => none }
def RecordWholeWrongFalsely : Prop := recordWholeRow.holds Try.pinned (OpenSpec.ofChange recordWholeWrong)

/- THE SECOND FORM. 'bulk': how many values and letters a reading holds, each counted each time it is reached (what is shared counts as often as it is met; a slice's spare places count too). A statement '..UptoSaid' is the law's where the arguments, and the package variables that the reading takes, are together of bulk at most 1048576: NARROWER than '..Said'. Prove '..Said' where nothing that the law and all that it calls make is longer than what came in: it says more and counts as full. Else prove '..UptoSaid'. A law counts once. -/
mutual
def uptoBulk {H : Type} : DataW H → Nat
  | .lit (.string bytes) => bytes.length + 1
  | .lit _ => 1
  | .nil => 1
  | .ptr d => uptoBulk d + 1
  | .slice elems spare => uptoBulkAll elems + uptoBulkAll spare + 1
  | .agg parts => uptoBulkAll parts + 1
  | .iface _ d => uptoBulk d + 1
  | .map entries => uptoBulkEntries entries + 1
  | .held _ => 1
def uptoBulkAll {H : Type} : List (DataW H) → Nat
  | [] => 0
  | d :: r => uptoBulk d + uptoBulkAll r
def uptoBulkEntries {H : Type} : List (Lit × DataW H) → Nat
  | [] => 0
  | x :: r => uptoBulkEntry x + uptoBulkEntries r
def uptoBulkEntry {H : Type} : Lit × DataW H → Nat
  | (.string bytes, d) => bytes.length + uptoBulk d + 1
  | (_, d) => uptoBulk d + 1
 end
def uptoSmall : (H : Type) → List (DataW H) → Bool := fun _ ds => decide (uptoBulkAll ds ≤ 1048576)
def OpenSpec.upto (s : _root_.Go.ChangeSpec) : _root_.Go.OpenSpec := { _root_.Go.OpenSpec.ofChange s with cond := some uptoSmall }

/-- 'darninglaw04.UtfFirst', WHERE WHAT IT READS IS OF BULK AT MOST 1048576: true; the input reads as it did. -/
def utfFirstUptoRow : OpenClaim := { program := "ytcipokmklkognaa", sum := "62d1339a8ed9224ab594b6973cca8ecb9ae68218046c9ee9235a4ef91f102a32", func := "darning/darninglaw04.UtfFirst", spec := "utfFirst", apart := false, narrowed := true }
def UtfFirstUptoSaid : Prop := utfFirstUptoRow.holds Try.pinned (OpenSpec.upto utfFirstSpec)

/-- 'darninglaw03.TagBack', WHERE WHAT IT READS IS OF BULK AT MOST 1048576: true; the input reads as it did. -/
def tagBackUptoRow : OpenClaim := { program := "ytcipokmklkognaa", sum := "62d1339a8ed9224ab594b6973cca8ecb9ae68218046c9ee9235a4ef91f102a32", func := "darning/darninglaw03.TagBack", spec := "tagBack", apart := false, narrowed := true }
def TagBackUptoSaid : Prop := tagBackUptoRow.holds Try.pinned (OpenSpec.upto tagBackSpec)

/-- 'darninglaw06.KindForms', WHERE WHAT IT READS IS OF BULK AT MOST 1048576: true; the input reads as it did. -/
def kindFormsUptoRow : OpenClaim := { program := "ytcipokmklkognaa", sum := "62d1339a8ed9224ab594b6973cca8ecb9ae68218046c9ee9235a4ef91f102a32", func := "darning/darninglaw06.KindForms", spec := "kindForms", apart := false, narrowed := true }
def KindFormsUptoSaid : Prop := kindFormsUptoRow.holds Try.pinned (OpenSpec.upto kindFormsSpec)

/-- 'darninglaw06.KindWords', WHERE WHAT IT READS IS OF BULK AT MOST 1048576: true; the input reads as it did. -/
def kindWordsUptoRow : OpenClaim := { program := "ytcipokmklkognaa", sum := "62d1339a8ed9224ab594b6973cca8ecb9ae68218046c9ee9235a4ef91f102a32", func := "darning/darninglaw06.KindWords", spec := "kindWords", apart := false, narrowed := true }
def KindWordsUptoSaid : Prop := kindWordsUptoRow.holds Try.pinned (OpenSpec.upto kindWordsSpec)

/-- 'darninglaw03.TagPuts', WHERE WHAT IT READS IS OF BULK AT MOST 1048576: true; the input reads as it did. -/
def tagPutsUptoRow : OpenClaim := { program := "ytcipokmklkognaa", sum := "62d1339a8ed9224ab594b6973cca8ecb9ae68218046c9ee9235a4ef91f102a32", func := "darning/darninglaw03.TagPuts", spec := "tagPuts", recurses := true, apart := false, narrowed := true }
def TagPutsUptoSaid : Prop := tagPutsUptoRow.holds Try.pinned (OpenSpec.upto tagPutsSpec)

/-- 'darninglaw04.UtfCuts', WHERE WHAT IT READS IS OF BULK AT MOST 1048576: true; the input reads as it did. -/
def utfCutsUptoRow : OpenClaim := { program := "ytcipokmklkognaa", sum := "62d1339a8ed9224ab594b6973cca8ecb9ae68218046c9ee9235a4ef91f102a32", func := "darning/darninglaw04.UtfCuts", spec := "utfCuts", apart := false, narrowed := true }
def UtfCutsUptoSaid : Prop := utfCutsUptoRow.holds Try.pinned (OpenSpec.upto utfCutsSpec)

/-- 'darninglaw04.UtfTogether', WHERE WHAT IT READS IS OF BULK AT MOST 1048576: true; the input reads as it did. -/
def utfTogetherUptoRow : OpenClaim := { program := "ytcipokmklkognaa", sum := "62d1339a8ed9224ab594b6973cca8ecb9ae68218046c9ee9235a4ef91f102a32", func := "darning/darninglaw04.UtfTogether", spec := "utfTogether", apart := false, narrowed := true }
def UtfTogetherUptoSaid : Prop := utfTogetherUptoRow.holds Try.pinned (OpenSpec.upto utfTogetherSpec)

/-- 'darninglaw06.KindStays', WHERE WHAT IT READS IS OF BULK AT MOST 1048576: true; the input reads as it did. -/
def kindStaysUptoRow : OpenClaim := { program := "ytcipokmklkognaa", sum := "62d1339a8ed9224ab594b6973cca8ecb9ae68218046c9ee9235a4ef91f102a32", func := "darning/darninglaw06.KindStays", spec := "kindStays", apart := false, narrowed := true }
def KindStaysUptoSaid : Prop := kindStaysUptoRow.holds Try.pinned (OpenSpec.upto kindStaysSpec)

/-- 'darninglaw05.RecordSplits', WHERE WHAT IT READS IS OF BULK AT MOST 1048576: true; the input reads as it did. -/
def recordSplitsUptoRow : OpenClaim := { program := "ytcipokmklkognaa", sum := "62d1339a8ed9224ab594b6973cca8ecb9ae68218046c9ee9235a4ef91f102a32", func := "darning/darninglaw05.RecordSplits", spec := "recordSplits", apart := false, narrowed := true }
def RecordSplitsUptoSaid : Prop := recordSplitsUptoRow.holds Try.pinned (OpenSpec.upto recordSplitsSpec)

/-- 'darninglaw05.RecordMore', WHERE WHAT IT READS IS OF BULK AT MOST 1048576: true; the input reads as it did. -/
def recordMoreUptoRow : OpenClaim := { program := "ytcipokmklkognaa", sum := "62d1339a8ed9224ab594b6973cca8ecb9ae68218046c9ee9235a4ef91f102a32", func := "darning/darninglaw05.RecordMore", spec := "recordMore", apart := false, narrowed := true }
def RecordMoreUptoSaid : Prop := recordMoreUptoRow.holds Try.pinned (OpenSpec.upto recordMoreSpec)

/-- 'darninglaw05.RecordPuts', WHERE WHAT IT READS IS OF BULK AT MOST 1048576: true; the input reads as it did. -/
def recordPutsUptoRow : OpenClaim := { program := "ytcipokmklkognaa", sum := "62d1339a8ed9224ab594b6973cca8ecb9ae68218046c9ee9235a4ef91f102a32", func := "darning/darninglaw05.RecordPuts", spec := "recordPuts", recurses := true, apart := false, narrowed := true }
def RecordPutsUptoSaid : Prop := recordPutsUptoRow.holds Try.pinned (OpenSpec.upto recordPutsSpec)

/-- 'darninglaw05.RecordWhole', WHERE WHAT IT READS IS OF BULK AT MOST 1048576: true; the input reads as it did. -/
def recordWholeUptoRow : OpenClaim := { program := "ytcipokmklkognaa", sum := "62d1339a8ed9224ab594b6973cca8ecb9ae68218046c9ee9235a4ef91f102a32", func := "darning/darninglaw05.RecordWhole", spec := "recordWhole", apart := false, narrowed := true }
def RecordWholeUptoSaid : Prop := recordWholeUptoRow.holds Try.pinned (OpenSpec.upto recordWholeSpec)

end Rows
end Go.Proofs.Ytcipokmklkognaa
