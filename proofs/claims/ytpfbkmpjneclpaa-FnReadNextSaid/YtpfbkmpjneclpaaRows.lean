/-
  No cell of these rows narrows 'for every input' (looked for: loops, veiled, ifaces, maps, wideKeys, modest, calm, conditions, laid).
  DERIVED. THE GIVEN ROWS OF THIS SEAT. 12 by the template 'for every input the law returns true; each argument reads behind the call as it read before'; 0 by the template 'total and deterministic' (their statements: YtpfbkmpjneclpaaTotals.lean).
  GIVEN WITH THE SEED: the statements are not yours to turn. If you find one false, say at which input.
  Laid BY PROGRAM, IN A SANDBOX (cutbox-rows.mjs): the forced cells as the released guide's own fill.sh prints them over the translation c48c7350c1043928… (all of the seat's roots in one cut). By AI agents, Wed Nov 11 2026. No macro, syntax, notation, axiom, sorry.
-/
import Derived.Test.YtpfbkmpjneclpaaChecked
import GoSem.Claim
import GoSem.ClaimJoined
import GoSem.ClaimMapViews
import Derived.JoinedTies
import Derived.KernelRfl
namespace Go.Proofs.Ytpfbkmpjneclpaa
/- THE CELL 'sum', in the pinned program and in every row, IS THE sha256 OF THE DUMP (.gsa) THAT YtpfbkmpjneclpaaProg.lean LOADS. Nothing in Lean hashes anything: it is a label: what it is worth is what the hold of that sum in a sandbox is worth. -/
noncomputable def Try.pinned : Pinned := { name := "ytpfbkmpjneclpaa", sum := "c48c7350c10439287a43cbfd52636b4c10a3f4e613876fb70f66f6783b9a1c92", checked := Try.checked }
namespace Rows
def none {H : Type} : Left H := { results := [], args := [] }

/-- 'laws.FnExactPartsValid': WHATEVER THE INPUT: true; the input reads as it did. -/
def fnExactPartsValidSpec : ChangeSpec := { name := "fnExactPartsValid", fn := fun _ => fun
  | [d1, d2] => { results := [.lit (.bool true)], args := [d1, d2] }
  | _ => none }
def fnExactPartsValidRow : OpenClaim := { program := "ytpfbkmpjneclpaa", sum := "c48c7350c10439287a43cbfd52636b4c10a3f4e613876fb70f66f6783b9a1c92", func := "loop.example/blockstack/laws.FnExactPartsValid", spec := "fnExactPartsValid", apart := false }
def FnExactPartsValidSaid : Prop := fnExactPartsValidRow.holds Try.pinned (OpenSpec.ofChange fnExactPartsValidSpec)

/-- ITS FALSE NEIGHBOUR: 'it returns false'. Refute it at one input. -/
def fnExactPartsValidWrong : ChangeSpec := { name := "fnExactPartsValid", fn := fun _ => fun
  | [d1, d2] => { results := [.lit (.bool false)], args := [d1, d2] }
  | _ => none }
def FnExactPartsValidWrongFalsely : Prop := fnExactPartsValidRow.holds Try.pinned (OpenSpec.ofChange fnExactPartsValidWrong)

/-- 'laws.FnExactToDisk': WHATEVER THE INPUT: true; the input reads as it did. -/
def fnExactToDiskSpec : ChangeSpec := { name := "fnExactToDisk", fn := fun _ => fun
  | [d1, d2, d3, d4] => { results := [.lit (.bool true)], args := [d1, d2, d3, d4] }
  | _ => none }
def fnExactToDiskRow : OpenClaim := { program := "ytpfbkmpjneclpaa", sum := "c48c7350c10439287a43cbfd52636b4c10a3f4e613876fb70f66f6783b9a1c92", func := "loop.example/blockstack/laws.FnExactToDisk", spec := "fnExactToDisk", apart := false }
def FnExactToDiskSaid : Prop := fnExactToDiskRow.holds Try.pinned (OpenSpec.ofChange fnExactToDiskSpec)

/-- ITS FALSE NEIGHBOUR: 'it returns false'. Refute it at one input. -/
def fnExactToDiskWrong : ChangeSpec := { name := "fnExactToDisk", fn := fun _ => fun
  | [d1, d2, d3, d4] => { results := [.lit (.bool false)], args := [d1, d2, d3, d4] }
  | _ => none }
def FnExactToDiskWrongFalsely : Prop := fnExactToDiskRow.holds Try.pinned (OpenSpec.ofChange fnExactToDiskWrong)

/-- 'laws.FnExactFromDisk': WHATEVER THE INPUT: true; the input reads as it did. -/
def fnExactFromDiskSpec : ChangeSpec := { name := "fnExactFromDisk", fn := fun _ => fun
  | [d1, d2, d3] => { results := [.lit (.bool true)], args := [d1, d2, d3] }
  | _ => none }
def fnExactFromDiskRow : OpenClaim := { program := "ytpfbkmpjneclpaa", sum := "c48c7350c10439287a43cbfd52636b4c10a3f4e613876fb70f66f6783b9a1c92", func := "loop.example/blockstack/laws.FnExactFromDisk", spec := "fnExactFromDisk", apart := false }
def FnExactFromDiskSaid : Prop := fnExactFromDiskRow.holds Try.pinned (OpenSpec.ofChange fnExactFromDiskSpec)

/-- ITS FALSE NEIGHBOUR: 'it returns false'. Refute it at one input. -/
def fnExactFromDiskWrong : ChangeSpec := { name := "fnExactFromDisk", fn := fun _ => fun
  | [d1, d2, d3] => { results := [.lit (.bool false)], args := [d1, d2, d3] }
  | _ => none }
def FnExactFromDiskWrongFalsely : Prop := fnExactFromDiskRow.holds Try.pinned (OpenSpec.ofChange fnExactFromDiskWrong)

/-- 'laws.FnReadNext': WHATEVER THE INPUT: true; the input reads as it did. -/
def fnReadNextSpec : ChangeSpec := { name := "fnReadNext", fn := fun _ => fun
  | [d] => { results := [.lit (.bool true)], args := [d] }
  | _ => none }
def fnReadNextRow : OpenClaim := { program := "ytpfbkmpjneclpaa", sum := "c48c7350c10439287a43cbfd52636b4c10a3f4e613876fb70f66f6783b9a1c92", func := "loop.example/blockstack/laws.FnReadNext", spec := "fnReadNext", apart := false }
def FnReadNextSaid : Prop := fnReadNextRow.holds Try.pinned (OpenSpec.ofChange fnReadNextSpec)

/-- ITS FALSE NEIGHBOUR: 'it returns false'. Refute it at one input. -/
def fnReadNextWrong : ChangeSpec := { name := "fnReadNext", fn := fun _ => fun
  | [d] => { results := [.lit (.bool false)], args := [d] }
  | _ => none }
def FnReadNextWrongFalsely : Prop := fnReadNextRow.holds Try.pinned (OpenSpec.ofChange fnReadNextWrong)

/-- 'laws.FnPartsValid': WHATEVER THE INPUT: true; the input reads as it did. -/
def fnPartsValidSpec : ChangeSpec := { name := "fnPartsValid", fn := fun _ => fun
  | [d] => { results := [.lit (.bool true)], args := [d] }
  | _ => none }
def fnPartsValidRow : OpenClaim := { program := "ytpfbkmpjneclpaa", sum := "c48c7350c10439287a43cbfd52636b4c10a3f4e613876fb70f66f6783b9a1c92", func := "loop.example/blockstack/laws.FnPartsValid", spec := "fnPartsValid", apart := false }
def FnPartsValidSaid : Prop := fnPartsValidRow.holds Try.pinned (OpenSpec.ofChange fnPartsValidSpec)

/-- ITS FALSE NEIGHBOUR: 'it returns false'. Refute it at one input. -/
def fnPartsValidWrong : ChangeSpec := { name := "fnPartsValid", fn := fun _ => fun
  | [d] => { results := [.lit (.bool false)], args := [d] }
  | _ => none }
def FnPartsValidWrongFalsely : Prop := fnPartsValidRow.holds Try.pinned (OpenSpec.ofChange fnPartsValidWrong)

/-- 'laws.FnPartsCover': WHATEVER THE INPUT: true; the input reads as it did. -/
def fnPartsCoverSpec : ChangeSpec := { name := "fnPartsCover", fn := fun _ => fun
  | [d] => { results := [.lit (.bool true)], args := [d] }
  | _ => none }
def fnPartsCoverRow : OpenClaim := { program := "ytpfbkmpjneclpaa", sum := "c48c7350c10439287a43cbfd52636b4c10a3f4e613876fb70f66f6783b9a1c92", func := "loop.example/blockstack/laws.FnPartsCover", spec := "fnPartsCover", apart := false }
def FnPartsCoverSaid : Prop := fnPartsCoverRow.holds Try.pinned (OpenSpec.ofChange fnPartsCoverSpec)

/-- ITS FALSE NEIGHBOUR: 'it returns false'. Refute it at one input. -/
def fnPartsCoverWrong : ChangeSpec := { name := "fnPartsCover", fn := fun _ => fun
  | [d] => { results := [.lit (.bool false)], args := [d] }
  | _ => none }
def FnPartsCoverWrongFalsely : Prop := fnPartsCoverRow.holds Try.pinned (OpenSpec.ofChange fnPartsCoverWrong)

/-- 'laws.FnExactLargestGap': WHATEVER THE INPUT: true; the input reads as it did. -/
def fnExactLargestGapSpec : ChangeSpec := { name := "fnExactLargestGap", fn := fun _ => fun
  | [d1, d2] => { results := [.lit (.bool true)], args := [d1, d2] }
  | _ => none }
def fnExactLargestGapRow : OpenClaim := { program := "ytpfbkmpjneclpaa", sum := "c48c7350c10439287a43cbfd52636b4c10a3f4e613876fb70f66f6783b9a1c92", func := "loop.example/blockstack/laws.FnExactLargestGap", spec := "fnExactLargestGap", apart := false }
def FnExactLargestGapSaid : Prop := fnExactLargestGapRow.holds Try.pinned (OpenSpec.ofChange fnExactLargestGapSpec)

/-- ITS FALSE NEIGHBOUR: 'it returns false'. Refute it at one input. -/
def fnExactLargestGapWrong : ChangeSpec := { name := "fnExactLargestGap", fn := fun _ => fun
  | [d1, d2] => { results := [.lit (.bool false)], args := [d1, d2] }
  | _ => none }
def FnExactLargestGapWrongFalsely : Prop := fnExactLargestGapRow.holds Try.pinned (OpenSpec.ofChange fnExactLargestGapWrong)

/-- 'laws.FnExactAheadHits': WHATEVER THE INPUT: true; the input reads as it did. -/
def fnExactAheadHitsSpec : ChangeSpec := { name := "fnExactAheadHits", fn := fun _ => fun
  | [d] => { results := [.lit (.bool true)], args := [d] }
  | _ => none }
def fnExactAheadHitsRow : OpenClaim := { program := "ytpfbkmpjneclpaa", sum := "c48c7350c10439287a43cbfd52636b4c10a3f4e613876fb70f66f6783b9a1c92", func := "loop.example/blockstack/laws.FnExactAheadHits", spec := "fnExactAheadHits", unfollowed := true, recurses := true, apart := false }
def FnExactAheadHitsSaid : Prop := fnExactAheadHitsRow.holds Try.pinned (OpenSpec.ofChange fnExactAheadHitsSpec)

/-- ITS FALSE NEIGHBOUR: 'it returns false'. Refute it at one input. -/
def fnExactAheadHitsWrong : ChangeSpec := { name := "fnExactAheadHits", fn := fun _ => fun
  | [d] => { results := [.lit (.bool false)], args := [d] }
  | _ => none }
def FnExactAheadHitsWrongFalsely : Prop := fnExactAheadHitsRow.holds Try.pinned (OpenSpec.ofChange fnExactAheadHitsWrong)

/-- 'laws.FnToDisk': WHATEVER THE INPUT: true; the input reads as it did. -/
def fnToDiskSpec : ChangeSpec := { name := "fnToDisk", fn := fun _ => fun
  | [d] => { results := [.lit (.bool true)], args := [d] }
  | _ => none }
def fnToDiskRow : OpenClaim := { program := "ytpfbkmpjneclpaa", sum := "c48c7350c10439287a43cbfd52636b4c10a3f4e613876fb70f66f6783b9a1c92", func := "loop.example/blockstack/laws.FnToDisk", spec := "fnToDisk", apart := false }
def FnToDiskSaid : Prop := fnToDiskRow.holds Try.pinned (OpenSpec.ofChange fnToDiskSpec)

/-- ITS FALSE NEIGHBOUR: 'it returns false'. Refute it at one input. -/
def fnToDiskWrong : ChangeSpec := { name := "fnToDisk", fn := fun _ => fun
  | [d] => { results := [.lit (.bool false)], args := [d] }
  | _ => none }
def FnToDiskWrongFalsely : Prop := fnToDiskRow.holds Try.pinned (OpenSpec.ofChange fnToDiskWrong)

/-- 'laws.FnFromDisk': WHATEVER THE INPUT: true; the input reads as it did. -/
def fnFromDiskSpec : ChangeSpec := { name := "fnFromDisk", fn := fun _ => fun
  | [d] => { results := [.lit (.bool true)], args := [d] }
  | _ => none }
def fnFromDiskRow : OpenClaim := { program := "ytpfbkmpjneclpaa", sum := "c48c7350c10439287a43cbfd52636b4c10a3f4e613876fb70f66f6783b9a1c92", func := "loop.example/blockstack/laws.FnFromDisk", spec := "fnFromDisk", apart := false }
def FnFromDiskSaid : Prop := fnFromDiskRow.holds Try.pinned (OpenSpec.ofChange fnFromDiskSpec)

/-- ITS FALSE NEIGHBOUR: 'it returns false'. Refute it at one input. -/
def fnFromDiskWrong : ChangeSpec := { name := "fnFromDisk", fn := fun _ => fun
  | [d] => { results := [.lit (.bool false)], args := [d] }
  | _ => none }
def FnFromDiskWrongFalsely : Prop := fnFromDiskRow.holds Try.pinned (OpenSpec.ofChange fnFromDiskWrong)

/-- 'laws.FnAheadHits': WHATEVER THE INPUT: true; the input reads as it did. -/
def fnAheadHitsSpec : ChangeSpec := { name := "fnAheadHits", fn := fun _ => fun
  | [d] => { results := [.lit (.bool true)], args := [d] }
  | _ => none }
def fnAheadHitsRow : OpenClaim := { program := "ytpfbkmpjneclpaa", sum := "c48c7350c10439287a43cbfd52636b4c10a3f4e613876fb70f66f6783b9a1c92", func := "loop.example/blockstack/laws.FnAheadHits", spec := "fnAheadHits", unfollowed := true, recurses := true, apart := false }
def FnAheadHitsSaid : Prop := fnAheadHitsRow.holds Try.pinned (OpenSpec.ofChange fnAheadHitsSpec)

/-- ITS FALSE NEIGHBOUR: 'it returns false'. Refute it at one input. -/
def fnAheadHitsWrong : ChangeSpec := { name := "fnAheadHits", fn := fun _ => fun
  | [d] => { results := [.lit (.bool false)], args := [d] }
  | _ => none }
def FnAheadHitsWrongFalsely : Prop := fnAheadHitsRow.holds Try.pinned (OpenSpec.ofChange fnAheadHitsWrong)

/-- 'laws.FnLargestGap': WHATEVER THE INPUT: true; the input reads as it did. -/
def fnLargestGapSpec : ChangeSpec := { name := "fnLargestGap", fn := fun _ => fun
  | [d] => { results := [.lit (.bool true)], args := [d] }
  | _ => none }
def fnLargestGapRow : OpenClaim := { program := "ytpfbkmpjneclpaa", sum := "c48c7350c10439287a43cbfd52636b4c10a3f4e613876fb70f66f6783b9a1c92", func := "loop.example/blockstack/laws.FnLargestGap", spec := "fnLargestGap", apart := false }
def FnLargestGapSaid : Prop := fnLargestGapRow.holds Try.pinned (OpenSpec.ofChange fnLargestGapSpec)

/-- ITS FALSE NEIGHBOUR: 'it returns false'. Refute it at one input. -/
def fnLargestGapWrong : ChangeSpec := { name := "fnLargestGap", fn := fun _ => fun
  | [d] => { results := [.lit (.bool false)], args := [d] }
  | _ => none }
def FnLargestGapWrongFalsely : Prop := fnLargestGapRow.holds Try.pinned (OpenSpec.ofChange fnLargestGapWrong)

/- THE SECOND FORM. 'bulk': how many values and letters a reading holds, each counted each time it is reached (what is shared counts as often as it is met; a slice's spare places count too). A statement '..UptoSaid' is the law's where the arguments, and the package variables that the reading takes, are together of bulk at most 1048576: NARROWER than '..Said'. Prove '..Said' where nothing that the law and all that it calls make is longer than what came in: it says more and counts as full. Else prove '..UptoSaid'. A law counts once. -/
mutual
def uptoBulk {H : Type} : DataW H → Nat
  | .lit (.string bytes) => bytes.length + 1
  | .lit _ => 1
  | .nil => 1
  | .ptr d => uptoBulk d + 1
  | .slice elems spare => uptoBulkAll elems + uptoBulkAll spare + 1
  | .agg parts => uptoBulkAll parts + 1
  | .iface _ d => uptoBulk d + 1
  | .map entries => uptoBulkEntries entries + 1
  | .held _ => 1
def uptoBulkAll {H : Type} : List (DataW H) → Nat
  | [] => 0
  | d :: r => uptoBulk d + uptoBulkAll r
def uptoBulkEntries {H : Type} : List (Lit × DataW H) → Nat
  | [] => 0
  | x :: r => uptoBulkEntry x + uptoBulkEntries r
def uptoBulkEntry {H : Type} : Lit × DataW H → Nat
  | (.string bytes, d) => bytes.length + uptoBulk d + 1
  | (_, d) => uptoBulk d + 1
 end
def uptoSmall : (H : Type) → List (DataW H) → Bool := fun _ ds => decide (uptoBulkAll ds ≤ 1048576)
def OpenSpec.upto (s : _root_.Go.ChangeSpec) : _root_.Go.OpenSpec := { _root_.Go.OpenSpec.ofChange s with cond := some uptoSmall }

/-- 'laws.FnExactPartsValid', WHERE WHAT IT READS IS OF BULK AT MOST 1048576: true; the input reads as it did. -/
def fnExactPartsValidUptoRow : OpenClaim := { program := "ytpfbkmpjneclpaa", sum := "c48c7350c10439287a43cbfd52636b4c10a3f4e613876fb70f66f6783b9a1c92", func := "loop.example/blockstack/laws.FnExactPartsValid", spec := "fnExactPartsValid", apart := false, narrowed := true }
def FnExactPartsValidUptoSaid : Prop := fnExactPartsValidUptoRow.holds Try.pinned (OpenSpec.upto fnExactPartsValidSpec)

/-- 'laws.FnExactToDisk', WHERE WHAT IT READS IS OF BULK AT MOST 1048576: true; the input reads as it did. -/
def fnExactToDiskUptoRow : OpenClaim := { program := "ytpfbkmpjneclpaa", sum := "c48c7350c10439287a43cbfd52636b4c10a3f4e613876fb70f66f6783b9a1c92", func := "loop.example/blockstack/laws.FnExactToDisk", spec := "fnExactToDisk", apart := false, narrowed := true }
def FnExactToDiskUptoSaid : Prop := fnExactToDiskUptoRow.holds Try.pinned (OpenSpec.upto fnExactToDiskSpec)

/-- 'laws.FnExactFromDisk', WHERE WHAT IT READS IS OF BULK AT MOST 1048576: true; the input reads as it did. -/
def fnExactFromDiskUptoRow : OpenClaim := { program := "ytpfbkmpjneclpaa", sum := "c48c7350c10439287a43cbfd52636b4c10a3f4e613876fb70f66f6783b9a1c92", func := "loop.example/blockstack/laws.FnExactFromDisk", spec := "fnExactFromDisk", apart := false, narrowed := true }
def FnExactFromDiskUptoSaid : Prop := fnExactFromDiskUptoRow.holds Try.pinned (OpenSpec.upto fnExactFromDiskSpec)

/-- 'laws.FnReadNext', WHERE WHAT IT READS IS OF BULK AT MOST 1048576: true; the input reads as it did. -/
def fnReadNextUptoRow : OpenClaim := { program := "ytpfbkmpjneclpaa", sum := "c48c7350c10439287a43cbfd52636b4c10a3f4e613876fb70f66f6783b9a1c92", func := "loop.example/blockstack/laws.FnReadNext", spec := "fnReadNext", apart := false, narrowed := true }
def FnReadNextUptoSaid : Prop := fnReadNextUptoRow.holds Try.pinned (OpenSpec.upto fnReadNextSpec)

/-- 'laws.FnPartsValid', WHERE WHAT IT READS IS OF BULK AT MOST 1048576: true; the input reads as it did. -/
def fnPartsValidUptoRow : OpenClaim := { program := "ytpfbkmpjneclpaa", sum := "c48c7350c10439287a43cbfd52636b4c10a3f4e613876fb70f66f6783b9a1c92", func := "loop.example/blockstack/laws.FnPartsValid", spec := "fnPartsValid", apart := false, narrowed := true }
def FnPartsValidUptoSaid : Prop := fnPartsValidUptoRow.holds Try.pinned (OpenSpec.upto fnPartsValidSpec)

/-- 'laws.FnPartsCover', WHERE WHAT IT READS IS OF BULK AT MOST 1048576: true; the input reads as it did. -/
def fnPartsCoverUptoRow : OpenClaim := { program := "ytpfbkmpjneclpaa", sum := "c48c7350c10439287a43cbfd52636b4c10a3f4e613876fb70f66f6783b9a1c92", func := "loop.example/blockstack/laws.FnPartsCover", spec := "fnPartsCover", apart := false, narrowed := true }
def FnPartsCoverUptoSaid : Prop := fnPartsCoverUptoRow.holds Try.pinned (OpenSpec.upto fnPartsCoverSpec)

/-- 'laws.FnExactLargestGap', WHERE WHAT IT READS IS OF BULK AT MOST 1048576: true; the input reads as it did. -/
def fnExactLargestGapUptoRow : OpenClaim := { program := "ytpfbkmpjneclpaa", sum := "c48c7350c10439287a43cbfd52636b4c10a3f4e613876fb70f66f6783b9a1c92", func := "loop.example/blockstack/laws.FnExactLargestGap", spec := "fnExactLargestGap", apart := false, narrowed := true }
def FnExactLargestGapUptoSaid : Prop := fnExactLargestGapUptoRow.holds Try.pinned (OpenSpec.upto fnExactLargestGapSpec)

/-- 'laws.FnExactAheadHits', WHERE WHAT IT READS IS OF BULK AT MOST 1048576: true; the input reads as it did. -/
def fnExactAheadHitsUptoRow : OpenClaim := { program := "ytpfbkmpjneclpaa", sum := "c48c7350c10439287a43cbfd52636b4c10a3f4e613876fb70f66f6783b9a1c92", func := "loop.example/blockstack/laws.FnExactAheadHits", spec := "fnExactAheadHits", unfollowed := true, recurses := true, apart := false, narrowed := true }
def FnExactAheadHitsUptoSaid : Prop := fnExactAheadHitsUptoRow.holds Try.pinned (OpenSpec.upto fnExactAheadHitsSpec)

/-- 'laws.FnToDisk', WHERE WHAT IT READS IS OF BULK AT MOST 1048576: true; the input reads as it did. -/
def fnToDiskUptoRow : OpenClaim := { program := "ytpfbkmpjneclpaa", sum := "c48c7350c10439287a43cbfd52636b4c10a3f4e613876fb70f66f6783b9a1c92", func := "loop.example/blockstack/laws.FnToDisk", spec := "fnToDisk", apart := false, narrowed := true }
def FnToDiskUptoSaid : Prop := fnToDiskUptoRow.holds Try.pinned (OpenSpec.upto fnToDiskSpec)

/-- 'laws.FnFromDisk', WHERE WHAT IT READS IS OF BULK AT MOST 1048576: true; the input reads as it did. -/
def fnFromDiskUptoRow : OpenClaim := { program := "ytpfbkmpjneclpaa", sum := "c48c7350c10439287a43cbfd52636b4c10a3f4e613876fb70f66f6783b9a1c92", func := "loop.example/blockstack/laws.FnFromDisk", spec := "fnFromDisk", apart := false, narrowed := true }
def FnFromDiskUptoSaid : Prop := fnFromDiskUptoRow.holds Try.pinned (OpenSpec.upto fnFromDiskSpec)

/-- 'laws.FnAheadHits', WHERE WHAT IT READS IS OF BULK AT MOST 1048576: true; the input reads as it did. -/
def fnAheadHitsUptoRow : OpenClaim := { program := "ytpfbkmpjneclpaa", sum := "c48c7350c10439287a43cbfd52636b4c10a3f4e613876fb70f66f6783b9a1c92", func := "loop.example/blockstack/laws.FnAheadHits", spec := "fnAheadHits", unfollowed := true, recurses := true, apart := false, narrowed := true }
def FnAheadHitsUptoSaid : Prop := fnAheadHitsUptoRow.holds Try.pinned (OpenSpec.upto fnAheadHitsSpec)

/-- 'laws.FnLargestGap', WHERE WHAT IT READS IS OF BULK AT MOST 1048576: true; the input reads as it did. -/
def fnLargestGapUptoRow : OpenClaim := { program := "ytpfbkmpjneclpaa", sum := "c48c7350c10439287a43cbfd52636b4c10a3f4e613876fb70f66f6783b9a1c92", func := "loop.example/blockstack/laws.FnLargestGap", spec := "fnLargestGap", apart := false, narrowed := true }
def FnLargestGapUptoSaid : Prop := fnLargestGapUptoRow.holds Try.pinned (OpenSpec.upto fnLargestGapSpec)

end Rows
end Go.Proofs.Ytpfbkmpjneclpaa
