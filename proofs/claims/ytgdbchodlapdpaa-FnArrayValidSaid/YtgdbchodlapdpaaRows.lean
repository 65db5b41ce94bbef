/-
  No cell of these rows narrows 'for every input' (looked for: loops, veiled, ifaces, maps, wideKeys, modest, calm, conditions, laid).
  DERIVED. THE GIVEN ROWS OF THIS SEAT. 11 by the template 'for every input the law returns true; each argument reads behind the call as it read before'; 0 by the template 'total and deterministic' (their statements: YtgdbchodlapdpaaTotals.lean).
  GIVEN WITH THE SEED: the statements are not yours to turn. If you find one false, say at which input.
  Laid BY PROGRAM, IN A SANDBOX (cutbox-rows.mjs): the forced cells as the released guide's own fill.sh prints them over the translation 440ea15ad73dceb2… (all of the seat's roots in one cut). By AI agents, Wed Nov 11 2026. No macro, syntax, notation, axiom, sorry.
-/
import Derived.Test.YtgdbchodlapdpaaChecked
import GoSem.Claim
import GoSem.ClaimJoined
import GoSem.ClaimMapViews
import Derived.JoinedTies
import Derived.KernelRfl
namespace Go.Proofs.Ytgdbchodlapdpaa
/- THE CELL 'sum', in the pinned program and in every row, IS THE sha256 OF THE DUMP (.gsa) THAT YtgdbchodlapdpaaProg.lean LOADS. Nothing in Lean hashes anything: it is a label: what it is worth is what the hold of that sum in a sandbox is worth. -/
noncomputable def Try.pinned : Pinned := { name := "ytgdbchodlapdpaa", sum := "440ea15ad73dceb2ff8664968040ec5d76ce4e86500b820ba1f1543faad69a49", checked := Try.checked }
namespace Rows
def none {H : Type} : Left H := { results := [], args := [] }

/-- 'laws.FnExactArrayValid': WHATEVER THE INPUT: true; the input reads as it did. -/
def fnExactArrayValidSpec : ChangeSpec := { name := "fnExactArrayValid", fn := fun _ => fun
  | [d] => { results := [.lit (.bool true)], args := [d] }
  | _ => none }
def fnExactArrayValidRow : OpenClaim := { program := "ytgdbchodlapdpaa", sum := "440ea15ad73dceb2ff8664968040ec5d76ce4e86500b820ba1f1543faad69a49", func := "loop.example/blockstack/laws.FnExactArrayValid", spec := "fnExactArrayValid", unfollowed := true, recurses := true, apart := false }
def FnExactArrayValidSaid : Prop := fnExactArrayValidRow.holds Try.pinned (OpenSpec.ofChange fnExactArrayValidSpec)

/-- ITS FALSE NEIGHBOUR: 'it returns false'. Refute it at one input. -/
def fnExactArrayValidWrong : ChangeSpec := { name := "fnExactArrayValid", fn := fun _ => fun
  | [d] => { results := [.lit (.bool false)], args := [d] }
  | _ => none }
def FnExactArrayValidWrongFalsely : Prop := fnExactArrayValidRow.holds Try.pinned (OpenSpec.ofChange fnExactArrayValidWrong)

/-- 'laws.FnExactArrayConsistent': WHATEVER THE INPUT: true; the input reads as it did. -/
def fnExactArrayConsistentSpec : ChangeSpec := { name := "fnExactArrayConsistent", fn := fun _ => fun
  | [d] => { results := [.lit (.bool true)], args := [d] }
  | _ => none }
def fnExactArrayConsistentRow : OpenClaim := { program := "ytgdbchodlapdpaa", sum := "440ea15ad73dceb2ff8664968040ec5d76ce4e86500b820ba1f1543faad69a49", func := "loop.example/blockstack/laws.FnExactArrayConsistent", spec := "fnExactArrayConsistent", unfollowed := true, recurses := true, apart := false }
def FnExactArrayConsistentSaid : Prop := fnExactArrayConsistentRow.holds Try.pinned (OpenSpec.ofChange fnExactArrayConsistentSpec)

/-- ITS FALSE NEIGHBOUR: 'it returns false'. Refute it at one input. -/
def fnExactArrayConsistentWrong : ChangeSpec := { name := "fnExactArrayConsistent", fn := fun _ => fun
  | [d] => { results := [.lit (.bool false)], args := [d] }
  | _ => none }
def FnExactArrayConsistentWrongFalsely : Prop := fnExactArrayConsistentRow.holds Try.pinned (OpenSpec.ofChange fnExactArrayConsistentWrong)

/-- 'laws.FnArrayValid': WHATEVER THE INPUT: true; the input reads as it did. -/
def fnArrayValidSpec : ChangeSpec := { name := "fnArrayValid", fn := fun _ => fun
  | [d] => { results := [.lit (.bool true)], args := [d] }
  | _ => none }
def fnArrayValidRow : OpenClaim := { program := "ytgdbchodlapdpaa", sum := "440ea15ad73dceb2ff8664968040ec5d76ce4e86500b820ba1f1543faad69a49", func := "loop.example/blockstack/laws.FnArrayValid", spec := "fnArrayValid", unfollowed := true, recurses := true, apart := false }
def FnArrayValidSaid : Prop := fnArrayValidRow.holds Try.pinned (OpenSpec.ofChange fnArrayValidSpec)

/-- ITS FALSE NEIGHBOUR: 'it returns false'. Refute it at one input. -/
def fnArrayValidWrong : ChangeSpec := { name := "fnArrayValid", fn := fun _ => fun
  | [d] => { results := [.lit (.bool false)], args := [d] }
  | _ => none }
def FnArrayValidWrongFalsely : Prop := fnArrayValidRow.holds Try.pinned (OpenSpec.ofChange fnArrayValidWrong)

/-- 'laws.FnExactArrayRead': WHATEVER THE INPUT: true; the input reads as it did. -/
def fnExactArrayReadSpec : ChangeSpec := { name := "fnExactArrayRead", fn := fun _ => fun
  | [d1, d2, d3] => { results := [.lit (.bool true)], args := [d1, d2, d3] }
  | _ => none }
def fnExactArrayReadRow : OpenClaim := { program := "ytgdbchodlapdpaa", sum := "440ea15ad73dceb2ff8664968040ec5d76ce4e86500b820ba1f1543faad69a49", func := "loop.example/blockstack/laws.FnExactArrayRead", spec := "fnExactArrayRead", unfollowed := true, recurses := true, apart := false }
def FnExactArrayReadSaid : Prop := fnExactArrayReadRow.holds Try.pinned (OpenSpec.ofChange fnExactArrayReadSpec)

/-- ITS FALSE NEIGHBOUR: 'it returns false'. Refute it at one input. -/
def fnExactArrayReadWrong : ChangeSpec := { name := "fnExactArrayRead", fn := fun _ => fun
  | [d1, d2, d3] => { results := [.lit (.bool false)], args := [d1, d2, d3] }
  | _ => none }
def FnExactArrayReadWrongFalsely : Prop := fnExactArrayReadRow.holds Try.pinned (OpenSpec.ofChange fnExactArrayReadWrong)

/-- 'laws.FnArrayConsistent': WHATEVER THE INPUT: true; the input reads as it did. -/
def fnArrayConsistentSpec : ChangeSpec := { name := "fnArrayConsistent", fn := fun _ => fun
  | [d] => { results := [.lit (.bool true)], args := [d] }
  | _ => none }
def fnArrayConsistentRow : OpenClaim := { program := "ytgdbchodlapdpaa", sum := "440ea15ad73dceb2ff8664968040ec5d76ce4e86500b820ba1f1543faad69a49", func := "loop.example/blockstack/laws.FnArrayConsistent", spec := "fnArrayConsistent", unfollowed := true, recurses := true, apart := false }
def FnArrayConsistentSaid : Prop := fnArrayConsistentRow.holds Try.pinned (OpenSpec.ofChange fnArrayConsistentSpec)

/-- ITS FALSE NEIGHBOUR: 'it returns false'. Refute it at one input. -/
def fnArrayConsistentWrong : ChangeSpec := { name := "fnArrayConsistent", fn := fun _ => fun
  | [d] => { results := [.lit (.bool false)], args := [d] }
  | _ => none }
def FnArrayConsistentWrongFalsely : Prop := fnArrayConsistentRow.holds Try.pinned (OpenSpec.ofChange fnArrayConsistentWrong)

/-- 'laws.FnExactRebuildDisk': WHATEVER THE INPUT: true; the input reads as it did. -/
def fnExactRebuildDiskSpec : ChangeSpec := { name := "fnExactRebuildDisk", fn := fun _ => fun
  | [d1, d2] => { results := [.lit (.bool true)], args := [d1, d2] }
  | _ => none }
def fnExactRebuildDiskRow : OpenClaim := { program := "ytgdbchodlapdpaa", sum := "440ea15ad73dceb2ff8664968040ec5d76ce4e86500b820ba1f1543faad69a49", func := "loop.example/blockstack/laws.FnExactRebuildDisk", spec := "fnExactRebuildDisk", unfollowed := true, recurses := true, apart := false }
def FnExactRebuildDiskSaid : Prop := fnExactRebuildDiskRow.holds Try.pinned (OpenSpec.ofChange fnExactRebuildDiskSpec)

/-- ITS FALSE NEIGHBOUR: 'it returns false'. Refute it at one input. -/
def fnExactRebuildDiskWrong : ChangeSpec := { name := "fnExactRebuildDisk", fn := fun _ => fun
  | [d1, d2] => { results := [.lit (.bool false)], args := [d1, d2] }
  | _ => none }
def FnExactRebuildDiskWrongFalsely : Prop := fnExactRebuildDiskRow.holds Try.pinned (OpenSpec.ofChange fnExactRebuildDiskWrong)

/-- 'laws.FnArrayRead': WHATEVER THE INPUT: true; the input reads as it did. -/
def fnArrayReadSpec : ChangeSpec := { name := "fnArrayRead", fn := fun _ => fun
  | [d] => { results := [.lit (.bool true)], args := [d] }
  | _ => none }
def fnArrayReadRow : OpenClaim := { program := "ytgdbchodlapdpaa", sum := "440ea15ad73dceb2ff8664968040ec5d76ce4e86500b820ba1f1543faad69a49", func := "loop.example/blockstack/laws.FnArrayRead", spec := "fnArrayRead", unfollowed := true, recurses := true, apart := false }
def FnArrayReadSaid : Prop := fnArrayReadRow.holds Try.pinned (OpenSpec.ofChange fnArrayReadSpec)

/-- ITS FALSE NEIGHBOUR: 'it returns false'. Refute it at one input. -/
def fnArrayReadWrong : ChangeSpec := { name := "fnArrayRead", fn := fun _ => fun
  | [d] => { results := [.lit (.bool false)], args := [d] }
  | _ => none }
def FnArrayReadWrongFalsely : Prop := fnArrayReadRow.holds Try.pinned (OpenSpec.ofChange fnArrayReadWrong)

/-- 'laws.FnExactArrayWrite': WHATEVER THE INPUT: true; the input reads as it did. -/
def fnExactArrayWriteSpec : ChangeSpec := { name := "fnExactArrayWrite", fn := fun _ => fun
  | [d1, d2, d3] => { results := [.lit (.bool true)], args := [d1, d2, d3] }
  | _ => none }
def fnExactArrayWriteRow : OpenClaim := { program := "ytgdbchodlapdpaa", sum := "440ea15ad73dceb2ff8664968040ec5d76ce4e86500b820ba1f1543faad69a49", func := "loop.example/blockstack/laws.FnExactArrayWrite", spec := "fnExactArrayWrite", unfollowed := true, recurses := true, apart := false }
def FnExactArrayWriteSaid : Prop := fnExactArrayWriteRow.holds Try.pinned (OpenSpec.ofChange fnExactArrayWriteSpec)

/-- ITS FALSE NEIGHBOUR: 'it returns false'. Refute it at one input. -/
def fnExactArrayWriteWrong : ChangeSpec := { name := "fnExactArrayWrite", fn := fun _ => fun
  | [d1, d2, d3] => { results := [.lit (.bool false)], args := [d1, d2, d3] }
  | _ => none }
def FnExactArrayWriteWrongFalsely : Prop := fnExactArrayWriteRow.holds Try.pinned (OpenSpec.ofChange fnExactArrayWriteWrong)

/-- 'laws.FnArrayFill': WHATEVER THE INPUT: true; the input reads as it did. -/
def fnArrayFillSpec : ChangeSpec := { name := "fnArrayFill", fn := fun _ => fun
  | [d1, d2] => { results := [.lit (.bool true)], args := [d1, d2] }
  | _ => none }
def fnArrayFillRow : OpenClaim := { program := "ytgdbchodlapdpaa", sum := "440ea15ad73dceb2ff8664968040ec5d76ce4e86500b820ba1f1543faad69a49", func := "loop.example/blockstack/laws.FnArrayFill", spec := "fnArrayFill", unfollowed := true, recurses := true, apart := false }
def FnArrayFillSaid : Prop := fnArrayFillRow.holds Try.pinned (OpenSpec.ofChange fnArrayFillSpec)

/-- ITS FALSE NEIGHBOUR: 'it returns false'. Refute it at one input. -/
def fnArrayFillWrong : ChangeSpec := { name := "fnArrayFill", fn := fun _ => fun
  | [d1, d2] => { results := [.lit (.bool false)], args := [d1, d2] }
  | _ => none }
def FnArrayFillWrongFalsely : Prop := fnArrayFillRow.holds Try.pinned (OpenSpec.ofChange fnArrayFillWrong)

/-- 'laws.FnRebuildDisk': WHATEVER THE INPUT: true; the input reads as it did. -/
def fnRebuildDiskSpec : ChangeSpec := { name := "fnRebuildDisk", fn := fun _ => fun
  | [d] => { results := [.lit (.bool true)], args := [d] }
  | _ => none }
def fnRebuildDiskRow : OpenClaim := { program := "ytgdbchodlapdpaa", sum := "440ea15ad73dceb2ff8664968040ec5d76ce4e86500b820ba1f1543faad69a49", func := "loop.example/blockstack/laws.FnRebuildDisk", spec := "fnRebuildDisk", unfollowed := true, recurses := true, apart := false }
def FnRebuildDiskSaid : Prop := fnRebuildDiskRow.holds Try.pinned (OpenSpec.ofChange fnRebuildDiskSpec)

/-- ITS FALSE NEIGHBOUR: 'it returns false'. Refute it at one input. -/
def fnRebuildDiskWrong : ChangeSpec := { name := "fnRebuildDisk", fn := fun _ => fun
  | [d] => { results := [.lit (.bool false)], args := [d] }
  | _ => none }
def FnRebuildDiskWrongFalsely : Prop := fnRebuildDiskRow.holds Try.pinned (OpenSpec.ofChange fnRebuildDiskWrong)

/-- 'laws.FnArrayWrite': WHATEVER THE INPUT: true; the input reads as it did. -/
def fnArrayWriteSpec : ChangeSpec := { name := "fnArrayWrite", fn := fun _ => fun
  | [d] => { results := [.lit (.bool true)], args := [d] }
  | _ => none }
def fnArrayWriteRow : OpenClaim := { program := "ytgdbchodlapdpaa", sum := "440ea15ad73dceb2ff8664968040ec5d76ce4e86500b820ba1f1543faad69a49", func := "loop.example/blockstack/laws.FnArrayWrite", spec := "fnArrayWrite", unfollowed := true, recurses := true, apart := false }
def FnArrayWriteSaid : Prop := fnArrayWriteRow.holds Try.pinned (OpenSpec.ofChange fnArrayWriteSpec)

/-- ITS FALSE NEIGHBOUR: 'it returns false'. Refute it at one input. -/
def fnArrayWriteWrong : ChangeSpec := { name := "fnArrayWrite", fn := fun _ => fun
  | [d] => { results := [.lit (.bool false)], args := [d] }
  | _ => none }
def FnArrayWriteWrongFalsely : Prop := fnArrayWriteRow.holds Try.pinned (OpenSpec.ofChange fnArrayWriteWrong)

/- THE SECOND FORM. 'bulk': how many values and letters a reading holds, each counted each time it is reached (what is shared counts as often as it is met; a slice's spare places count too). A statement '..UptoSaid' is the law's where the arguments, and the package variables that the reading takes, are together of bulk at most 1048576: NARROWER than '..Said'. Prove '..Said' where nothing that the law and all that it calls make is longer than what came in: it says more and counts as full. Else prove '..UptoSaid'. A law counts once. -/
mutual
def uptoBulk {H : Type} : DataW H → Nat
  | .lit (.string bytes) => bytes.length + 1
  | .lit _ => 1
  | .nil => 1
  | .ptr d => uptoBulk d + 1
  | .slice elems spare => uptoBulkAll elems + uptoBulkAll spare + 1
  | .agg parts => uptoBulkAll parts + 1
  | .iface _ d => uptoBulk d + 1
  | .map entries => uptoBulkEntries entries + 1
  | .held _ => 1
def uptoBulkAll {H : Type} : List (DataW H) → Nat
  | [] => 0
  | d :: r => uptoBulk d + uptoBulkAll r
def uptoBulkEntries {H : Type} : List (Lit × DataW H) → Nat
  | [] => 0
  | x :: r => uptoBulkEntry x + uptoBulkEntries r
def uptoBulkEntry {H : Type} : Lit × DataW H → Nat
  | (.string bytes, d) => bytes.length + uptoBulk d + 1
  | (_, d) => uptoBulk d + 1
 end
def uptoSmall : (H : Type) → List (DataW H) → Bool := fun _ ds => decide (uptoBulkAll ds ≤ 1048576)
def OpenSpec.upto (s : _root_.Go.ChangeSpec) : _root_.Go.OpenSpec := { _root_.Go.OpenSpec.ofChange s with cond := some uptoSmall }

/-- 'laws.FnExactArrayValid', WHERE WHAT IT READS IS OF BULK AT MOST 1048576: true; the input reads as it did. -/
def fnExactArrayValidUptoRow : OpenClaim := { program := "ytgdbchodlapdpaa", sum := "440ea15ad73dceb2ff8664968040ec5d76ce4e86500b820ba1f1543faad69a49", func := "loop.example/blockstack/laws.FnExactArrayValid", spec := "fnExactArrayValid", unfollowed := true, recurses := true, apart := false, narrowed := true }
def FnExactArrayValidUptoSaid : Prop := fnExactArrayValidUptoRow.holds Try.pinned (OpenSpec.upto fnExactArrayValidSpec)

/-- 'laws.FnExactArrayConsistent', WHERE WHAT IT READS IS OF BULK AT MOST 1048576: true; the input reads as it did. -/
def fnExactArrayConsistentUptoRow : OpenClaim := { program := "ytgdbchodlapdpaa", sum := "440ea15ad73dceb2ff8664968040ec5d76ce4e86500b820ba1f1543faad69a49", func := "loop.example/blockstack/laws.FnExactArrayConsistent", spec := "fnExactArrayConsistent", unfollowed := true, recurses := true, apart := false, narrowed := true }
def FnExactArrayConsistentUptoSaid : Prop := fnExactArrayConsistentUptoRow.holds Try.pinned (OpenSpec.upto fnExactArrayConsistentSpec)

/-- 'laws.FnArrayValid', WHERE WHAT IT READS IS OF BULK AT MOST 1048576: true; the input reads as it did. -/
def fnArrayValidUptoRow : OpenClaim := { program := "ytgdbchodlapdpaa", sum := "440ea15ad73dceb2ff8664968040ec5d76ce4e86500b820ba1f1543faad69a49", func := "loop.example/blockstack/laws.FnArrayValid", spec := "fnArrayValid", unfollowed := true, recurses := true, apart := false, narrowed := true }
def FnArrayValidUptoSaid : Prop := fnArrayValidUptoRow.holds Try.pinned (OpenSpec.upto fnArrayValidSpec)

/-- 'laws.FnExactArrayRead', WHERE WHAT IT READS IS OF BULK AT MOST 1048576: true; the input reads as it did. -/
def fnExactArrayReadUptoRow : OpenClaim := { program := "ytgdbchodlapdpaa", sum := "440ea15ad73dceb2ff8664968040ec5d76ce4e86500b820ba1f1543faad69a49", func := "loop.example/blockstack/laws.FnExactArrayRead", spec := "fnExactArrayRead", unfollowed := true, recurses := true, apart := false, narrowed := true }
def FnExactArrayReadUptoSaid : Prop := fnExactArrayReadUptoRow.holds Try.pinned (OpenSpec.upto fnExactArrayReadSpec)

/-- 'laws.FnArrayConsistent', WHERE WHAT IT READS IS OF BULK AT MOST 1048576: true; the input reads as it did. -/
def fnArrayConsistentUptoRow : OpenClaim := { program := "ytgdbchodlapdpaa", sum := "440ea15ad73dceb2ff8664968040ec5d76ce4e86500b820ba1f1543faad69a49", func := "loop.example/blockstack/laws.FnArrayConsistent", spec := "fnArrayConsistent", unfollowed := true, recurses := true, apart := false, narrowed := true }
def FnArrayConsistentUptoSaid : Prop := fnArrayConsistentUptoRow.holds Try.pinned (OpenSpec.upto fnArrayConsistentSpec)

/-- 'laws.FnExactRebuildDisk', WHERE WHAT IT READS IS OF BULK AT MOST 1048576: true; the input reads as it did. -/
def fnExactRebuildDiskUptoRow : OpenClaim := { program := "ytgdbchodlapdpaa", sum := "440ea15ad73dceb2ff8664968040ec5d76ce4e86500b820ba1f1543faad69a49", func := "loop.example/blockstack/laws.FnExactRebuildDisk", spec := "fnExactRebuildDisk", unfollowed := true, recurses := true, apart := false, narrowed := true }
def FnExactRebuildDiskUptoSaid : Prop := fnExactRebuildDiskUptoRow.holds Try.pinned (OpenSpec.upto fnExactRebuildDiskSpec)

/-- 'laws.FnArrayRead', WHERE WHAT IT READS IS OF BULK AT MOST 1048576: true; the input reads as it did. -/
def fnArrayReadUptoRow : OpenClaim := { program := "ytgdbchodlapdpaa", sum := "440ea15ad73dceb2ff8664968040ec5d76ce4e86500b820ba1f1543faad69a49", func := "loop.example/blockstack/laws.FnArrayRead", spec := "fnArrayRead", unfollowed := true, recurses := true, apart := false, narrowed := true }
def FnArrayReadUptoSaid : Prop := fnArrayReadUptoRow.holds Try.pinned (OpenSpec.upto fnArrayReadSpec)

/-- 'laws.FnExactArrayWrite', WHERE WHAT IT READS IS OF BULK AT MOST 1048576: true; the input reads as it did. -/
def fnExactArrayWriteUptoRow : OpenClaim := { program := "ytgdbchodlapdpaa", sum := "440ea15ad73dceb2ff8664968040ec5d76ce4e86500b820ba1f1543faad69a49", func := "loop.example/blockstack/laws.FnExactArrayWrite", spec := "fnExactArrayWrite", unfollowed := true, recurses := true, apart := false, narrowed := true }
def FnExactArrayWriteUptoSaid : Prop := fnExactArrayWriteUptoRow.holds Try.pinned (OpenSpec.upto fnExactArrayWriteSpec)

/-- 'laws.FnArrayFill', WHERE WHAT IT READS IS OF BULK AT MOST 1048576: true; the input reads as it did. -/
def fnArrayFillUptoRow : OpenClaim := { program := "ytgdbchodlapdpaa", sum := "440ea15ad73dceb2ff8664968040ec5d76ce4e86500b820ba1f1543faad69a49", func := "loop.example/blockstack/laws.FnArrayFill", spec := "fnArrayFill", unfollowed := true, recurses := true, apart := false, narrowed := true }
def FnArrayFillUptoSaid : Prop := fnArrayFillUptoRow.holds Try.pinned (OpenSpec.upto fnArrayFillSpec)

/-- 'laws.FnRebuildDisk', WHERE WHAT IT READS IS OF BULK AT MOST 1048576: true; the input reads as it did. -/
def fnRebuildDiskUptoRow : OpenClaim := { program := "ytgdbchodlapdpaa", sum := "440ea15ad73dceb2ff8664968040ec5d76ce4e86500b820ba1f1543faad69a49", func := "loop.example/blockstack/laws.FnRebuildDisk", spec := "fnRebuildDisk", unfollowed := true, recurses := true, apart := false, narrowed := true }
def FnRebuildDiskUptoSaid : Prop := fnRebuildDiskUptoRow.holds Try.pinned (OpenSpec.upto fnRebuildDiskSpec)

/-- 'laws.FnArrayWrite', WHERE WHAT IT READS IS OF BULK AT MOST 1048576: true; the input reads as it did. -/
def fnArrayWriteUptoRow : OpenClaim := { program := "ytgdbchodlapdpaa", sum := "440ea15ad73dceb2ff8664968040ec5d76ce4e86500b820ba1f1543faad69a49", func := "loop.example/blockstack/laws.FnArrayWrite", spec := "fnArrayWrite", unfollowed := true, recurses := true, apart := false, narrowed := true }
def FnArrayWriteUptoSaid : Prop := fnArrayWriteUptoRow.holds Try.pinned (OpenSpec.upto fnArrayWriteSpec)

end Rows
end Go.Proofs.Ytgdbchodlapdpaa
