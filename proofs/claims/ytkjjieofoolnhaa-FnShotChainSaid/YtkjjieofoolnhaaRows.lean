/-
  No cell of these rows narrows 'for every input' (looked for: loops, veiled, ifaces, maps, wideKeys, modest, calm, conditions, laid).
  DERIVED. THE GIVEN ROWS OF THIS SEAT. 11 by the template 'for every input the law returns true; each argument reads behind the call as it read before'; 0 by the template 'total and deterministic' (their statements: YtkjjieofoolnhaaTotals.lean).
  GIVEN WITH THE SEED: the statements are not yours to turn. If you find one false, say at which input.
  Laid BY PROGRAM, IN A SANDBOX (cutbox-rows.mjs): the forced cells as the released guide's own fill.sh prints them over the translation 599c0e6f2eb9cfd9… (all of the seat's roots in one cut). By AI agents, Wed Nov 11 2026. No macro, syntax, notation, axiom, sorry.
-/
import Derived.Test.YtkjjieofoolnhaaChecked
import GoSem.Claim
import GoSem.ClaimJoined
import GoSem.ClaimMapViews
import Derived.JoinedTies
import Derived.KernelRfl
namespace Go.Proofs.Ytkjjieofoolnhaa
/- THE CELL 'sum', in the pinned program and in every row, IS THE sha256 OF THE DUMP (.gsa) THAT YtkjjieofoolnhaaProg.lean LOADS. Nothing in Lean hashes anything: it is a label: what it is worth is what the hold of that sum in a sandbox is worth. -/
noncomputable def Try.pinned : Pinned := { name := "ytkjjieofoolnhaa", sum := "599c0e6f2eb9cfd9403cd7d4df0fc01d74716a5752f6e9c20a34341f9a1f29ee", checked := Try.checked }
namespace Rows
def none {H : Type} : Left H := { results := [], args := [] }

/-- 'laws.FnExactTakeShot': WHATEVER THE INPUT: true; the input reads as it did. -/
def fnExactTakeShotSpec : ChangeSpec := { name := "fnExactTakeShot", fn := fun _ => fun
  | [d] => { results := [.lit (.bool true)], args := [d] }
  | _ => none }
def fnExactTakeShotRow : OpenClaim := { program := "ytkjjieofoolnhaa", sum := "599c0e6f2eb9cfd9403cd7d4df0fc01d74716a5752f6e9c20a34341f9a1f29ee", func := "loop.example/blockstack/laws.FnExactTakeShot", spec := "fnExactTakeShot", unfollowed := true, recurses := true, apart := false }
def FnExactTakeShotSaid : Prop := fnExactTakeShotRow.holds Try.pinned (OpenSpec.ofChange fnExactTakeShotSpec)

/-- ITS FALSE NEIGHBOUR: 'it returns false'. Refute it at one input. -/
def fnExactTakeShotWrong : ChangeSpec := { name := "fnExactTakeShot", fn := fun _ => fun
  | [d] => { results := [.lit (.bool false)], args := [d] }
  | _ => none }
def FnExactTakeShotWrongFalsely : Prop := fnExactTakeShotRow.holds Try.pinned (OpenSpec.ofChange fnExactTakeShotWrong)

/-- 'laws.FnExactVolumeWrite': WHATEVER THE INPUT: true; the input reads as it did. -/
def fnExactVolumeWriteSpec : ChangeSpec := { name := "fnExactVolumeWrite", fn := fun _ => fun
  | [d1, d2, d3] => { results := [.lit (.bool true)], args := [d1, d2, d3] }
  | _ => none }
def fnExactVolumeWriteRow : OpenClaim := { program := "ytkjjieofoolnhaa", sum := "599c0e6f2eb9cfd9403cd7d4df0fc01d74716a5752f6e9c20a34341f9a1f29ee", func := "loop.example/blockstack/laws.FnExactVolumeWrite", spec := "fnExactVolumeWrite", unfollowed := true, recurses := true, apart := false }
def FnExactVolumeWriteSaid : Prop := fnExactVolumeWriteRow.holds Try.pinned (OpenSpec.ofChange fnExactVolumeWriteSpec)

/-- ITS FALSE NEIGHBOUR: 'it returns false'. Refute it at one input. -/
def fnExactVolumeWriteWrong : ChangeSpec := { name := "fnExactVolumeWrite", fn := fun _ => fun
  | [d1, d2, d3] => { results := [.lit (.bool false)], args := [d1, d2, d3] }
  | _ => none }
def FnExactVolumeWriteWrongFalsely : Prop := fnExactVolumeWriteRow.holds Try.pinned (OpenSpec.ofChange fnExactVolumeWriteWrong)

/-- 'laws.FnExactDropShot': WHATEVER THE INPUT: true; the input reads as it did. -/
def fnExactDropShotSpec : ChangeSpec := { name := "fnExactDropShot", fn := fun _ => fun
  | [d1, d2] => { results := [.lit (.bool true)], args := [d1, d2] }
  | _ => none }
def fnExactDropShotRow : OpenClaim := { program := "ytkjjieofoolnhaa", sum := "599c0e6f2eb9cfd9403cd7d4df0fc01d74716a5752f6e9c20a34341f9a1f29ee", func := "loop.example/blockstack/laws.FnExactDropShot", spec := "fnExactDropShot", unfollowed := true, recurses := true, apart := false }
def FnExactDropShotSaid : Prop := fnExactDropShotRow.holds Try.pinned (OpenSpec.ofChange fnExactDropShotSpec)

/-- ITS FALSE NEIGHBOUR: 'it returns false'. Refute it at one input. -/
def fnExactDropShotWrong : ChangeSpec := { name := "fnExactDropShot", fn := fun _ => fun
  | [d1, d2] => { results := [.lit (.bool false)], args := [d1, d2] }
  | _ => none }
def FnExactDropShotWrongFalsely : Prop := fnExactDropShotRow.holds Try.pinned (OpenSpec.ofChange fnExactDropShotWrong)

/-- 'laws.FnVolumeValid': WHATEVER THE INPUT: true; the input reads as it did. -/
def fnVolumeValidSpec : ChangeSpec := { name := "fnVolumeValid", fn := fun _ => fun
  | [d] => { results := [.lit (.bool true)], args := [d] }
  | _ => none }
def fnVolumeValidRow : OpenClaim := { program := "ytkjjieofoolnhaa", sum := "599c0e6f2eb9cfd9403cd7d4df0fc01d74716a5752f6e9c20a34341f9a1f29ee", func := "loop.example/blockstack/laws.FnVolumeValid", spec := "fnVolumeValid", unfollowed := true, recurses := true, apart := false }
def FnVolumeValidSaid : Prop := fnVolumeValidRow.holds Try.pinned (OpenSpec.ofChange fnVolumeValidSpec)

/-- ITS FALSE NEIGHBOUR: 'it returns false'. Refute it at one input. -/
def fnVolumeValidWrong : ChangeSpec := { name := "fnVolumeValid", fn := fun _ => fun
  | [d] => { results := [.lit (.bool false)], args := [d] }
  | _ => none }
def FnVolumeValidWrongFalsely : Prop := fnVolumeValidRow.holds Try.pinned (OpenSpec.ofChange fnVolumeValidWrong)

/-- 'laws.FnExactVolumeValid': WHATEVER THE INPUT: true; the input reads as it did. -/
def fnExactVolumeValidSpec : ChangeSpec := { name := "fnExactVolumeValid", fn := fun _ => fun
  | [d] => { results := [.lit (.bool true)], args := [d] }
  | _ => none }
def fnExactVolumeValidRow : OpenClaim := { program := "ytkjjieofoolnhaa", sum := "599c0e6f2eb9cfd9403cd7d4df0fc01d74716a5752f6e9c20a34341f9a1f29ee", func := "loop.example/blockstack/laws.FnExactVolumeValid", spec := "fnExactVolumeValid", unfollowed := true, recurses := true, apart := false }
def FnExactVolumeValidSaid : Prop := fnExactVolumeValidRow.holds Try.pinned (OpenSpec.ofChange fnExactVolumeValidSpec)

/-- ITS FALSE NEIGHBOUR: 'it returns false'. Refute it at one input. -/
def fnExactVolumeValidWrong : ChangeSpec := { name := "fnExactVolumeValid", fn := fun _ => fun
  | [d] => { results := [.lit (.bool false)], args := [d] }
  | _ => none }
def FnExactVolumeValidWrongFalsely : Prop := fnExactVolumeValidRow.holds Try.pinned (OpenSpec.ofChange fnExactVolumeValidWrong)

/-- 'laws.FnShotView': WHATEVER THE INPUT: true; the input reads as it did. -/
def fnShotViewSpec : ChangeSpec := { name := "fnShotView", fn := fun _ => fun
  | [d] => { results := [.lit (.bool true)], args := [d] }
  | _ => none }
def fnShotViewRow : OpenClaim := { program := "ytkjjieofoolnhaa", sum := "599c0e6f2eb9cfd9403cd7d4df0fc01d74716a5752f6e9c20a34341f9a1f29ee", func := "loop.example/blockstack/laws.FnShotView", spec := "fnShotView", unfollowed := true, recurses := true, apart := false }
def FnShotViewSaid : Prop := fnShotViewRow.holds Try.pinned (OpenSpec.ofChange fnShotViewSpec)

/-- ITS FALSE NEIGHBOUR: 'it returns false'. Refute it at one input. -/
def fnShotViewWrong : ChangeSpec := { name := "fnShotView", fn := fun _ => fun
  | [d] => { results := [.lit (.bool false)], args := [d] }
  | _ => none }
def FnShotViewWrongFalsely : Prop := fnShotViewRow.holds Try.pinned (OpenSpec.ofChange fnShotViewWrong)

/-- 'laws.FnTakeShot': WHATEVER THE INPUT: true; the input reads as it did. -/
def fnTakeShotSpec : ChangeSpec := { name := "fnTakeShot", fn := fun _ => fun
  | [d] => { results := [.lit (.bool true)], args := [d] }
  | _ => none }
def fnTakeShotRow : OpenClaim := { program := "ytkjjieofoolnhaa", sum := "599c0e6f2eb9cfd9403cd7d4df0fc01d74716a5752f6e9c20a34341f9a1f29ee", func := "loop.example/blockstack/laws.FnTakeShot", spec := "fnTakeShot", unfollowed := true, recurses := true, apart := false }
def FnTakeShotSaid : Prop := fnTakeShotRow.holds Try.pinned (OpenSpec.ofChange fnTakeShotSpec)

/-- ITS FALSE NEIGHBOUR: 'it returns false'. Refute it at one input. -/
def fnTakeShotWrong : ChangeSpec := { name := "fnTakeShot", fn := fun _ => fun
  | [d] => { results := [.lit (.bool false)], args := [d] }
  | _ => none }
def FnTakeShotWrongFalsely : Prop := fnTakeShotRow.holds Try.pinned (OpenSpec.ofChange fnTakeShotWrong)

/-- 'laws.FnVolumeWrite': WHATEVER THE INPUT: true; the input reads as it did. -/
def fnVolumeWriteSpec : ChangeSpec := { name := "fnVolumeWrite", fn := fun _ => fun
  | [d] => { results := [.lit (.bool true)], args := [d] }
  | _ => none }
def fnVolumeWriteRow : OpenClaim := { program := "ytkjjieofoolnhaa", sum := "599c0e6f2eb9cfd9403cd7d4df0fc01d74716a5752f6e9c20a34341f9a1f29ee", func := "loop.example/blockstack/laws.FnVolumeWrite", spec := "fnVolumeWrite", unfollowed := true, recurses := true, apart := false }
def FnVolumeWriteSaid : Prop := fnVolumeWriteRow.holds Try.pinned (OpenSpec.ofChange fnVolumeWriteSpec)

/-- ITS FALSE NEIGHBOUR: 'it returns false'. Refute it at one input. -/
def fnVolumeWriteWrong : ChangeSpec := { name := "fnVolumeWrite", fn := fun _ => fun
  | [d] => { results := [.lit (.bool false)], args := [d] }
  | _ => none }
def FnVolumeWriteWrongFalsely : Prop := fnVolumeWriteRow.holds Try.pinned (OpenSpec.ofChange fnVolumeWriteWrong)

/-- 'laws.FnExactShotView': WHATEVER THE INPUT: true; the input reads as it did. -/
def fnExactShotViewSpec : ChangeSpec := { name := "fnExactShotView", fn := fun _ => fun
  | [d1, d2] => { results := [.lit (.bool true)], args := [d1, d2] }
  | _ => none }
def fnExactShotViewRow : OpenClaim := { program := "ytkjjieofoolnhaa", sum := "599c0e6f2eb9cfd9403cd7d4df0fc01d74716a5752f6e9c20a34341f9a1f29ee", func := "loop.example/blockstack/laws.FnExactShotView", spec := "fnExactShotView", unfollowed := true, recurses := true, apart := false }
def FnExactShotViewSaid : Prop := fnExactShotViewRow.holds Try.pinned (OpenSpec.ofChange fnExactShotViewSpec)

/-- ITS FALSE NEIGHBOUR: 'it returns false'. Refute it at one input. -/
def fnExactShotViewWrong : ChangeSpec := { name := "fnExactShotView", fn := fun _ => fun
  | [d1, d2] => { results := [.lit (.bool false)], args := [d1, d2] }
  | _ => none }
def FnExactShotViewWrongFalsely : Prop := fnExactShotViewRow.holds Try.pinned (OpenSpec.ofChange fnExactShotViewWrong)

/-- 'laws.FnDropShot': WHATEVER THE INPUT: true; the input reads as it did. -/
def fnDropShotSpec : ChangeSpec := { name := "fnDropShot", fn := fun _ => fun
  | [d] => { results := [.lit (.bool true)], args := [d] }
  | _ => none }
def fnDropShotRow : OpenClaim := { program := "ytkjjieofoolnhaa", sum := "599c0e6f2eb9cfd9403cd7d4df0fc01d74716a5752f6e9c20a34341f9a1f29ee", func := "loop.example/blockstack/laws.FnDropShot", spec := "fnDropShot", unfollowed := true, recurses := true, apart := false }
def FnDropShotSaid : Prop := fnDropShotRow.holds Try.pinned (OpenSpec.ofChange fnDropShotSpec)

/-- ITS FALSE NEIGHBOUR: 'it returns false'. Refute it at one input. -/
def fnDropShotWrong : ChangeSpec := { name := "fnDropShot", fn := fun _ => fun
  | [d] => { results := [.lit (.bool false)], args := [d] }
  | _ => none }
def FnDropShotWrongFalsely : Prop := fnDropShotRow.holds Try.pinned (OpenSpec.ofChange fnDropShotWrong)

/-- 'laws.FnShotChain': WHATEVER THE INPUT: true; the input reads as it did. -/
def fnShotChainSpec : ChangeSpec := { name := "fnShotChain", fn := fun _ => fun
  | [d] => { results := [.lit (.bool true)], args := [d] }
  | _ => none }
def fnShotChainRow : OpenClaim := { program := "ytkjjieofoolnhaa", sum := "599c0e6f2eb9cfd9403cd7d4df0fc01d74716a5752f6e9c20a34341f9a1f29ee", func := "loop.example/blockstack/laws.FnShotChain", spec := "fnShotChain", unfollowed := true, recurses := true, apart := false }
def FnShotChainSaid : Prop := fnShotChainRow.holds Try.pinned (OpenSpec.ofChange fnShotChainSpec)

/-- ITS FALSE NEIGHBOUR: 'it returns false'. Refute it at one input. -/
def fnShotChainWrong : ChangeSpec := { name := "fnShotChain", fn := fun _ => fun
  | [d] => { results := [.lit (.bool false)], args := [d] }
  | _ => none }
def FnShotChainWrongFalsely : Prop := fnShotChainRow.holds Try.pinned (OpenSpec.ofChange fnShotChainWrong)

/- THE SECOND FORM. 'bulk': how many values and letters a reading holds, each counted each time it is reached (what is shared counts as often as it is met; a slice's spare places count too). A statement '..UptoSaid' is the law's where the arguments, and the package variables that the reading takes, are together of bulk at most 1048576: NARROWER than '..Said'. Prove '..Said' where nothing that the law and all that it calls make is longer than what came in: it says more and counts as full. Else prove '..UptoSaid'. A law counts once. -/
mutual
def uptoBulk {H : Type} : DataW H → Nat
  | .lit (.string bytes) => bytes.length + 1
  | .lit _ => 1
  | .nil => 1
  | .ptr d => uptoBulk d + 1
  | .slice elems spare => uptoBulkAll elems + uptoBulkAll spare + 1
  | .agg parts => uptoBulkAll parts + 1
  | .iface _ d => uptoBulk d + 1
  | .map entries => uptoBulkEntries entries + 1
  | .held _ => 1
def uptoBulkAll {H : Type} : List (DataW H) → Nat
  | [] => 0
  | d :: r => uptoBulk d + uptoBulkAll r
def uptoBulkEntries {H : Type} : List (Lit × DataW H) → Nat
  | [] => 0
  | x :: r => uptoBulkEntry x + uptoBulkEntries r
def uptoBulkEntry {H : Type} : Lit × DataW H → Nat
  | (.string bytes, d) => bytes.length + uptoBulk d + 1
  | (_, d) => uptoBulk d + 1
 end
def uptoSmall : (H : Type) → List (DataW H) → Bool := fun _ ds => decide (uptoBulkAll ds ≤ 1048576)
def OpenSpec.upto (s : _root_.Go.ChangeSpec) : _root_.Go.OpenSpec := { _root_.Go.OpenSpec.ofChange s with cond := some uptoSmall }

/-- 'laws.FnExactTakeShot', WHERE WHAT IT READS IS OF BULK AT MOST 1048576: true; the input reads as it did. -/
def fnExactTakeShotUptoRow : OpenClaim := { program := "ytkjjieofoolnhaa", sum := "599c0e6f2eb9cfd9403cd7d4df0fc01d74716a5752f6e9c20a34341f9a1f29ee", func := "loop.example/blockstack/laws.FnExactTakeShot", spec := "fnExactTakeShot", unfollowed := true, recurses := true, apart := false, narrowed := true }
def FnExactTakeShotUptoSaid : Prop := fnExactTakeShotUptoRow.holds Try.pinned (OpenSpec.upto fnExactTakeShotSpec)

/-- 'laws.FnExactVolumeWrite', WHERE WHAT IT READS IS OF BULK AT MOST 1048576: true; the input reads as it did. -/
def fnExactVolumeWriteUptoRow : OpenClaim := { program := "ytkjjieofoolnhaa", sum := "599c0e6f2eb9cfd9403cd7d4df0fc01d74716a5752f6e9c20a34341f9a1f29ee", func := "loop.example/blockstack/laws.FnExactVolumeWrite", spec := "fnExactVolumeWrite", unfollowed := true, recurses := true, apart := false, narrowed := true }
def FnExactVolumeWriteUptoSaid : Prop := fnExactVolumeWriteUptoRow.holds Try.pinned (OpenSpec.upto fnExactVolumeWriteSpec)

/-- 'laws.FnExactDropShot', WHERE WHAT IT READS IS OF BULK AT MOST 1048576: true; the input reads as it did. -/
def fnExactDropShotUptoRow : OpenClaim := { program := "ytkjjieofoolnhaa", sum := "599c0e6f2eb9cfd9403cd7d4df0fc01d74716a5752f6e9c20a34341f9a1f29ee", func := "loop.example/blockstack/laws.FnExactDropShot", spec := "fnExactDropShot", unfollowed := true, recurses := true, apart := false, narrowed := true }
def FnExactDropShotUptoSaid : Prop := fnExactDropShotUptoRow.holds Try.pinned (OpenSpec.upto fnExactDropShotSpec)

/-- 'laws.FnVolumeValid', WHERE WHAT IT READS IS OF BULK AT MOST 1048576: true; the input reads as it did. -/
def fnVolumeValidUptoRow : OpenClaim := { program := "ytkjjieofoolnhaa", sum := "599c0e6f2eb9cfd9403cd7d4df0fc01d74716a5752f6e9c20a34341f9a1f29ee", func := "loop.example/blockstack/laws.FnVolumeValid", spec := "fnVolumeValid", unfollowed := true, recurses := true, apart := false, narrowed := true }
def FnVolumeValidUptoSaid : Prop := fnVolumeValidUptoRow.holds Try.pinned (OpenSpec.upto fnVolumeValidSpec)

/-- 'laws.FnExactVolumeValid', WHERE WHAT IT READS IS OF BULK AT MOST 1048576: true; the input reads as it did. -/
def fnExactVolumeValidUptoRow : OpenClaim := { program := "ytkjjieofoolnhaa", sum := "599c0e6f2eb9cfd9403cd7d4df0fc01d74716a5752f6e9c20a34341f9a1f29ee", func := "loop.example/blockstack/laws.FnExactVolumeValid", spec := "fnExactVolumeValid", unfollowed := true, recurses := true, apart := false, narrowed := true }
def FnExactVolumeValidUptoSaid : Prop := fnExactVolumeValidUptoRow.holds Try.pinned (OpenSpec.upto fnExactVolumeValidSpec)

/-- 'laws.FnShotView', WHERE WHAT IT READS IS OF BULK AT MOST 1048576: true; the input reads as it did. -/
def fnShotViewUptoRow : OpenClaim := { program := "ytkjjieofoolnhaa", sum := "599c0e6f2eb9cfd9403cd7d4df0fc01d74716a5752f6e9c20a34341f9a1f29ee", func := "loop.example/blockstack/laws.FnShotView", spec := "fnShotView", unfollowed := true, recurses := true, apart := false, narrowed := true }
def FnShotViewUptoSaid : Prop := fnShotViewUptoRow.holds Try.pinned (OpenSpec.upto fnShotViewSpec)

/-- 'laws.FnTakeShot', WHERE WHAT IT READS IS OF BULK AT MOST 1048576: true; the input reads as it did. -/
def fnTakeShotUptoRow : OpenClaim := { program := "ytkjjieofoolnhaa", sum := "599c0e6f2eb9cfd9403cd7d4df0fc01d74716a5752f6e9c20a34341f9a1f29ee", func := "loop.example/blockstack/laws.FnTakeShot", spec := "fnTakeShot", unfollowed := true, recurses := true, apart := false, narrowed := true }
def FnTakeShotUptoSaid : Prop := fnTakeShotUptoRow.holds Try.pinned (OpenSpec.upto fnTakeShotSpec)

/-- 'laws.FnVolumeWrite', WHERE WHAT IT READS IS OF BULK AT MOST 1048576: true; the input reads as it did. -/
def fnVolumeWriteUptoRow : OpenClaim := { program := "ytkjjieofoolnhaa", sum := "599c0e6f2eb9cfd9403cd7d4df0fc01d74716a5752f6e9c20a34341f9a1f29ee", func := "loop.example/blockstack/laws.FnVolumeWrite", spec := "fnVolumeWrite", unfollowed := true, recurses := true, apart := false, narrowed := true }
def FnVolumeWriteUptoSaid : Prop := fnVolumeWriteUptoRow.holds Try.pinned (OpenSpec.upto fnVolumeWriteSpec)

/-- 'laws.FnExactShotView', WHERE WHAT IT READS IS OF BULK AT MOST 1048576: true; the input reads as it did. -/
def fnExactShotViewUptoRow : OpenClaim := { program := "ytkjjieofoolnhaa", sum := "599c0e6f2eb9cfd9403cd7d4df0fc01d74716a5752f6e9c20a34341f9a1f29ee", func := "loop.example/blockstack/laws.FnExactShotView", spec := "fnExactShotView", unfollowed := true, recurses := true, apart := false, narrowed := true }
def FnExactShotViewUptoSaid : Prop := fnExactShotViewUptoRow.holds Try.pinned (OpenSpec.upto fnExactShotViewSpec)

/-- 'laws.FnDropShot', WHERE WHAT IT READS IS OF BULK AT MOST 1048576: true; the input reads as it did. -/
def fnDropShotUptoRow : OpenClaim := { program := "ytkjjieofoolnhaa", sum := "599c0e6f2eb9cfd9403cd7d4df0fc01d74716a5752f6e9c20a34341f9a1f29ee", func := "loop.example/blockstack/laws.FnDropShot", spec := "fnDropShot", unfollowed := true, recurses := true, apart := false, narrowed := true }
def FnDropShotUptoSaid : Prop := fnDropShotUptoRow.holds Try.pinned (OpenSpec.upto fnDropShotSpec)

/-- 'laws.FnShotChain', WHERE WHAT IT READS IS OF BULK AT MOST 1048576: true; the input reads as it did. -/
def fnShotChainUptoRow : OpenClaim := { program := "ytkjjieofoolnhaa", sum := "599c0e6f2eb9cfd9403cd7d4df0fc01d74716a5752f6e9c20a34341f9a1f29ee", func := "loop.example/blockstack/laws.FnShotChain", spec := "fnShotChain", unfollowed := true, recurses := true, apart := false, narrowed := true }
def FnShotChainUptoSaid : Prop := fnShotChainUptoRow.holds Try.pinned (OpenSpec.upto fnShotChainSpec)

end Rows
end Go.Proofs.Ytkjjieofoolnhaa
