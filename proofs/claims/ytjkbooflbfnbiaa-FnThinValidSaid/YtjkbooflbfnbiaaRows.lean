/-
  No cell of these rows narrows 'for every input' (looked for: loops, veiled, ifaces, maps, wideKeys, modest, calm, conditions, laid).
  DERIVED. THE GIVEN ROWS OF THIS SEAT. 9 by the template 'for every input the law returns true; each argument reads behind the call as it read before'; 0 by the template 'total and deterministic' (their statements: YtjkbooflbfnbiaaTotals.lean).
  GIVEN WITH THE SEED: the statements are not yours to turn. If you find one false, say at which input.
  Laid BY PROGRAM, IN A SANDBOX (cutbox-rows.mjs): the forced cells as the released guide's own fill.sh prints them over the translation 6a4aef5514c6d42a… (all of the seat's roots in one cut). By AI agents, Wed Nov 11 2026. No macro, syntax, notation, axiom, sorry.
-/
import Derived.Test.YtjkbooflbfnbiaaChecked
import GoSem.Claim
import GoSem.ClaimJoined
import GoSem.ClaimMapViews
import Derived.JoinedTies
import Derived.KernelRfl
namespace Go.Proofs.Ytjkbooflbfnbiaa
/- THE CELL 'sum', in the pinned program and in every row, IS THE sha256 OF THE DUMP (.gsa) THAT YtjkbooflbfnbiaaProg.lean LOADS. Nothing in Lean hashes anything: it is a label: what it is worth is what the hold of that sum in a sandbox is worth. -/
noncomputable def Try.pinned : Pinned := { name := "ytjkbooflbfnbiaa", sum := "6a4aef5514c6d42a144fd2b7f2c788a1e1d2fcd0342a5ac35381f3ad6ecdf9db", checked := Try.checked }
namespace Rows
def none {H : Type} : Left H := { results := [], args := [] }

/-- 'laws.FnExactThinValid': WHATEVER THE INPUT: true; the input reads as it did. -/
def fnExactThinValidSpec : ChangeSpec := { name := "fnExactThinValid", fn := fun _ => fun
  | [d] => { results := [.lit (.bool true)], args := [d] }
  | _ => none }
def fnExactThinValidRow : OpenClaim := { program := "ytjkbooflbfnbiaa", sum := "6a4aef5514c6d42a144fd2b7f2c788a1e1d2fcd0342a5ac35381f3ad6ecdf9db", func := "loop.example/blockstack/laws.FnExactThinValid", spec := "fnExactThinValid", apart := false }
def FnExactThinValidSaid : Prop := fnExactThinValidRow.holds Try.pinned (OpenSpec.ofChange fnExactThinValidSpec)

/-- ITS FALSE NEIGHBOUR: 'it returns false'. Refute it at one input. -/
def fnExactThinValidWrong : ChangeSpec := { name := "fnExactThinValid", fn := fun _ => fun
  | [d] => { results := [.lit (.bool false)], args := [d] }
  | _ => none }
def FnExactThinValidWrongFalsely : Prop := fnExactThinValidRow.holds Try.pinned (OpenSpec.ofChange fnExactThinValidWrong)

/-- 'laws.FnExactNewThin': WHATEVER THE INPUT: true; the input reads as it did. -/
def fnExactNewThinSpec : ChangeSpec := { name := "fnExactNewThin", fn := fun _ => fun
  | [d1, d2] => { results := [.lit (.bool true)], args := [d1, d2] }
  | _ => none }
def fnExactNewThinRow : OpenClaim := { program := "ytjkbooflbfnbiaa", sum := "6a4aef5514c6d42a144fd2b7f2c788a1e1d2fcd0342a5ac35381f3ad6ecdf9db", func := "loop.example/blockstack/laws.FnExactNewThin", spec := "fnExactNewThin", apart := false }
def FnExactNewThinSaid : Prop := fnExactNewThinRow.holds Try.pinned (OpenSpec.ofChange fnExactNewThinSpec)

/-- ITS FALSE NEIGHBOUR: 'it returns false'. Refute it at one input. -/
def fnExactNewThinWrong : ChangeSpec := { name := "fnExactNewThin", fn := fun _ => fun
  | [d1, d2] => { results := [.lit (.bool false)], args := [d1, d2] }
  | _ => none }
def FnExactNewThinWrongFalsely : Prop := fnExactNewThinRow.holds Try.pinned (OpenSpec.ofChange fnExactNewThinWrong)

/-- 'laws.FnExactThinFree': WHATEVER THE INPUT: true; the input reads as it did. -/
def fnExactThinFreeSpec : ChangeSpec := { name := "fnExactThinFree", fn := fun _ => fun
  | [d] => { results := [.lit (.bool true)], args := [d] }
  | _ => none }
def fnExactThinFreeRow : OpenClaim := { program := "ytjkbooflbfnbiaa", sum := "6a4aef5514c6d42a144fd2b7f2c788a1e1d2fcd0342a5ac35381f3ad6ecdf9db", func := "loop.example/blockstack/laws.FnExactThinFree", spec := "fnExactThinFree", apart := false }
def FnExactThinFreeSaid : Prop := fnExactThinFreeRow.holds Try.pinned (OpenSpec.ofChange fnExactThinFreeSpec)

/-- ITS FALSE NEIGHBOUR: 'it returns false'. Refute it at one input. -/
def fnExactThinFreeWrong : ChangeSpec := { name := "fnExactThinFree", fn := fun _ => fun
  | [d] => { results := [.lit (.bool false)], args := [d] }
  | _ => none }
def FnExactThinFreeWrongFalsely : Prop := fnExactThinFreeRow.holds Try.pinned (OpenSpec.ofChange fnExactThinFreeWrong)

/-- 'laws.FnExactThinView': WHATEVER THE INPUT: true; the input reads as it did. -/
def fnExactThinViewSpec : ChangeSpec := { name := "fnExactThinView", fn := fun _ => fun
  | [d] => { results := [.lit (.bool true)], args := [d] }
  | _ => none }
def fnExactThinViewRow : OpenClaim := { program := "ytjkbooflbfnbiaa", sum := "6a4aef5514c6d42a144fd2b7f2c788a1e1d2fcd0342a5ac35381f3ad6ecdf9db", func := "loop.example/blockstack/laws.FnExactThinView", spec := "fnExactThinView", apart := false }
def FnExactThinViewSaid : Prop := fnExactThinViewRow.holds Try.pinned (OpenSpec.ofChange fnExactThinViewSpec)

/-- ITS FALSE NEIGHBOUR: 'it returns false'. Refute it at one input. -/
def fnExactThinViewWrong : ChangeSpec := { name := "fnExactThinView", fn := fun _ => fun
  | [d] => { results := [.lit (.bool false)], args := [d] }
  | _ => none }
def FnExactThinViewWrongFalsely : Prop := fnExactThinViewRow.holds Try.pinned (OpenSpec.ofChange fnExactThinViewWrong)

/-- 'laws.FnThinValid': WHATEVER THE INPUT: true; the input reads as it did. -/
def fnThinValidSpec : ChangeSpec := { name := "fnThinValid", fn := fun _ => fun
  | [d] => { results := [.lit (.bool true)], args := [d] }
  | _ => none }
def fnThinValidRow : OpenClaim := { program := "ytjkbooflbfnbiaa", sum := "6a4aef5514c6d42a144fd2b7f2c788a1e1d2fcd0342a5ac35381f3ad6ecdf9db", func := "loop.example/blockstack/laws.FnThinValid", spec := "fnThinValid", apart := false }
def FnThinValidSaid : Prop := fnThinValidRow.holds Try.pinned (OpenSpec.ofChange fnThinValidSpec)

/-- ITS FALSE NEIGHBOUR: 'it returns false'. Refute it at one input. -/
def fnThinValidWrong : ChangeSpec := { name := "fnThinValid", fn := fun _ => fun
  | [d] => { results := [.lit (.bool false)], args := [d] }
  | _ => none }
def FnThinValidWrongFalsely : Prop := fnThinValidRow.holds Try.pinned (OpenSpec.ofChange fnThinValidWrong)

/-- 'laws.FnNewThin': WHATEVER THE INPUT: true; the input reads as it did. -/
def fnNewThinSpec : ChangeSpec := { name := "fnNewThin", fn := fun _ => fun
  | [d] => { results := [.lit (.bool true)], args := [d] }
  | _ => none }
def fnNewThinRow : OpenClaim := { program := "ytjkbooflbfnbiaa", sum := "6a4aef5514c6d42a144fd2b7f2c788a1e1d2fcd0342a5ac35381f3ad6ecdf9db", func := "loop.example/blockstack/laws.FnNewThin", spec := "fnNewThin", apart := false }
def FnNewThinSaid : Prop := fnNewThinRow.holds Try.pinned (OpenSpec.ofChange fnNewThinSpec)

/-- ITS FALSE NEIGHBOUR: 'it returns false'. Refute it at one input. -/
def fnNewThinWrong : ChangeSpec := { name := "fnNewThin", fn := fun _ => fun
  | [d] => { results := [.lit (.bool false)], args := [d] }
  | _ => none }
def FnNewThinWrongFalsely : Prop := fnNewThinRow.holds Try.pinned (OpenSpec.ofChange fnNewThinWrong)

/-- 'laws.FnExactThinTrim': WHATEVER THE INPUT: true; the input reads as it did. -/
def fnExactThinTrimSpec : ChangeSpec := { name := "fnExactThinTrim", fn := fun _ => fun
  | [d1, d2] => { results := [.lit (.bool true)], args := [d1, d2] }
  | _ => none }
def fnExactThinTrimRow : OpenClaim := { program := "ytjkbooflbfnbiaa", sum := "6a4aef5514c6d42a144fd2b7f2c788a1e1d2fcd0342a5ac35381f3ad6ecdf9db", func := "loop.example/blockstack/laws.FnExactThinTrim", spec := "fnExactThinTrim", apart := false }
def FnExactThinTrimSaid : Prop := fnExactThinTrimRow.holds Try.pinned (OpenSpec.ofChange fnExactThinTrimSpec)

/-- ITS FALSE NEIGHBOUR: 'it returns false'. Refute it at one input. -/
def fnExactThinTrimWrong : ChangeSpec := { name := "fnExactThinTrim", fn := fun _ => fun
  | [d1, d2] => { results := [.lit (.bool false)], args := [d1, d2] }
  | _ => none }
def FnExactThinTrimWrongFalsely : Prop := fnExactThinTrimRow.holds Try.pinned (OpenSpec.ofChange fnExactThinTrimWrong)

/-- 'laws.FnThinFull': WHATEVER THE INPUT: true; the input reads as it did. -/
def fnThinFullSpec : ChangeSpec := { name := "fnThinFull", fn := fun _ => fun
  | [d] => { results := [.lit (.bool true)], args := [d] }
  | _ => none }
def fnThinFullRow : OpenClaim := { program := "ytjkbooflbfnbiaa", sum := "6a4aef5514c6d42a144fd2b7f2c788a1e1d2fcd0342a5ac35381f3ad6ecdf9db", func := "loop.example/blockstack/laws.FnThinFull", spec := "fnThinFull", apart := false }
def FnThinFullSaid : Prop := fnThinFullRow.holds Try.pinned (OpenSpec.ofChange fnThinFullSpec)

/-- ITS FALSE NEIGHBOUR: 'it returns false'. Refute it at one input. -/
def fnThinFullWrong : ChangeSpec := { name := "fnThinFull", fn := fun _ => fun
  | [d] => { results := [.lit (.bool false)], args := [d] }
  | _ => none }
def FnThinFullWrongFalsely : Prop := fnThinFullRow.holds Try.pinned (OpenSpec.ofChange fnThinFullWrong)

/-- 'laws.FnThinFree': WHATEVER THE INPUT: true; the input reads as it did. -/
def fnThinFreeSpec : ChangeSpec := { name := "fnThinFree", fn := fun _ => fun
  | [d] => { results := [.lit (.bool true)], args := [d] }
  | _ => none }
def fnThinFreeRow : OpenClaim := { program := "ytjkbooflbfnbiaa", sum := "6a4aef5514c6d42a144fd2b7f2c788a1e1d2fcd0342a5ac35381f3ad6ecdf9db", func := "loop.example/blockstack/laws.FnThinFree", spec := "fnThinFree", apart := false }
def FnThinFreeSaid : Prop := fnThinFreeRow.holds Try.pinned (OpenSpec.ofChange fnThinFreeSpec)

/-- ITS FALSE NEIGHBOUR: 'it returns false'. Refute it at one input. -/
def fnThinFreeWrong : ChangeSpec := { name := "fnThinFree", fn := fun _ => fun
  | [d] => { results := [.lit (.bool false)], args := [d] }
  | _ => none }
def FnThinFreeWrongFalsely : Prop := fnThinFreeRow.holds Try.pinned (OpenSpec.ofChange fnThinFreeWrong)

/- THE SECOND FORM. 'bulk': how many values and letters a reading holds, each counted each time it is reached (what is shared counts as often as it is met; a slice's spare places count too). A statement '..UptoSaid' is the law's where the arguments, and the package variables that the reading takes, are together of bulk at most 1048576: NARROWER than '..Said'. Prove '..Said' where nothing that the law and all that it calls make is longer than what came in: it says more and counts as full. Else prove '..UptoSaid'. A law counts once. -/
mutual
def uptoBulk {H : Type} : DataW H → Nat
  | .lit (.string bytes) => bytes.length + 1
  | .lit _ => 1
  | .nil => 1
  | .ptr d => uptoBulk d + 1
  | .slice elems spare => uptoBulkAll elems + uptoBulkAll spare + 1
  | .agg parts => uptoBulkAll parts + 1
  | .iface _ d => uptoBulk d + 1
  | .map entries => uptoBulkEntries entries + 1
  | .held _ => 1
def uptoBulkAll {H : Type} : List (DataW H) → Nat
  | [] => 0
  | d :: r => uptoBulk d + uptoBulkAll r
def uptoBulkEntries {H : Type} : List (Lit × DataW H) → Nat
  | [] => 0
  | x :: r => uptoBulkEntry x + uptoBulkEntries r
def uptoBulkEntry {H : Type} : Lit × DataW H → Nat
  | (.string bytes, d) => bytes.length + uptoBulk d + 1
  | (_, d) => uptoBulk d + 1
 end
def uptoSmall : (H : Type) → List (DataW H) → Bool := fun _ ds => decide (uptoBulkAll ds ≤ 1048576)
def OpenSpec.upto (s : _root_.Go.ChangeSpec) : _root_.Go.OpenSpec := { _root_.Go.OpenSpec.ofChange s with cond := some uptoSmall }

/-- 'laws.FnExactThinValid', WHERE WHAT IT READS IS OF BULK AT MOST 1048576: true; the input reads as it did. -/
def fnExactThinValidUptoRow : OpenClaim := { program := "ytjkbooflbfnbiaa", sum := "6a4aef5514c6d42a144fd2b7f2c788a1e1d2fcd0342a5ac35381f3ad6ecdf9db", func := "loop.example/blockstack/laws.FnExactThinValid", spec := "fnExactThinValid", apart := false, narrowed := true }
def FnExactThinValidUptoSaid : Prop := fnExactThinValidUptoRow.holds Try.pinned (OpenSpec.upto fnExactThinValidSpec)

/-- 'laws.FnExactNewThin', WHERE WHAT IT READS IS OF BULK AT MOST 1048576: true; the input reads as it did. -/
def fnExactNewThinUptoRow : OpenClaim := { program := "ytjkbooflbfnbiaa", sum := "6a4aef5514c6d42a144fd2b7f2c788a1e1d2fcd0342a5ac35381f3ad6ecdf9db", func := "loop.example/blockstack/laws.FnExactNewThin", spec := "fnExactNewThin", apart := false, narrowed := true }
def FnExactNewThinUptoSaid : Prop := fnExactNewThinUptoRow.holds Try.pinned (OpenSpec.upto fnExactNewThinSpec)

/-- 'laws.FnExactThinFree', WHERE WHAT IT READS IS OF BULK AT MOST 1048576: true; the input reads as it did. -/
def fnExactThinFreeUptoRow : OpenClaim := { program := "ytjkbooflbfnbiaa", sum := "6a4aef5514c6d42a144fd2b7f2c788a1e1d2fcd0342a5ac35381f3ad6ecdf9db", func := "loop.example/blockstack/laws.FnExactThinFree", spec := "fnExactThinFree", apart := false, narrowed := true }
def FnExactThinFreeUptoSaid : Prop := fnExactThinFreeUptoRow.holds Try.pinned (OpenSpec.upto fnExactThinFreeSpec)

/-- 'laws.FnExactThinView', WHERE WHAT IT READS IS OF BULK AT MOST 1048576: true; the input reads as it did. -/
def fnExactThinViewUptoRow : OpenClaim := { program := "ytjkbooflbfnbiaa", sum := "6a4aef5514c6d42a144fd2b7f2c788a1e1d2fcd0342a5ac35381f3ad6ecdf9db", func := "loop.example/blockstack/laws.FnExactThinView", spec := "fnExactThinView", apart := false, narrowed := true }
def FnExactThinViewUptoSaid : Prop := fnExactThinViewUptoRow.holds Try.pinned (OpenSpec.upto fnExactThinViewSpec)

/-- 'laws.FnThinValid', WHERE WHAT IT READS IS OF BULK AT MOST 1048576: true; the input reads as it did. -/
def fnThinValidUptoRow : OpenClaim := { program := "ytjkbooflbfnbiaa", sum := "6a4aef5514c6d42a144fd2b7f2c788a1e1d2fcd0342a5ac35381f3ad6ecdf9db", func := "loop.example/blockstack/laws.FnThinValid", spec := "fnThinValid", apart := false, narrowed := true }
def FnThinValidUptoSaid : Prop := fnThinValidUptoRow.holds Try.pinned (OpenSpec.upto fnThinValidSpec)

/-- 'laws.FnNewThin', WHERE WHAT IT READS IS OF BULK AT MOST 1048576: true; the input reads as it did. -/
def fnNewThinUptoRow : OpenClaim := { program := "ytjkbooflbfnbiaa", sum := "6a4aef5514c6d42a144fd2b7f2c788a1e1d2fcd0342a5ac35381f3ad6ecdf9db", func := "loop.example/blockstack/laws.FnNewThin", spec := "fnNewThin", apart := false, narrowed := true }
def FnNewThinUptoSaid : Prop := fnNewThinUptoRow.holds Try.pinned (OpenSpec.upto fnNewThinSpec)

/-- 'laws.FnExactThinTrim', WHERE WHAT IT READS IS OF BULK AT MOST 1048576: true; the input reads as it did. -/
def fnExactThinTrimUptoRow : OpenClaim := { program := "ytjkbooflbfnbiaa", sum := "6a4aef5514c6d42a144fd2b7f2c788a1e1d2fcd0342a5ac35381f3ad6ecdf9db", func := "loop.example/blockstack/laws.FnExactThinTrim", spec := "fnExactThinTrim", apart := false, narrowed := true }
def FnExactThinTrimUptoSaid : Prop := fnExactThinTrimUptoRow.holds Try.pinned (OpenSpec.upto fnExactThinTrimSpec)

/-- 'laws.FnThinFull', WHERE WHAT IT READS IS OF BULK AT MOST 1048576: true; the input reads as it did. -/
def fnThinFullUptoRow : OpenClaim := { program := "ytjkbooflbfnbiaa", sum := "6a4aef5514c6d42a144fd2b7f2c788a1e1d2fcd0342a5ac35381f3ad6ecdf9db", func := "loop.example/blockstack/laws.FnThinFull", spec := "fnThinFull", apart := false, narrowed := true }
def FnThinFullUptoSaid : Prop := fnThinFullUptoRow.holds Try.pinned (OpenSpec.upto fnThinFullSpec)

/-- 'laws.FnThinFree', WHERE WHAT IT READS IS OF BULK AT MOST 1048576: true; the input reads as it did. -/
def fnThinFreeUptoRow : OpenClaim := { program := "ytjkbooflbfnbiaa", sum := "6a4aef5514c6d42a144fd2b7f2c788a1e1d2fcd0342a5ac35381f3ad6ecdf9db", func := "loop.example/blockstack/laws.FnThinFree", spec := "fnThinFree", apart := false, narrowed := true }
def FnThinFreeUptoSaid : Prop := fnThinFreeUptoRow.holds Try.pinned (OpenSpec.upto fnThinFreeSpec)

end Rows
end Go.Proofs.Ytjkbooflbfnbiaa
