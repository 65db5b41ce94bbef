/-
  No cell of these rows narrows 'for every input' (looked for: loops, veiled, ifaces, maps, wideKeys, modest, calm, conditions, laid).
  DERIVED. THE GIVEN ROWS OF THIS SEAT. 9 by the template 'for every input the law returns true; each argument reads behind the call as it read before'; 0 by the template 'total and deterministic' (their statements: YthghngphamimgaaTotals.lean).
  GIVEN WITH THE SEED: the statements are not yours to turn. If you find one false, say at which input.
  Laid BY PROGRAM, IN A SANDBOX (cutbox-rows.mjs): the forced cells as the released guide's own fill.sh prints them over the translation 76bc304061172c59… (all of the seat's roots in one cut). By AI agents, Wed Nov 11 2026. No macro, syntax, notation, axiom, sorry.
-/
import Derived.Test.YthghngphamimgaaChecked
import GoSem.Claim
import GoSem.ClaimJoined
import GoSem.ClaimMapViews
import Derived.JoinedTies
import Derived.KernelRfl
namespace Go.Proofs.Ythghngphamimgaa
/- THE CELL 'sum', in the pinned program and in every row, IS THE sha256 OF THE DUMP (.gsa) THAT YthghngphamimgaaProg.lean LOADS. Nothing in Lean hashes anything: it is a label: what it is worth is what the hold of that sum in a sandbox is worth. -/
noncomputable def Try.pinned : Pinned := { name := "ythghngphamimgaa", sum := "76bc304061172c59957ad96b345f4bcb6af601324df8138cbc241f5571d1a76c", checked := Try.checked }
namespace Rows
def none {H : Type} : Left H := { results := [], args := [] }

/-- 'laws.FnExactJournalValid': WHATEVER THE INPUT: true; the input reads as it did. -/
def fnExactJournalValidSpec : ChangeSpec := { name := "fnExactJournalValid", fn := fun _ => fun
  | [d1, d2] => { results := [.lit (.bool true)], args := [d1, d2] }
  | _ => none }
def fnExactJournalValidRow : OpenClaim := { program := "ythghngphamimgaa", sum := "76bc304061172c59957ad96b345f4bcb6af601324df8138cbc241f5571d1a76c", func := "loop.example/blockstack/laws.FnExactJournalValid", spec := "fnExactJournalValid", apart := false }
def FnExactJournalValidSaid : Prop := fnExactJournalValidRow.holds Try.pinned (OpenSpec.ofChange fnExactJournalValidSpec)

/-- ITS FALSE NEIGHBOUR: 'it returns false'. Refute it at one input. -/
def fnExactJournalValidWrong : ChangeSpec := { name := "fnExactJournalValid", fn := fun _ => fun
  | [d1, d2] => { results := [.lit (.bool false)], args := [d1, d2] }
  | _ => none }
def FnExactJournalValidWrongFalsely : Prop := fnExactJournalValidRow.holds Try.pinned (OpenSpec.ofChange fnExactJournalValidWrong)

/-- 'laws.FnJournalValid': WHATEVER THE INPUT: true; the input reads as it did. -/
def fnJournalValidSpec : ChangeSpec := { name := "fnJournalValid", fn := fun _ => fun
  | [d] => { results := [.lit (.bool true)], args := [d] }
  | _ => none }
def fnJournalValidRow : OpenClaim := { program := "ythghngphamimgaa", sum := "76bc304061172c59957ad96b345f4bcb6af601324df8138cbc241f5571d1a76c", func := "loop.example/blockstack/laws.FnJournalValid", spec := "fnJournalValid", apart := false }
def FnJournalValidSaid : Prop := fnJournalValidRow.holds Try.pinned (OpenSpec.ofChange fnJournalValidSpec)

/-- ITS FALSE NEIGHBOUR: 'it returns false'. Refute it at one input. -/
def fnJournalValidWrong : ChangeSpec := { name := "fnJournalValid", fn := fun _ => fun
  | [d] => { results := [.lit (.bool false)], args := [d] }
  | _ => none }
def FnJournalValidWrongFalsely : Prop := fnJournalValidRow.holds Try.pinned (OpenSpec.ofChange fnJournalValidWrong)

/-- 'laws.FnExactCommittedNumbers': WHATEVER THE INPUT: true; the input reads as it did. -/
def fnExactCommittedNumbersSpec : ChangeSpec := { name := "fnExactCommittedNumbers", fn := fun _ => fun
  | [d] => { results := [.lit (.bool true)], args := [d] }
  | _ => none }
def fnExactCommittedNumbersRow : OpenClaim := { program := "ythghngphamimgaa", sum := "76bc304061172c59957ad96b345f4bcb6af601324df8138cbc241f5571d1a76c", func := "loop.example/blockstack/laws.FnExactCommittedNumbers", spec := "fnExactCommittedNumbers", apart := false }
def FnExactCommittedNumbersSaid : Prop := fnExactCommittedNumbersRow.holds Try.pinned (OpenSpec.ofChange fnExactCommittedNumbersSpec)

/-- ITS FALSE NEIGHBOUR: 'it returns false'. Refute it at one input. -/
def fnExactCommittedNumbersWrong : ChangeSpec := { name := "fnExactCommittedNumbers", fn := fun _ => fun
  | [d] => { results := [.lit (.bool false)], args := [d] }
  | _ => none }
def FnExactCommittedNumbersWrongFalsely : Prop := fnExactCommittedNumbersRow.holds Try.pinned (OpenSpec.ofChange fnExactCommittedNumbersWrong)

/-- 'laws.FnCommittedNumbers': WHATEVER THE INPUT: true; the input reads as it did. -/
def fnCommittedNumbersSpec : ChangeSpec := { name := "fnCommittedNumbers", fn := fun _ => fun
  | [d] => { results := [.lit (.bool true)], args := [d] }
  | _ => none }
def fnCommittedNumbersRow : OpenClaim := { program := "ythghngphamimgaa", sum := "76bc304061172c59957ad96b345f4bcb6af601324df8138cbc241f5571d1a76c", func := "loop.example/blockstack/laws.FnCommittedNumbers", spec := "fnCommittedNumbers", apart := false }
def FnCommittedNumbersSaid : Prop := fnCommittedNumbersRow.holds Try.pinned (OpenSpec.ofChange fnCommittedNumbersSpec)

/-- ITS FALSE NEIGHBOUR: 'it returns false'. Refute it at one input. -/
def fnCommittedNumbersWrong : ChangeSpec := { name := "fnCommittedNumbers", fn := fun _ => fun
  | [d] => { results := [.lit (.bool false)], args := [d] }
  | _ => none }
def FnCommittedNumbersWrongFalsely : Prop := fnCommittedNumbersRow.holds Try.pinned (OpenSpec.ofChange fnCommittedNumbersWrong)

/-- 'laws.FnExactAppendTransaction': WHATEVER THE INPUT: true; the input reads as it did. -/
def fnExactAppendTransactionSpec : ChangeSpec := { name := "fnExactAppendTransaction", fn := fun _ => fun
  | [d1, d2, d3, d4] => { results := [.lit (.bool true)], args := [d1, d2, d3, d4] }
  | _ => none }
def fnExactAppendTransactionRow : OpenClaim := { program := "ythghngphamimgaa", sum := "76bc304061172c59957ad96b345f4bcb6af601324df8138cbc241f5571d1a76c", func := "loop.example/blockstack/laws.FnExactAppendTransaction", spec := "fnExactAppendTransaction", apart := false }
def FnExactAppendTransactionSaid : Prop := fnExactAppendTransactionRow.holds Try.pinned (OpenSpec.ofChange fnExactAppendTransactionSpec)

/-- ITS FALSE NEIGHBOUR: 'it returns false'. Refute it at one input. -/
def fnExactAppendTransactionWrong : ChangeSpec := { name := "fnExactAppendTransaction", fn := fun _ => fun
  | [d1, d2, d3, d4] => { results := [.lit (.bool false)], args := [d1, d2, d3, d4] }
  | _ => none }
def FnExactAppendTransactionWrongFalsely : Prop := fnExactAppendTransactionRow.holds Try.pinned (OpenSpec.ofChange fnExactAppendTransactionWrong)

/-- 'laws.FnExactReplayJournal': WHATEVER THE INPUT: true; the input reads as it did. -/
def fnExactReplayJournalSpec : ChangeSpec := { name := "fnExactReplayJournal", fn := fun _ => fun
  | [d1, d2] => { results := [.lit (.bool true)], args := [d1, d2] }
  | _ => none }
def fnExactReplayJournalRow : OpenClaim := { program := "ythghngphamimgaa", sum := "76bc304061172c59957ad96b345f4bcb6af601324df8138cbc241f5571d1a76c", func := "loop.example/blockstack/laws.FnExactReplayJournal", spec := "fnExactReplayJournal", apart := false }
def FnExactReplayJournalSaid : Prop := fnExactReplayJournalRow.holds Try.pinned (OpenSpec.ofChange fnExactReplayJournalSpec)

/-- ITS FALSE NEIGHBOUR: 'it returns false'. Refute it at one input. -/
def fnExactReplayJournalWrong : ChangeSpec := { name := "fnExactReplayJournal", fn := fun _ => fun
  | [d1, d2] => { results := [.lit (.bool false)], args := [d1, d2] }
  | _ => none }
def FnExactReplayJournalWrongFalsely : Prop := fnExactReplayJournalRow.holds Try.pinned (OpenSpec.ofChange fnExactReplayJournalWrong)

/-- 'laws.FnReplayJournal': WHATEVER THE INPUT: true; the input reads as it did. -/
def fnReplayJournalSpec : ChangeSpec := { name := "fnReplayJournal", fn := fun _ => fun
  | [d] => { results := [.lit (.bool true)], args := [d] }
  | _ => none }
def fnReplayJournalRow : OpenClaim := { program := "ythghngphamimgaa", sum := "76bc304061172c59957ad96b345f4bcb6af601324df8138cbc241f5571d1a76c", func := "loop.example/blockstack/laws.FnReplayJournal", spec := "fnReplayJournal", apart := false }
def FnReplayJournalSaid : Prop := fnReplayJournalRow.holds Try.pinned (OpenSpec.ofChange fnReplayJournalSpec)

/-- ITS FALSE NEIGHBOUR: 'it returns false'. Refute it at one input. -/
def fnReplayJournalWrong : ChangeSpec := { name := "fnReplayJournal", fn := fun _ => fun
  | [d] => { results := [.lit (.bool false)], args := [d] }
  | _ => none }
def FnReplayJournalWrongFalsely : Prop := fnReplayJournalRow.holds Try.pinned (OpenSpec.ofChange fnReplayJournalWrong)

/-- 'laws.FnJournalTwo': WHATEVER THE INPUT: true; the input reads as it did. -/
def fnJournalTwoSpec : ChangeSpec := { name := "fnJournalTwo", fn := fun _ => fun
  | [d] => { results := [.lit (.bool true)], args := [d] }
  | _ => none }
def fnJournalTwoRow : OpenClaim := { program := "ythghngphamimgaa", sum := "76bc304061172c59957ad96b345f4bcb6af601324df8138cbc241f5571d1a76c", func := "loop.example/blockstack/laws.FnJournalTwo", spec := "fnJournalTwo", apart := false }
def FnJournalTwoSaid : Prop := fnJournalTwoRow.holds Try.pinned (OpenSpec.ofChange fnJournalTwoSpec)

/-- ITS FALSE NEIGHBOUR: 'it returns false'. Refute it at one input. -/
def fnJournalTwoWrong : ChangeSpec := { name := "fnJournalTwo", fn := fun _ => fun
  | [d] => { results := [.lit (.bool false)], args := [d] }
  | _ => none }
def FnJournalTwoWrongFalsely : Prop := fnJournalTwoRow.holds Try.pinned (OpenSpec.ofChange fnJournalTwoWrong)

/-- 'laws.FnAppendTransaction': WHATEVER THE INPUT: true; the input reads as it did. -/
def fnAppendTransactionSpec : ChangeSpec := { name := "fnAppendTransaction", fn := fun _ => fun
  | [d1, d2] => { results := [.lit (.bool true)], args := [d1, d2] }
  | _ => none }
def fnAppendTransactionRow : OpenClaim := { program := "ythghngphamimgaa", sum := "76bc304061172c59957ad96b345f4bcb6af601324df8138cbc241f5571d1a76c", func := "loop.example/blockstack/laws.FnAppendTransaction", spec := "fnAppendTransaction", apart := false }
def FnAppendTransactionSaid : Prop := fnAppendTransactionRow.holds Try.pinned (OpenSpec.ofChange fnAppendTransactionSpec)

/-- ITS FALSE NEIGHBOUR: 'it returns false'. Refute it at one input. -/
def fnAppendTransactionWrong : ChangeSpec := { name := "fnAppendTransaction", fn := fun _ => fun
  | [d1, d2] => { results := [.lit (.bool false)], args := [d1, d2] }
  | _ => none }
def FnAppendTransactionWrongFalsely : Prop := fnAppendTransactionRow.holds Try.pinned (OpenSpec.ofChange fnAppendTransactionWrong)

/- THE SECOND FORM. 'bulk': how many values and letters a reading holds, each counted each time it is reached (what is shared counts as often as it is met; a slice's spare places count too). A statement '..UptoSaid' is the law's where the arguments, and the package variables that the reading takes, are together of bulk at most 1048576: NARROWER than '..Said'. Prove '..Said' where nothing that the law and all that it calls make is longer than what came in: it says more and counts as full. Else prove '..UptoSaid'. A law counts once. -/
mutual
def uptoBulk {H : Type} : DataW H → Nat
  | .lit (.string bytes) => bytes.length + 1
  | .lit _ => 1
  | .nil => 1
  | .ptr d => uptoBulk d + 1
  | .slice elems spare => uptoBulkAll elems + uptoBulkAll spare + 1
  | .agg parts => uptoBulkAll parts + 1
  | .iface _ d => uptoBulk d + 1
  | .map entries => uptoBulkEntries entries + 1
  | .held _ => 1
def uptoBulkAll {H : Type} : List (DataW H) → Nat
  | [] => 0
  | d :: r => uptoBulk d + uptoBulkAll r
def uptoBulkEntries {H : Type} : List (Lit × DataW H) → Nat
  | [] => 0
  | x :: r => uptoBulkEntry x + uptoBulkEntries r
def uptoBulkEntry {H : Type} : Lit × DataW H → Nat
  | (.string bytes, d) => bytes.length + uptoBulk d + 1
  | (_, d) => uptoBulk d + 1
 end
def uptoSmall : (H : Type) → List (DataW H) → Bool := fun _ ds => decide (uptoBulkAll ds ≤ 1048576)
def OpenSpec.upto (s : _root_.Go.ChangeSpec) : _root_.Go.OpenSpec := { _root_.Go.OpenSpec.ofChange s with cond := some uptoSmall }

/-- 'laws.FnExactJournalValid', WHERE WHAT IT READS IS OF BULK AT MOST 1048576: true; the input reads as it did. -/
def fnExactJournalValidUptoRow : OpenClaim := { program := "ythghngphamimgaa", sum := "76bc304061172c59957ad96b345f4bcb6af601324df8138cbc241f5571d1a76c", func := "loop.example/blockstack/laws.FnExactJournalValid", spec := "fnExactJournalValid", apart := false, narrowed := true }
def FnExactJournalValidUptoSaid : Prop := fnExactJournalValidUptoRow.holds Try.pinned (OpenSpec.upto fnExactJournalValidSpec)

/-- 'laws.FnJournalValid', WHERE WHAT IT READS IS OF BULK AT MOST 1048576: true; the input reads as it did. -/
def fnJournalValidUptoRow : OpenClaim := { program := "ythghngphamimgaa", sum := "76bc304061172c59957ad96b345f4bcb6af601324df8138cbc241f5571d1a76c", func := "loop.example/blockstack/laws.FnJournalValid", spec := "fnJournalValid", apart := false, narrowed := true }
def FnJournalValidUptoSaid : Prop := fnJournalValidUptoRow.holds Try.pinned (OpenSpec.upto fnJournalValidSpec)

/-- 'laws.FnExactCommittedNumbers', WHERE WHAT IT READS IS OF BULK AT MOST 1048576: true; the input reads as it did. -/
def fnExactCommittedNumbersUptoRow : OpenClaim := { program := "ythghngphamimgaa", sum := "76bc304061172c59957ad96b345f4bcb6af601324df8138cbc241f5571d1a76c", func := "loop.example/blockstack/laws.FnExactCommittedNumbers", spec := "fnExactCommittedNumbers", apart := false, narrowed := true }
def FnExactCommittedNumbersUptoSaid : Prop := fnExactCommittedNumbersUptoRow.holds Try.pinned (OpenSpec.upto fnExactCommittedNumbersSpec)

/-- 'laws.FnCommittedNumbers', WHERE WHAT IT READS IS OF BULK AT MOST 1048576: true; the input reads as it did. -/
def fnCommittedNumbersUptoRow : OpenClaim := { program := "ythghngphamimgaa", sum := "76bc304061172c59957ad96b345f4bcb6af601324df8138cbc241f5571d1a76c", func := "loop.example/blockstack/laws.FnCommittedNumbers", spec := "fnCommittedNumbers", apart := false, narrowed := true }
def FnCommittedNumbersUptoSaid : Prop := fnCommittedNumbersUptoRow.holds Try.pinned (OpenSpec.upto fnCommittedNumbersSpec)

/-- 'laws.FnExactAppendTransaction', WHERE WHAT IT READS IS OF BULK AT MOST 1048576: true; the input reads as it did. -/
def fnExactAppendTransactionUptoRow : OpenClaim := { program := "ythghngphamimgaa", sum := "76bc304061172c59957ad96b345f4bcb6af601324df8138cbc241f5571d1a76c", func := "loop.example/blockstack/laws.FnExactAppendTransaction", spec := "fnExactAppendTransaction", apart := false, narrowed := true }
def FnExactAppendTransactionUptoSaid : Prop := fnExactAppendTransactionUptoRow.holds Try.pinned (OpenSpec.upto fnExactAppendTransactionSpec)

/-- 'laws.FnExactReplayJournal', WHERE WHAT IT READS IS OF BULK AT MOST 1048576: true; the input reads as it did. -/
def fnExactReplayJournalUptoRow : OpenClaim := { program := "ythghngphamimgaa", sum := "76bc304061172c59957ad96b345f4bcb6af601324df8138cbc241f5571d1a76c", func := "loop.example/blockstack/laws.FnExactReplayJournal", spec := "fnExactReplayJournal", apart := false, narrowed := true }
def FnExactReplayJournalUptoSaid : Prop := fnExactReplayJournalUptoRow.holds Try.pinned (OpenSpec.upto fnExactReplayJournalSpec)

/-- 'laws.FnReplayJournal', WHERE WHAT IT READS IS OF BULK AT MOST 1048576: true; the input reads as it did. -/
def fnReplayJournalUptoRow : OpenClaim := { program := "ythghngphamimgaa", sum := "76bc304061172c59957ad96b345f4bcb6af601324df8138cbc241f5571d1a76c", func := "loop.example/blockstack/laws.FnReplayJournal", spec := "fnReplayJournal", apart := false, narrowed := true }
def FnReplayJournalUptoSaid : Prop := fnReplayJournalUptoRow.holds Try.pinned (OpenSpec.upto fnReplayJournalSpec)

/-- 'laws.FnJournalTwo', WHERE WHAT IT READS IS OF BULK AT MOST 1048576: true; the input reads as it did. -/
def fnJournalTwoUptoRow : OpenClaim := { program := "ythghngphamimgaa", sum := "76bc304061172c59957ad96b345f4bcb6af601324df8138cbc241f5571d1a76c", func := "loop.example/blockstack/laws.FnJournalTwo", spec := "fnJournalTwo", apart := false, narrowed := true }
def FnJournalTwoUptoSaid : Prop := fnJournalTwoUptoRow.holds Try.pinned (OpenSpec.upto fnJournalTwoSpec)

/-- 'laws.FnAppendTransaction', WHERE WHAT IT READS IS OF BULK AT MOST 1048576: true; the input reads as it did. -/
def fnAppendTransactionUptoRow : OpenClaim := { program := "ythghngphamimgaa", sum := "76bc304061172c59957ad96b345f4bcb6af601324df8138cbc241f5571d1a76c", func := "loop.example/blockstack/laws.FnAppendTransaction", spec := "fnAppendTransaction", apart := false, narrowed := true }
def FnAppendTransactionUptoSaid : Prop := fnAppendTransactionUptoRow.holds Try.pinned (OpenSpec.upto fnAppendTransactionSpec)

end Rows
end Go.Proofs.Ythghngphamimgaa
