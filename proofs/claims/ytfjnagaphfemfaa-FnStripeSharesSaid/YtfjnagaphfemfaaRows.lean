/-
  No cell of these rows narrows 'for every input' (looked for: loops, veiled, ifaces, maps, wideKeys, modest, calm, conditions, laid).
  DERIVED. THE GIVEN ROWS OF THIS SEAT. 10 by the template 'for every input the law returns true; each argument reads behind the call as it read before'; 0 by the template 'total and deterministic' (their statements: YtfjnagaphfemfaaTotals.lean).
  GIVEN WITH THE SEED: the statements are not yours to turn. If you find one false, say at which input.
  Laid BY PROGRAM, IN A SANDBOX (cutbox-rows.mjs): the forced cells as the released guide's own fill.sh prints them over the translation 6ba121a6c7b5db37… (all of the seat's roots in one cut). By AI agents, Wed Nov 11 2026. No macro, syntax, notation, axiom, sorry.
-/
import Derived.Test.YtfjnagaphfemfaaChecked
import GoSem.Claim
import GoSem.ClaimJoined
import GoSem.ClaimMapViews
import Derived.JoinedTies
import Derived.KernelRfl
namespace Go.Proofs.Ytfjnagaphfemfaa
/- THE CELL 'sum', in the pinned program and in every row, IS THE sha256 OF THE DUMP (.gsa) THAT YtfjnagaphfemfaaProg.lean LOADS. Nothing in Lean hashes anything: it is a label: what it is worth is what the hold of that sum in a sandbox is worth. -/
noncomputable def Try.pinned : Pinned := { name := "ytfjnagaphfemfaa", sum := "6ba121a6c7b5db378dfe24de0703594be274f703239dfdb6515beb859ef613bc", checked := Try.checked }
namespace Rows
def none {H : Type} : Left H := { results := [], args := [] }

/-- 'laws.FnExactParityDisk': WHATEVER THE INPUT: true; the input reads as it did. -/
def fnExactParityDiskSpec : ChangeSpec := { name := "fnExactParityDisk", fn := fun _ => fun
  | [d1, d2] => { results := [.lit (.bool true)], args := [d1, d2] }
  | _ => none }
def fnExactParityDiskRow : OpenClaim := { program := "ytfjnagaphfemfaa", sum := "6ba121a6c7b5db378dfe24de0703594be274f703239dfdb6515beb859ef613bc", func := "loop.example/blockstack/laws.FnExactParityDisk", spec := "fnExactParityDisk", apart := false }
def FnExactParityDiskSaid : Prop := fnExactParityDiskRow.holds Try.pinned (OpenSpec.ofChange fnExactParityDiskSpec)

/-- ITS FALSE NEIGHBOUR: 'it returns false'. Refute it at one input. -/
def fnExactParityDiskWrong : ChangeSpec := { name := "fnExactParityDisk", fn := fun _ => fun
  | [d1, d2] => { results := [.lit (.bool false)], args := [d1, d2] }
  | _ => none }
def FnExactParityDiskWrongFalsely : Prop := fnExactParityDiskRow.holds Try.pinned (OpenSpec.ofChange fnExactParityDiskWrong)

/-- 'laws.FnExactStripeSector': WHATEVER THE INPUT: true; the input reads as it did. -/
def fnExactStripeSectorSpec : ChangeSpec := { name := "fnExactStripeSector", fn := fun _ => fun
  | [d1, d2, d3, d4] => { results := [.lit (.bool true)], args := [d1, d2, d3, d4] }
  | _ => none }
def fnExactStripeSectorRow : OpenClaim := { program := "ytfjnagaphfemfaa", sum := "6ba121a6c7b5db378dfe24de0703594be274f703239dfdb6515beb859ef613bc", func := "loop.example/blockstack/laws.FnExactStripeSector", spec := "fnExactStripeSector", apart := false }
def FnExactStripeSectorSaid : Prop := fnExactStripeSectorRow.holds Try.pinned (OpenSpec.ofChange fnExactStripeSectorSpec)

/-- ITS FALSE NEIGHBOUR: 'it returns false'. Refute it at one input. -/
def fnExactStripeSectorWrong : ChangeSpec := { name := "fnExactStripeSector", fn := fun _ => fun
  | [d1, d2, d3, d4] => { results := [.lit (.bool false)], args := [d1, d2, d3, d4] }
  | _ => none }
def FnExactStripeSectorWrongFalsely : Prop := fnExactStripeSectorRow.holds Try.pinned (OpenSpec.ofChange fnExactStripeSectorWrong)

/-- 'laws.FnExactStripePlace': WHATEVER THE INPUT: true; the input reads as it did. -/
def fnExactStripePlaceSpec : ChangeSpec := { name := "fnExactStripePlace", fn := fun _ => fun
  | [d1, d2, d3] => { results := [.lit (.bool true)], args := [d1, d2, d3] }
  | _ => none }
def fnExactStripePlaceRow : OpenClaim := { program := "ytfjnagaphfemfaa", sum := "6ba121a6c7b5db378dfe24de0703594be274f703239dfdb6515beb859ef613bc", func := "loop.example/blockstack/laws.FnExactStripePlace", spec := "fnExactStripePlace", apart := false }
def FnExactStripePlaceSaid : Prop := fnExactStripePlaceRow.holds Try.pinned (OpenSpec.ofChange fnExactStripePlaceSpec)

/-- ITS FALSE NEIGHBOUR: 'it returns false'. Refute it at one input. -/
def fnExactStripePlaceWrong : ChangeSpec := { name := "fnExactStripePlace", fn := fun _ => fun
  | [d1, d2, d3] => { results := [.lit (.bool false)], args := [d1, d2, d3] }
  | _ => none }
def FnExactStripePlaceWrongFalsely : Prop := fnExactStripePlaceRow.holds Try.pinned (OpenSpec.ofChange fnExactStripePlaceWrong)

/-- 'laws.FnExactStripeShares': WHATEVER THE INPUT: true; the input reads as it did. -/
def fnExactStripeSharesSpec : ChangeSpec := { name := "fnExactStripeShares", fn := fun _ => fun
  | [d1, d2, d3, d4] => { results := [.lit (.bool true)], args := [d1, d2, d3, d4] }
  | _ => none }
def fnExactStripeSharesRow : OpenClaim := { program := "ytfjnagaphfemfaa", sum := "6ba121a6c7b5db378dfe24de0703594be274f703239dfdb6515beb859ef613bc", func := "loop.example/blockstack/laws.FnExactStripeShares", spec := "fnExactStripeShares", apart := false }
def FnExactStripeSharesSaid : Prop := fnExactStripeSharesRow.holds Try.pinned (OpenSpec.ofChange fnExactStripeSharesSpec)

/-- ITS FALSE NEIGHBOUR: 'it returns false'. Refute it at one input. -/
def fnExactStripeSharesWrong : ChangeSpec := { name := "fnExactStripeShares", fn := fun _ => fun
  | [d1, d2, d3, d4] => { results := [.lit (.bool false)], args := [d1, d2, d3, d4] }
  | _ => none }
def FnExactStripeSharesWrongFalsely : Prop := fnExactStripeSharesRow.holds Try.pinned (OpenSpec.ofChange fnExactStripeSharesWrong)

/-- 'laws.FnParityDisk': WHATEVER THE INPUT: true; the input reads as it did. -/
def fnParityDiskSpec : ChangeSpec := { name := "fnParityDisk", fn := fun _ => fun
  | [d] => { results := [.lit (.bool true)], args := [d] }
  | _ => none }
def fnParityDiskRow : OpenClaim := { program := "ytfjnagaphfemfaa", sum := "6ba121a6c7b5db378dfe24de0703594be274f703239dfdb6515beb859ef613bc", func := "loop.example/blockstack/laws.FnParityDisk", spec := "fnParityDisk", apart := false }
def FnParityDiskSaid : Prop := fnParityDiskRow.holds Try.pinned (OpenSpec.ofChange fnParityDiskSpec)

/-- ITS FALSE NEIGHBOUR: 'it returns false'. Refute it at one input. -/
def fnParityDiskWrong : ChangeSpec := { name := "fnParityDisk", fn := fun _ => fun
  | [d] => { results := [.lit (.bool false)], args := [d] }
  | _ => none }
def FnParityDiskWrongFalsely : Prop := fnParityDiskRow.holds Try.pinned (OpenSpec.ofChange fnParityDiskWrong)

/-- 'laws.FnParityTurn': WHATEVER THE INPUT: true; the input reads as it did. -/
def fnParityTurnSpec : ChangeSpec := { name := "fnParityTurn", fn := fun _ => fun
  | [d] => { results := [.lit (.bool true)], args := [d] }
  | _ => none }
def fnParityTurnRow : OpenClaim := { program := "ytfjnagaphfemfaa", sum := "6ba121a6c7b5db378dfe24de0703594be274f703239dfdb6515beb859ef613bc", func := "loop.example/blockstack/laws.FnParityTurn", spec := "fnParityTurn", apart := false }
def FnParityTurnSaid : Prop := fnParityTurnRow.holds Try.pinned (OpenSpec.ofChange fnParityTurnSpec)

/-- ITS FALSE NEIGHBOUR: 'it returns false'. Refute it at one input. -/
def fnParityTurnWrong : ChangeSpec := { name := "fnParityTurn", fn := fun _ => fun
  | [d] => { results := [.lit (.bool false)], args := [d] }
  | _ => none }
def FnParityTurnWrongFalsely : Prop := fnParityTurnRow.holds Try.pinned (OpenSpec.ofChange fnParityTurnWrong)

/-- 'laws.FnStripeChunks': WHATEVER THE INPUT: true; the input reads as it did. -/
def fnStripeChunksSpec : ChangeSpec := { name := "fnStripeChunks", fn := fun _ => fun
  | [d] => { results := [.lit (.bool true)], args := [d] }
  | _ => none }
def fnStripeChunksRow : OpenClaim := { program := "ytfjnagaphfemfaa", sum := "6ba121a6c7b5db378dfe24de0703594be274f703239dfdb6515beb859ef613bc", func := "loop.example/blockstack/laws.FnStripeChunks", spec := "fnStripeChunks", apart := false }
def FnStripeChunksSaid : Prop := fnStripeChunksRow.holds Try.pinned (OpenSpec.ofChange fnStripeChunksSpec)

/-- ITS FALSE NEIGHBOUR: 'it returns false'. Refute it at one input. -/
def fnStripeChunksWrong : ChangeSpec := { name := "fnStripeChunks", fn := fun _ => fun
  | [d] => { results := [.lit (.bool false)], args := [d] }
  | _ => none }
def FnStripeChunksWrongFalsely : Prop := fnStripeChunksRow.holds Try.pinned (OpenSpec.ofChange fnStripeChunksWrong)

/-- 'laws.FnStripeSector': WHATEVER THE INPUT: true; the input reads as it did. -/
def fnStripeSectorSpec : ChangeSpec := { name := "fnStripeSector", fn := fun _ => fun
  | [d] => { results := [.lit (.bool true)], args := [d] }
  | _ => none }
def fnStripeSectorRow : OpenClaim := { program := "ytfjnagaphfemfaa", sum := "6ba121a6c7b5db378dfe24de0703594be274f703239dfdb6515beb859ef613bc", func := "loop.example/blockstack/laws.FnStripeSector", spec := "fnStripeSector", apart := false }
def FnStripeSectorSaid : Prop := fnStripeSectorRow.holds Try.pinned (OpenSpec.ofChange fnStripeSectorSpec)

/-- ITS FALSE NEIGHBOUR: 'it returns false'. Refute it at one input. -/
def fnStripeSectorWrong : ChangeSpec := { name := "fnStripeSector", fn := fun _ => fun
  | [d] => { results := [.lit (.bool false)], args := [d] }
  | _ => none }
def FnStripeSectorWrongFalsely : Prop := fnStripeSectorRow.holds Try.pinned (OpenSpec.ofChange fnStripeSectorWrong)

/-- 'laws.FnStripePlace': WHATEVER THE INPUT: true; the input reads as it did. -/
def fnStripePlaceSpec : ChangeSpec := { name := "fnStripePlace", fn := fun _ => fun
  | [d] => { results := [.lit (.bool true)], args := [d] }
  | _ => none }
def fnStripePlaceRow : OpenClaim := { program := "ytfjnagaphfemfaa", sum := "6ba121a6c7b5db378dfe24de0703594be274f703239dfdb6515beb859ef613bc", func := "loop.example/blockstack/laws.FnStripePlace", spec := "fnStripePlace", apart := false }
def FnStripePlaceSaid : Prop := fnStripePlaceRow.holds Try.pinned (OpenSpec.ofChange fnStripePlaceSpec)

/-- ITS FALSE NEIGHBOUR: 'it returns false'. Refute it at one input. -/
def fnStripePlaceWrong : ChangeSpec := { name := "fnStripePlace", fn := fun _ => fun
  | [d] => { results := [.lit (.bool false)], args := [d] }
  | _ => none }
def FnStripePlaceWrongFalsely : Prop := fnStripePlaceRow.holds Try.pinned (OpenSpec.ofChange fnStripePlaceWrong)

/-- 'laws.FnStripeShares': WHATEVER THE INPUT: true; the input reads as it did. -/
def fnStripeSharesSpec : ChangeSpec := { name := "fnStripeShares", fn := fun _ => fun
  | [d] => { results := [.lit (.bool true)], args := [d] }
  | _ => none }
def fnStripeSharesRow : OpenClaim := { program := "ytfjnagaphfemfaa", sum := "6ba121a6c7b5db378dfe24de0703594be274f703239dfdb6515beb859ef613bc", func := "loop.example/blockstack/laws.FnStripeShares", spec := "fnStripeShares", apart := false }
def FnStripeSharesSaid : Prop := fnStripeSharesRow.holds Try.pinned (OpenSpec.ofChange fnStripeSharesSpec)

/-- ITS FALSE NEIGHBOUR: 'it returns false'. Refute it at one input. -/
def fnStripeSharesWrong : ChangeSpec := { name := "fnStripeShares", fn := fun _ => fun
  | [d] => { results := [.lit (.bool false)], args := [d] }
  | _ => none }
def FnStripeSharesWrongFalsely : Prop := fnStripeSharesRow.holds Try.pinned (OpenSpec.ofChange fnStripeSharesWrong)

/- THE SECOND FORM. 'bulk': how many values and letters a reading holds, each counted each time it is reached (what is shared counts as often as it is met; a slice's spare places count too). A statement '..UptoSaid' is the law's where the arguments, and the package variables that the reading takes, are together of bulk at most 1048576: NARROWER than '..Said'. Prove '..Said' where nothing that the law and all that it calls make is longer than what came in: it says more and counts as full. Else prove '..UptoSaid'. A law counts once. -/
mutual
def uptoBulk {H : Type} : DataW H → Nat
  | .lit (.string bytes) => bytes.length + 1
  | .lit _ => 1
  | .nil => 1
  | .ptr d => uptoBulk d + 1
  | .slice elems spare => uptoBulkAll elems + uptoBulkAll spare + 1
  | .agg parts => uptoBulkAll parts + 1
  | .iface _ d => uptoBulk d + 1
  | .map entries => uptoBulkEntries entries + 1
  | .held _ => 1
def uptoBulkAll {H : Type} : List (DataW H) → Nat
  | [] => 0
  | d :: r => uptoBulk d + uptoBulkAll r
def uptoBulkEntries {H : Type} : List (Lit × DataW H) → Nat
  | [] => 0
  | x :: r => uptoBulkEntry x + uptoBulkEntries r
def uptoBulkEntry {H : Type} : Lit × DataW H → Nat
  | (.string bytes, d) => bytes.length + uptoBulk d + 1
  | (_, d) => uptoBulk d + 1
 end
def uptoSmall : (H : Type) → List (DataW H) → Bool := fun _ ds => decide (uptoBulkAll ds ≤ 1048576)
def OpenSpec.upto (s : _root_.Go.ChangeSpec) : _root_.Go.OpenSpec := { _root_.Go.OpenSpec.ofChange s with cond := some uptoSmall }

/-- 'laws.FnExactParityDisk', WHERE WHAT IT READS IS OF BULK AT MOST 1048576: true; the input reads as it did. -/
def fnExactParityDiskUptoRow : OpenClaim := { program := "ytfjnagaphfemfaa", sum := "6ba121a6c7b5db378dfe24de0703594be274f703239dfdb6515beb859ef613bc", func := "loop.example/blockstack/laws.FnExactParityDisk", spec := "fnExactParityDisk", apart := false, narrowed := true }
def FnExactParityDiskUptoSaid : Prop := fnExactParityDiskUptoRow.holds Try.pinned (OpenSpec.upto fnExactParityDiskSpec)

/-- 'laws.FnExactStripeSector', WHERE WHAT IT READS IS OF BULK AT MOST 1048576: true; the input reads as it did. -/
def fnExactStripeSectorUptoRow : OpenClaim := { program := "ytfjnagaphfemfaa", sum := "6ba121a6c7b5db378dfe24de0703594be274f703239dfdb6515beb859ef613bc", func := "loop.example/blockstack/laws.FnExactStripeSector", spec := "fnExactStripeSector", apart := false, narrowed := true }
def FnExactStripeSectorUptoSaid : Prop := fnExactStripeSectorUptoRow.holds Try.pinned (OpenSpec.upto fnExactStripeSectorSpec)

/-- 'laws.FnExactStripePlace', WHERE WHAT IT READS IS OF BULK AT MOST 1048576: true; the input reads as it did. -/
def fnExactStripePlaceUptoRow : OpenClaim := { program := "ytfjnagaphfemfaa", sum := "6ba121a6c7b5db378dfe24de0703594be274f703239dfdb6515beb859ef613bc", func := "loop.example/blockstack/laws.FnExactStripePlace", spec := "fnExactStripePlace", apart := false, narrowed := true }
def FnExactStripePlaceUptoSaid : Prop := fnExactStripePlaceUptoRow.holds Try.pinned (OpenSpec.upto fnExactStripePlaceSpec)

/-- 'laws.FnExactStripeShares', WHERE WHAT IT READS IS OF BULK AT MOST 1048576: true; the input reads as it did. -/
def fnExactStripeSharesUptoRow : OpenClaim := { program := "ytfjnagaphfemfaa", sum := "6ba121a6c7b5db378dfe24de0703594be274f703239dfdb6515beb859ef613bc", func := "loop.example/blockstack/laws.FnExactStripeShares", spec := "fnExactStripeShares", apart := false, narrowed := true }
def FnExactStripeSharesUptoSaid : Prop := fnExactStripeSharesUptoRow.holds Try.pinned (OpenSpec.upto fnExactStripeSharesSpec)

/-- 'laws.FnParityDisk', WHERE WHAT IT READS IS OF BULK AT MOST 1048576: true; the input reads as it did. -/
def fnParityDiskUptoRow : OpenClaim := { program := "ytfjnagaphfemfaa", sum := "6ba121a6c7b5db378dfe24de0703594be274f703239dfdb6515beb859ef613bc", func := "loop.example/blockstack/laws.FnParityDisk", spec := "fnParityDisk", apart := false, narrowed := true }
def FnParityDiskUptoSaid : Prop := fnParityDiskUptoRow.holds Try.pinned (OpenSpec.upto fnParityDiskSpec)

/-- 'laws.FnParityTurn', WHERE WHAT IT READS IS OF BULK AT MOST 1048576: true; the input reads as it did. -/
def fnParityTurnUptoRow : OpenClaim := { program := "ytfjnagaphfemfaa", sum := "6ba121a6c7b5db378dfe24de0703594be274f703239dfdb6515beb859ef613bc", func := "loop.example/blockstack/laws.FnParityTurn", spec := "fnParityTurn", apart := false, narrowed := true }
def FnParityTurnUptoSaid : Prop := fnParityTurnUptoRow.holds Try.pinned (OpenSpec.upto fnParityTurnSpec)

/-- 'laws.FnStripeChunks', WHERE WHAT IT READS IS OF BULK AT MOST 1048576: true; the input reads as it did. -/
def fnStripeChunksUptoRow : OpenClaim := { program := "ytfjnagaphfemfaa", sum := "6ba121a6c7b5db378dfe24de0703594be274f703239dfdb6515beb859ef613bc", func := "loop.example/blockstack/laws.FnStripeChunks", spec := "fnStripeChunks", apart := false, narrowed := true }
def FnStripeChunksUptoSaid : Prop := fnStripeChunksUptoRow.holds Try.pinned (OpenSpec.upto fnStripeChunksSpec)

/-- 'laws.FnStripeSector', WHERE WHAT IT READS IS OF BULK AT MOST 1048576: true; the input reads as it did. -/
def fnStripeSectorUptoRow : OpenClaim := { program := "ytfjnagaphfemfaa", sum := "6ba121a6c7b5db378dfe24de0703594be274f703239dfdb6515beb859ef613bc", func := "loop.example/blockstack/laws.FnStripeSector", spec := "fnStripeSector", apart := false, narrowed := true }
def FnStripeSectorUptoSaid : Prop := fnStripeSectorUptoRow.holds Try.pinned (OpenSpec.upto fnStripeSectorSpec)

/-- 'laws.FnStripePlace', WHERE WHAT IT READS IS OF BULK AT MOST 1048576: true; the input reads as it did. -/
def fnStripePlaceUptoRow : OpenClaim := { program := "ytfjnagaphfemfaa", sum := "6ba121a6c7b5db378dfe24de0703594be274f703239dfdb6515beb859ef613bc", func := "loop.example/blockstack/laws.FnStripePlace", spec := "fnStripePlace", apart := false, narrowed := true }
def FnStripePlaceUptoSaid : Prop := fnStripePlaceUptoRow.holds Try.pinned (OpenSpec.upto fnStripePlaceSpec)

/-- 'laws.FnStripeShares', WHERE WHAT IT READS IS OF BULK AT MOST 1048576: true; the input reads as it did. -/
def fnStripeSharesUptoRow : OpenClaim := { program := "ytfjnagaphfemfaa", sum := "6ba121a6c7b5db378dfe24de0703594be274f703239dfdb6515beb859ef613bc", func := "loop.example/blockstack/laws.FnStripeShares", spec := "fnStripeShares", apart := false, narrowed := true }
def FnStripeSharesUptoSaid : Prop := fnStripeSharesUptoRow.holds Try.pinned (OpenSpec.upto fnStripeSharesSpec)

end Rows
end Go.Proofs.Ytfjnagaphfemfaa
