/-
  No cell of these rows narrows 'for every input' (looked for: loops, veiled, ifaces, maps, wideKeys, modest, calm, conditions, laid).
  DERIVED. THE GIVEN ROWS OF THIS SEAT. 14 by the template 'for every input the law returns true; each argument reads behind the call as it read before'; 0 by the template 'total and deterministic' (their statements: YtgfkpolklianeaaTotals.lean).
  GIVEN WITH THE SEED: the statements are not yours to turn. If you find one false, say at which input.
  Laid BY PROGRAM, IN A SANDBOX (cutbox-rows.mjs): the forced cells as the released guide's own fill.sh prints them over the translation cd587dc7ed3ea83b… (all of the seat's roots in one cut). By AI agents, Wed Nov 11 2026. No macro, syntax, notation, axiom, sorry.
-/
import Derived.Test.YtgfkpolklianeaaChecked
import GoSem.Claim
import GoSem.ClaimJoined
import GoSem.ClaimMapViews
import Derived.JoinedTies
import Derived.KernelRfl
namespace Go.Proofs.Ytgfkpolklianeaa
/- THE CELL 'sum', in the pinned program and in every row, IS THE sha256 OF THE DUMP (.gsa) THAT YtgfkpolklianeaaProg.lean LOADS. Nothing in Lean hashes anything: it is a label: what it is worth is what the hold of that sum in a sandbox is worth. -/
noncomputable def Try.pinned : Pinned := { name := "ytgfkpolklianeaa", sum := "cd587dc7ed3ea83b67069856bed702c317eb31cf651ba6c4c5042731632db814", checked := Try.checked }
namespace Rows
def none {H : Type} : Left H := { results := [], args := [] }

/-- 'farhaillaw.CommandReadies': WHATEVER THE INPUT: true; the input reads as it did. -/
def commandReadiesSpec : ChangeSpec := { name := "commandReadies", fn := fun _ => fun
  | [d1, d2, d3, d4, d5] => { results := [.lit (.bool true)], args := [d1, d2, d3, d4, d5] }
  | _ => none }
def commandReadiesRow : OpenClaim := { program := "ytgfkpolklianeaa", sum := "cd587dc7ed3ea83b67069856bed702c317eb31cf651ba6c4c5042731632db814", func := "farhail/farhaillaw.CommandReadies", spec := "commandReadies", apart := false }
def CommandReadiesSaid : Prop := commandReadiesRow.holds Try.pinned (OpenSpec.ofChange commandReadiesSpec)

/-- ITS FALSE NEIGHBOUR: 'it returns false'. Refute it at one input. -/
def commandReadiesWrong : ChangeSpec := { name := "commandReadies", fn := fun _ => fun
  | [d1, d2, d3, d4, d5] => { results := [.lit (.bool false)], args := [d1, d2, d3, d4, d5] }
  | _ => none }
def CommandReadiesWrongFalsely : Prop := commandReadiesRow.holds Try.pinned (OpenSpec.ofChange commandReadiesWrong)

/-- 'farhaillaw.MemoryVotes': WHATEVER THE INPUT: true; the input reads as it did. -/
def memoryVotesSpec : ChangeSpec := { name := "memoryVotes", fn := fun _ => fun
  | [d1, d2, d3] => { results := [.lit (.bool true)], args := [d1, d2, d3] }
  | _ => none }
def memoryVotesRow : OpenClaim := { program := "ytgfkpolklianeaa", sum := "cd587dc7ed3ea83b67069856bed702c317eb31cf651ba6c4c5042731632db814", func := "farhail/farhaillaw.MemoryVotes", spec := "memoryVotes", apart := false }
def MemoryVotesSaid : Prop := memoryVotesRow.holds Try.pinned (OpenSpec.ofChange memoryVotesSpec)

/-- ITS FALSE NEIGHBOUR: 'it returns false'. Refute it at one input. -/
def memoryVotesWrong : ChangeSpec := { name := "memoryVotes", fn := fun _ => fun
  | [d1, d2, d3] => { results := [.lit (.bool false)], args := [d1, d2, d3] }
  | _ => none }
def MemoryVotesWrongFalsely : Prop := memoryVotesRow.holds Try.pinned (OpenSpec.ofChange memoryVotesWrong)

/-- 'farhaillaw.DeliverOffers': WHATEVER THE INPUT: true; the input reads as it did. -/
def deliverOffersSpec : ChangeSpec := { name := "deliverOffers", fn := fun _ => fun
  | [d1, d2, d3, d4, d5, d6, d7] => { results := [.lit (.bool true)], args := [d1, d2, d3, d4, d5, d6, d7] }
  | _ => none }
def deliverOffersRow : OpenClaim := { program := "ytgfkpolklianeaa", sum := "cd587dc7ed3ea83b67069856bed702c317eb31cf651ba6c4c5042731632db814", func := "farhail/farhaillaw.DeliverOffers", spec := "deliverOffers", apart := false }
def DeliverOffersSaid : Prop := deliverOffersRow.holds Try.pinned (OpenSpec.ofChange deliverOffersSpec)

/-- ITS FALSE NEIGHBOUR: 'it returns false'. Refute it at one input. -/
def deliverOffersWrong : ChangeSpec := { name := "deliverOffers", fn := fun _ => fun
  | [d1, d2, d3, d4, d5, d6, d7] => { results := [.lit (.bool false)], args := [d1, d2, d3, d4, d5, d6, d7] }
  | _ => none }
def DeliverOffersWrongFalsely : Prop := deliverOffersRow.holds Try.pinned (OpenSpec.ofChange deliverOffersWrong)

/-- 'farhaillaw.CommandGates': WHATEVER THE INPUT: true; the input reads as it did. -/
def commandGatesSpec : ChangeSpec := { name := "commandGates", fn := fun _ => fun
  | [d1, d2] => { results := [.lit (.bool true)], args := [d1, d2] }
  | _ => none }
def commandGatesRow : OpenClaim := { program := "ytgfkpolklianeaa", sum := "cd587dc7ed3ea83b67069856bed702c317eb31cf651ba6c4c5042731632db814", func := "farhail/farhaillaw.CommandGates", spec := "commandGates", apart := false }
def CommandGatesSaid : Prop := commandGatesRow.holds Try.pinned (OpenSpec.ofChange commandGatesSpec)

/-- ITS FALSE NEIGHBOUR: 'it returns false'. Refute it at one input. -/
def commandGatesWrong : ChangeSpec := { name := "commandGates", fn := fun _ => fun
  | [d1, d2] => { results := [.lit (.bool false)], args := [d1, d2] }
  | _ => none }
def CommandGatesWrongFalsely : Prop := commandGatesRow.holds Try.pinned (OpenSpec.ofChange commandGatesWrong)

/-- 'farhaillaw.StreamFrames': WHATEVER THE INPUT: true; the input reads as it did. -/
def streamFramesSpec : ChangeSpec := { name := "streamFrames", fn := fun _ => fun
  | [d] => { results := [.lit (.bool true)], args := [d] }
  | _ => none }
def streamFramesRow : OpenClaim := { program := "ytgfkpolklianeaa", sum := "cd587dc7ed3ea83b67069856bed702c317eb31cf651ba6c4c5042731632db814", func := "farhail/farhaillaw.StreamFrames", spec := "streamFrames", apart := false }
def StreamFramesSaid : Prop := streamFramesRow.holds Try.pinned (OpenSpec.ofChange streamFramesSpec)

/-- ITS FALSE NEIGHBOUR: 'it returns false'. Refute it at one input. -/
def streamFramesWrong : ChangeSpec := { name := "streamFrames", fn := fun _ => fun
  | [d] => { results := [.lit (.bool false)], args := [d] }
  | _ => none }
def StreamFramesWrongFalsely : Prop := streamFramesRow.holds Try.pinned (OpenSpec.ofChange streamFramesWrong)

/-- 'farhaillaw.CommandEncodes': WHATEVER THE INPUT: true; the input reads as it did. -/
def commandEncodesSpec : ChangeSpec := { name := "commandEncodes", fn := fun _ => fun
  | [d] => { results := [.lit (.bool true)], args := [d] }
  | _ => none }
def commandEncodesRow : OpenClaim := { program := "ytgfkpolklianeaa", sum := "cd587dc7ed3ea83b67069856bed702c317eb31cf651ba6c4c5042731632db814", func := "farhail/farhaillaw.CommandEncodes", spec := "commandEncodes", apart := false }
def CommandEncodesSaid : Prop := commandEncodesRow.holds Try.pinned (OpenSpec.ofChange commandEncodesSpec)

/-- ITS FALSE NEIGHBOUR: 'it returns false'. Refute it at one input. -/
def commandEncodesWrong : ChangeSpec := { name := "commandEncodes", fn := fun _ => fun
  | [d] => { results := [.lit (.bool false)], args := [d] }
  | _ => none }
def CommandEncodesWrongFalsely : Prop := commandEncodesRow.holds Try.pinned (OpenSpec.ofChange commandEncodesWrong)

/-- 'farhaillaw.CommandDecodes': WHATEVER THE INPUT: true; the input reads as it did. -/
def commandDecodesSpec : ChangeSpec := { name := "commandDecodes", fn := fun _ => fun
  | [d] => { results := [.lit (.bool true)], args := [d] }
  | _ => none }
def commandDecodesRow : OpenClaim := { program := "ytgfkpolklianeaa", sum := "cd587dc7ed3ea83b67069856bed702c317eb31cf651ba6c4c5042731632db814", func := "farhail/farhaillaw.CommandDecodes", spec := "commandDecodes", apart := false }
def CommandDecodesSaid : Prop := commandDecodesRow.holds Try.pinned (OpenSpec.ofChange commandDecodesSpec)

/-- ITS FALSE NEIGHBOUR: 'it returns false'. Refute it at one input. -/
def commandDecodesWrong : ChangeSpec := { name := "commandDecodes", fn := fun _ => fun
  | [d] => { results := [.lit (.bool false)], args := [d] }
  | _ => none }
def CommandDecodesWrongFalsely : Prop := commandDecodesRow.holds Try.pinned (OpenSpec.ofChange commandDecodesWrong)

/-- 'farhaillaw.FieldNumbers': WHATEVER THE INPUT: true; the input reads as it did. -/
def fieldNumbersSpec : ChangeSpec := { name := "fieldNumbers", fn := fun _ => fun
  | [d1, d2, d3] => { results := [.lit (.bool true)], args := [d1, d2, d3] }
  | _ => none }
def fieldNumbersRow : OpenClaim := { program := "ytgfkpolklianeaa", sum := "cd587dc7ed3ea83b67069856bed702c317eb31cf651ba6c4c5042731632db814", func := "farhail/farhaillaw.FieldNumbers", spec := "fieldNumbers", apart := false }
def FieldNumbersSaid : Prop := fieldNumbersRow.holds Try.pinned (OpenSpec.ofChange fieldNumbersSpec)

/-- ITS FALSE NEIGHBOUR: 'it returns false'. Refute it at one input. -/
def fieldNumbersWrong : ChangeSpec := { name := "fieldNumbers", fn := fun _ => fun
  | [d1, d2, d3] => { results := [.lit (.bool false)], args := [d1, d2, d3] }
  | _ => none }
def FieldNumbersWrongFalsely : Prop := fieldNumbersRow.holds Try.pinned (OpenSpec.ofChange fieldNumbersWrong)

/-- 'farhaillaw.GuardChecks': WHATEVER THE INPUT: true; the input reads as it did. -/
def guardChecksSpec : ChangeSpec := { name := "guardChecks", fn := fun _ => fun
  | [d] => { results := [.lit (.bool true)], args := [d] }
  | _ => none }
def guardChecksRow : OpenClaim := { program := "ytgfkpolklianeaa", sum := "cd587dc7ed3ea83b67069856bed702c317eb31cf651ba6c4c5042731632db814", func := "farhail/farhaillaw.GuardChecks", spec := "guardChecks", apart := false }
def GuardChecksSaid : Prop := guardChecksRow.holds Try.pinned (OpenSpec.ofChange guardChecksSpec)

/-- ITS FALSE NEIGHBOUR: 'it returns false'. Refute it at one input. -/
def guardChecksWrong : ChangeSpec := { name := "guardChecks", fn := fun _ => fun
  | [d] => { results := [.lit (.bool false)], args := [d] }
  | _ => none }
def GuardChecksWrongFalsely : Prop := guardChecksRow.holds Try.pinned (OpenSpec.ofChange guardChecksWrong)

/-- 'farhaillaw.FieldSums': WHATEVER THE INPUT: true; the input reads as it did. -/
def fieldSumsSpec : ChangeSpec := { name := "fieldSums", fn := fun _ => fun
  | [d1, d2] => { results := [.lit (.bool true)], args := [d1, d2] }
  | _ => none }
def fieldSumsRow : OpenClaim := { program := "ytgfkpolklianeaa", sum := "cd587dc7ed3ea83b67069856bed702c317eb31cf651ba6c4c5042731632db814", func := "farhail/farhaillaw.FieldSums", spec := "fieldSums", apart := false }
def FieldSumsSaid : Prop := fieldSumsRow.holds Try.pinned (OpenSpec.ofChange fieldSumsSpec)

/-- ITS FALSE NEIGHBOUR: 'it returns false'. Refute it at one input. -/
def fieldSumsWrong : ChangeSpec := { name := "fieldSums", fn := fun _ => fun
  | [d1, d2] => { results := [.lit (.bool false)], args := [d1, d2] }
  | _ => none }
def FieldSumsWrongFalsely : Prop := fieldSumsRow.holds Try.pinned (OpenSpec.ofChange fieldSumsWrong)

/-- 'farhaillaw.StreamBits': WHATEVER THE INPUT: true; the input reads as it did. -/
def streamBitsSpec : ChangeSpec := { name := "streamBits", fn := fun _ => fun
  | [d1, d2] => { results := [.lit (.bool true)], args := [d1, d2] }
  | _ => none }
def streamBitsRow : OpenClaim := { program := "ytgfkpolklianeaa", sum := "cd587dc7ed3ea83b67069856bed702c317eb31cf651ba6c4c5042731632db814", func := "farhail/farhaillaw.StreamBits", spec := "streamBits", unfollowed := true, recurses := true, apart := false }
def StreamBitsSaid : Prop := streamBitsRow.holds Try.pinned (OpenSpec.ofChange streamBitsSpec)

/-- ITS FALSE NEIGHBOUR: 'it returns false'. Refute it at one input. -/
def streamBitsWrong : ChangeSpec := { name := "streamBits", fn := fun _ => fun
  | [d1, d2] => { results := [.lit (.bool false)], args := [d1, d2] }
  | _ => none }
def StreamBitsWrongFalsely : Prop := streamBitsRow.holds Try.pinned (OpenSpec.ofChange streamBitsWrong)

/-- 'farhaillaw.KeysBlocks': WHATEVER THE INPUT: true; the input reads as it did. -/
def keysBlocksSpec : ChangeSpec := { name := "keysBlocks", fn := fun _ => fun
  | [d1, d2, d3] => { results := [.lit (.bool true)], args := [d1, d2, d3] }
  | _ => none }
def keysBlocksRow : OpenClaim := { program := "ytgfkpolklianeaa", sum := "cd587dc7ed3ea83b67069856bed702c317eb31cf651ba6c4c5042731632db814", func := "farhail/farhaillaw.KeysBlocks", spec := "keysBlocks", unfollowed := true, recurses := true, apart := false }
def KeysBlocksSaid : Prop := keysBlocksRow.holds Try.pinned (OpenSpec.ofChange keysBlocksSpec)

/-- ITS FALSE NEIGHBOUR: 'it returns false'. Refute it at one input. -/
def keysBlocksWrong : ChangeSpec := { name := "keysBlocks", fn := fun _ => fun
  | [d1, d2, d3] => { results := [.lit (.bool false)], args := [d1, d2, d3] }
  | _ => none }
def KeysBlocksWrongFalsely : Prop := keysBlocksRow.holds Try.pinned (OpenSpec.ofChange keysBlocksWrong)

/-- 'farhaillaw.CommandAsks': WHATEVER THE INPUT: true; the input reads as it did. -/
def commandAsksSpec : ChangeSpec := { name := "commandAsks", fn := fun _ => fun
  | [d1, d2] => { results := [.lit (.bool true)], args := [d1, d2] }
  | _ => none }
def commandAsksRow : OpenClaim := { program := "ytgfkpolklianeaa", sum := "cd587dc7ed3ea83b67069856bed702c317eb31cf651ba6c4c5042731632db814", func := "farhail/farhaillaw.CommandAsks", spec := "commandAsks", unfollowed := true, recurses := true, apart := false }
def CommandAsksSaid : Prop := commandAsksRow.holds Try.pinned (OpenSpec.ofChange commandAsksSpec)

/-- ITS FALSE NEIGHBOUR: 'it returns false'. Refute it at one input. -/
def commandAsksWrong : ChangeSpec := { name := "commandAsks", fn := fun _ => fun
  | [d1, d2] => { results := [.lit (.bool false)], args := [d1, d2] }
  | _ => none }
def CommandAsksWrongFalsely : Prop := commandAsksRow.holds Try.pinned (OpenSpec.ofChange commandAsksWrong)

/-- 'farhaillaw.CommandAccepts': WHATEVER THE INPUT: true; the input reads as it did. -/
def commandAcceptsSpec : ChangeSpec := { name := "commandAccepts", fn := fun _ => fun
  | [d1, d2, d3] => { results := [.lit (.bool true)], args := [d1, d2, d3] }
  | _ => none }
def commandAcceptsRow : OpenClaim := { program := "ytgfkpolklianeaa", sum := "cd587dc7ed3ea83b67069856bed702c317eb31cf651ba6c4c5042731632db814", func := "farhail/farhaillaw.CommandAccepts", spec := "commandAccepts", apart := false }
def CommandAcceptsSaid : Prop := commandAcceptsRow.holds Try.pinned (OpenSpec.ofChange commandAcceptsSpec)

/-- ITS FALSE NEIGHBOUR: 'it returns false'. Refute it at one input. -/
def commandAcceptsWrong : ChangeSpec := { name := "commandAccepts", fn := fun _ => fun
  | [d1, d2, d3] => { results := [.lit (.bool false)], args := [d1, d2, d3] }
  | _ => none }
def CommandAcceptsWrongFalsely : Prop := commandAcceptsRow.holds Try.pinned (OpenSpec.ofChange commandAcceptsWrong)

/- THE SECOND FORM. 'bulk': how many values and letters a reading holds, each counted each time it is reached (what is shared counts as often as it is met; a slice's spare places count too). A statement '..UptoSaid' is the law's where the arguments, and the package variables that the reading takes, are together of bulk at most 1048576: NARROWER than '..Said'. Prove '..Said' where nothing that the law and all that it calls make is longer than what came in: it says more and counts as full. Else prove '..UptoSaid'. A law counts once. -/
mutual
def uptoBulk {H : Type} : DataW H → Nat
  | .lit (.string bytes) => bytes.length + 1
  | .lit _ => 1
  | .nil => 1
  | .ptr d => uptoBulk d + 1
  | .slice elems spare => uptoBulkAll elems + uptoBulkAll spare + 1
  | .agg parts => uptoBulkAll parts + 1
  | .iface _ d => uptoBulk d + 1
  | .map entries => uptoBulkEntries entries + 1
  | .held _ => 1
def uptoBulkAll {H : Type} : List (DataW H) → Nat
  | [] => 0
  | d :: r => uptoBulk d + uptoBulkAll r
def uptoBulkEntries {H : Type} : List (Lit × DataW H) → Nat
  | [] => 0
  | x :: r => uptoBulkEntry x + uptoBulkEntries r
def uptoBulkEntry {H : Type} : Lit × DataW H → Nat
  | (.string bytes, d) => bytes.length + uptoBulk d + 1
  | (_, d) => uptoBulk d + 1
 end
def uptoSmall : (H : Type) → List (DataW H) → Bool := fun _ ds => decide (uptoBulkAll ds ≤ 1048576)
def OpenSpec.upto (s : _root_.Go.ChangeSpec) : _root_.Go.OpenSpec := { _root_.Go.OpenSpec.ofChange s with cond := some uptoSmall }

/-- 'farhaillaw.CommandReadies', WHERE WHAT IT READS IS OF BULK AT MOST 1048576: true; the input reads as it did. -/
def commandReadiesUptoRow : OpenClaim := { program := "ytgfkpolklianeaa", sum := "cd587dc7ed3ea83b67069856bed702c317eb31cf651ba6c4c5042731632db814", func := "farhail/farhaillaw.CommandReadies", spec := "commandReadies", apart := false, narrowed := true }
def CommandReadiesUptoSaid : Prop := commandReadiesUptoRow.holds Try.pinned (OpenSpec.upto commandReadiesSpec)

/-- 'farhaillaw.MemoryVotes', WHERE WHAT IT READS IS OF BULK AT MOST 1048576: true; the input reads as it did. -/
def memoryVotesUptoRow : OpenClaim := { program := "ytgfkpolklianeaa", sum := "cd587dc7ed3ea83b67069856bed702c317eb31cf651ba6c4c5042731632db814", func := "farhail/farhaillaw.MemoryVotes", spec := "memoryVotes", apart := false, narrowed := true }
def MemoryVotesUptoSaid : Prop := memoryVotesUptoRow.holds Try.pinned (OpenSpec.upto memoryVotesSpec)

/-- 'farhaillaw.DeliverOffers', WHERE WHAT IT READS IS OF BULK AT MOST 1048576: true; the input reads as it did. -/
def deliverOffersUptoRow : OpenClaim := { program := "ytgfkpolklianeaa", sum := "cd587dc7ed3ea83b67069856bed702c317eb31cf651ba6c4c5042731632db814", func := "farhail/farhaillaw.DeliverOffers", spec := "deliverOffers", apart := false, narrowed := true }
def DeliverOffersUptoSaid : Prop := deliverOffersUptoRow.holds Try.pinned (OpenSpec.upto deliverOffersSpec)

/-- 'farhaillaw.CommandGates', WHERE WHAT IT READS IS OF BULK AT MOST 1048576: true; the input reads as it did. -/
def commandGatesUptoRow : OpenClaim := { program := "ytgfkpolklianeaa", sum := "cd587dc7ed3ea83b67069856bed702c317eb31cf651ba6c4c5042731632db814", func := "farhail/farhaillaw.CommandGates", spec := "commandGates", apart := false, narrowed := true }
def CommandGatesUptoSaid : Prop := commandGatesUptoRow.holds Try.pinned (OpenSpec.upto commandGatesSpec)

/-- 'farhaillaw.StreamFrames', WHERE WHAT IT READS IS OF BULK AT MOST 1048576: true; the input reads as it did. -/
def streamFramesUptoRow : OpenClaim := { program := "ytgfkpolklianeaa", sum := "cd587dc7ed3ea83b67069856bed702c317eb31cf651ba6c4c5042731632db814", func := "farhail/farhaillaw.StreamFrames", spec := "streamFrames", apart := false, narrowed := true }
def StreamFramesUptoSaid : Prop := streamFramesUptoRow.holds Try.pinned (OpenSpec.upto streamFramesSpec)

/-- 'farhaillaw.CommandEncodes', WHERE WHAT IT READS IS OF BULK AT MOST 1048576: true; the input reads as it did. -/
def commandEncodesUptoRow : OpenClaim := { program := "ytgfkpolklianeaa", sum := "cd587dc7ed3ea83b67069856bed702c317eb31cf651ba6c4c5042731632db814", func := "farhail/farhaillaw.CommandEncodes", spec := "commandEncodes", apart := false, narrowed := true }
def CommandEncodesUptoSaid : Prop := commandEncodesUptoRow.holds Try.pinned (OpenSpec.upto commandEncodesSpec)

/-- 'farhaillaw.CommandDecodes', WHERE WHAT IT READS IS OF BULK AT MOST 1048576: true; the input reads as it did. -/
def commandDecodesUptoRow : OpenClaim := { program := "ytgfkpolklianeaa", sum := "cd587dc7ed3ea83b67069856bed702c317eb31cf651ba6c4c5042731632db814", func := "farhail/farhaillaw.CommandDecodes", spec := "commandDecodes", apart := false, narrowed := true }
def CommandDecodesUptoSaid : Prop := commandDecodesUptoRow.holds Try.pinned (OpenSpec.upto commandDecodesSpec)

/-- 'farhaillaw.FieldNumbers', WHERE WHAT IT READS IS OF BULK AT MOST 1048576: true; the input reads as it did. -/
def fieldNumbersUptoRow : OpenClaim := { program := "ytgfkpolklianeaa", sum := "cd587dc7ed3ea83b67069856bed702c317eb31cf651ba6c4c5042731632db814", func := "farhail/farhaillaw.FieldNumbers", spec := "fieldNumbers", apart := false, narrowed := true }
def FieldNumbersUptoSaid : Prop := fieldNumbersUptoRow.holds Try.pinned (OpenSpec.upto fieldNumbersSpec)

/-- 'farhaillaw.GuardChecks', WHERE WHAT IT READS IS OF BULK AT MOST 1048576: true; the input reads as it did. -/
def guardChecksUptoRow : OpenClaim := { program := "ytgfkpolklianeaa", sum := "cd587dc7ed3ea83b67069856bed702c317eb31cf651ba6c4c5042731632db814", func := "farhail/farhaillaw.GuardChecks", spec := "guardChecks", apart := false, narrowed := true }
def GuardChecksUptoSaid : Prop := guardChecksUptoRow.holds Try.pinned (OpenSpec.upto guardChecksSpec)

/-- 'farhaillaw.FieldSums', WHERE WHAT IT READS IS OF BULK AT MOST 1048576: true; the input reads as it did. -/
def fieldSumsUptoRow : OpenClaim := { program := "ytgfkpolklianeaa", sum := "cd587dc7ed3ea83b67069856bed702c317eb31cf651ba6c4c5042731632db814", func := "farhail/farhaillaw.FieldSums", spec := "fieldSums", apart := false, narrowed := true }
def FieldSumsUptoSaid : Prop := fieldSumsUptoRow.holds Try.pinned (OpenSpec.upto fieldSumsSpec)

/-- 'farhaillaw.StreamBits', WHERE WHAT IT READS IS OF BULK AT MOST 1048576: true; the input reads as it did. -/
def streamBitsUptoRow : OpenClaim := { program := "ytgfkpolklianeaa", sum := "cd587dc7ed3ea83b67069856bed702c317eb31cf651ba6c4c5042731632db814", func := "farhail/farhaillaw.StreamBits", spec := "streamBits", unfollowed := true, recurses := true, apart := false, narrowed := true }
def StreamBitsUptoSaid : Prop := streamBitsUptoRow.holds Try.pinned (OpenSpec.upto streamBitsSpec)

/-- 'farhaillaw.KeysBlocks', WHERE WHAT IT READS IS OF BULK AT MOST 1048576: true; the input reads as it did. -/
def keysBlocksUptoRow : OpenClaim := { program := "ytgfkpolklianeaa", sum := "cd587dc7ed3ea83b67069856bed702c317eb31cf651ba6c4c5042731632db814", func := "farhail/farhaillaw.KeysBlocks", spec := "keysBlocks", unfollowed := true, recurses := true, apart := false, narrowed := true }
def KeysBlocksUptoSaid : Prop := keysBlocksUptoRow.holds Try.pinned (OpenSpec.upto keysBlocksSpec)

/-- 'farhaillaw.CommandAsks', WHERE WHAT IT READS IS OF BULK AT MOST 1048576: true; the input reads as it did. -/
def commandAsksUptoRow : OpenClaim := { program := "ytgfkpolklianeaa", sum := "cd587dc7ed3ea83b67069856bed702c317eb31cf651ba6c4c5042731632db814", func := "farhail/farhaillaw.CommandAsks", spec := "commandAsks", unfollowed := true, recurses := true, apart := false, narrowed := true }
def CommandAsksUptoSaid : Prop := commandAsksUptoRow.holds Try.pinned (OpenSpec.upto commandAsksSpec)

/-- 'farhaillaw.CommandAccepts', WHERE WHAT IT READS IS OF BULK AT MOST 1048576: true; the input reads as it did. -/
def commandAcceptsUptoRow : OpenClaim := { program := "ytgfkpolklianeaa", sum := "cd587dc7ed3ea83b67069856bed702c317eb31cf651ba6c4c5042731632db814", func := "farhail/farhaillaw.CommandAccepts", spec := "commandAccepts", apart := false, narrowed := true }
def CommandAcceptsUptoSaid : Prop := commandAcceptsUptoRow.holds Try.pinned (OpenSpec.upto commandAcceptsSpec)

end Rows
end Go.Proofs.Ytgfkpolklianeaa
