/-
  No cell of these rows narrows 'for every input' (looked for: loops, veiled, ifaces, maps, wideKeys, modest, calm, conditions, laid).
  DERIVED. THE GIVEN ROWS OF THIS SEAT. 12 by the template 'for every input the law returns true; each argument reads behind the call as it read before'; 0 by the template 'total and deterministic' (their statements: YtclcgfngolfmlaaTotals.lean).
  GIVEN WITH THE SEED: the statements are not yours to turn. If you find one false, say at which input.
  Laid BY PROGRAM, IN A SANDBOX (cutbox-rows.mjs): the forced cells as the released guide's own fill.sh prints them over the translation 0c46d5145656c6cb… (all of the seat's roots in one cut). By AI agents, Wed Nov 11 2026. No macro, syntax, notation, axiom, sorry.
-/
import Derived.Test.YtclcgfngolfmlaaChecked
import GoSem.Claim
import GoSem.ClaimJoined
import GoSem.ClaimMapViews
import Derived.JoinedTies
import Derived.KernelRfl
namespace Go.Proofs.Ytclcgfngolfmlaa
/- THE CELL 'sum', in the pinned program and in every row, IS THE sha256 OF THE DUMP (.gsa) THAT YtclcgfngolfmlaaProg.lean LOADS. Nothing in Lean hashes anything: it is a label: what it is worth is what the hold of that sum in a sandbox is worth. -/
noncomputable def Try.pinned : Pinned := { name := "ytclcgfngolfmlaa", sum := "0c46d5145656c6cbcaff0b0170e6aa4c2fef9d9e9cbef5a376ef8707f927e259", checked := Try.checked }
namespace Rows
def none {H : Type} : Left H := { results := [], args := [] }

/-- 'farhaillaw.PacketCuts': WHATEVER THE INPUT: true; the input reads as it did. -/
def packetCutsSpec : ChangeSpec := { name := "packetCuts", fn := fun _ => fun
  | [d1, d2, d3, d4, d5] => { results := [.lit (.bool true)], args := [d1, d2, d3, d4, d5] }
  | _ => none }
def packetCutsRow : OpenClaim := { program := "ytclcgfngolfmlaa", sum := "0c46d5145656c6cbcaff0b0170e6aa4c2fef9d9e9cbef5a376ef8707f927e259", func := "farhail/farhaillaw.PacketCuts", spec := "packetCuts", unfollowed := true, recurses := true, apart := false }
def PacketCutsSaid : Prop := packetCutsRow.holds Try.pinned (OpenSpec.ofChange packetCutsSpec)

/-- ITS FALSE NEIGHBOUR: 'it returns false'. Refute it at one input. -/
def packetCutsWrong : ChangeSpec := { name := "packetCuts", fn := fun _ => fun
  | [d1, d2, d3, d4, d5] => { results := [.lit (.bool false)], args := [d1, d2, d3, d4, d5] }
  | _ => none }
def PacketCutsWrongFalsely : Prop := packetCutsRow.holds Try.pinned (OpenSpec.ofChange packetCutsWrong)

/-- 'farhaillaw.StreamBits': WHATEVER THE INPUT: true; the input reads as it did. -/
def streamBitsSpec : ChangeSpec := { name := "streamBits", fn := fun _ => fun
  | [d1, d2] => { results := [.lit (.bool true)], args := [d1, d2] }
  | _ => none }
def streamBitsRow : OpenClaim := { program := "ytclcgfngolfmlaa", sum := "0c46d5145656c6cbcaff0b0170e6aa4c2fef9d9e9cbef5a376ef8707f927e259", func := "farhail/farhaillaw.StreamBits", spec := "streamBits", unfollowed := true, recurses := true, apart := false }
def StreamBitsSaid : Prop := streamBitsRow.holds Try.pinned (OpenSpec.ofChange streamBitsSpec)

/-- ITS FALSE NEIGHBOUR: 'it returns false'. Refute it at one input. -/
def streamBitsWrong : ChangeSpec := { name := "streamBits", fn := fun _ => fun
  | [d1, d2] => { results := [.lit (.bool false)], args := [d1, d2] }
  | _ => none }
def StreamBitsWrongFalsely : Prop := streamBitsRow.holds Try.pinned (OpenSpec.ofChange streamBitsWrong)

/-- 'farhaillaw.GuardChecks': WHATEVER THE INPUT: true; the input reads as it did. -/
def guardChecksSpec : ChangeSpec := { name := "guardChecks", fn := fun _ => fun
  | [d] => { results := [.lit (.bool true)], args := [d] }
  | _ => none }
def guardChecksRow : OpenClaim := { program := "ytclcgfngolfmlaa", sum := "0c46d5145656c6cbcaff0b0170e6aa4c2fef9d9e9cbef5a376ef8707f927e259", func := "farhail/farhaillaw.GuardChecks", spec := "guardChecks", apart := false }
def GuardChecksSaid : Prop := guardChecksRow.holds Try.pinned (OpenSpec.ofChange guardChecksSpec)

/-- ITS FALSE NEIGHBOUR: 'it returns false'. Refute it at one input. -/
def guardChecksWrong : ChangeSpec := { name := "guardChecks", fn := fun _ => fun
  | [d] => { results := [.lit (.bool false)], args := [d] }
  | _ => none }
def GuardChecksWrongFalsely : Prop := guardChecksRow.holds Try.pinned (OpenSpec.ofChange guardChecksWrong)

/-- 'farhaillaw.CommandAsks': WHATEVER THE INPUT: true; the input reads as it did. -/
def commandAsksSpec : ChangeSpec := { name := "commandAsks", fn := fun _ => fun
  | [d1, d2] => { results := [.lit (.bool true)], args := [d1, d2] }
  | _ => none }
def commandAsksRow : OpenClaim := { program := "ytclcgfngolfmlaa", sum := "0c46d5145656c6cbcaff0b0170e6aa4c2fef9d9e9cbef5a376ef8707f927e259", func := "farhail/farhaillaw.CommandAsks", spec := "commandAsks", unfollowed := true, recurses := true, apart := false }
def CommandAsksSaid : Prop := commandAsksRow.holds Try.pinned (OpenSpec.ofChange commandAsksSpec)

/-- ITS FALSE NEIGHBOUR: 'it returns false'. Refute it at one input. -/
def commandAsksWrong : ChangeSpec := { name := "commandAsks", fn := fun _ => fun
  | [d1, d2] => { results := [.lit (.bool false)], args := [d1, d2] }
  | _ => none }
def CommandAsksWrongFalsely : Prop := commandAsksRow.holds Try.pinned (OpenSpec.ofChange commandAsksWrong)

/-- 'farhaillaw.FieldThrough': WHATEVER THE INPUT: true; the input reads as it did. -/
def fieldThroughSpec : ChangeSpec := { name := "fieldThrough", fn := fun _ => fun
  | [d1, d2] => { results := [.lit (.bool true)], args := [d1, d2] }
  | _ => none }
def fieldThroughRow : OpenClaim := { program := "ytclcgfngolfmlaa", sum := "0c46d5145656c6cbcaff0b0170e6aa4c2fef9d9e9cbef5a376ef8707f927e259", func := "farhail/farhaillaw.FieldThrough", spec := "fieldThrough", unfollowed := true, recurses := true, apart := false }
def FieldThroughSaid : Prop := fieldThroughRow.holds Try.pinned (OpenSpec.ofChange fieldThroughSpec)

/-- ITS FALSE NEIGHBOUR: 'it returns false'. Refute it at one input. -/
def fieldThroughWrong : ChangeSpec := { name := "fieldThrough", fn := fun _ => fun
  | [d1, d2] => { results := [.lit (.bool false)], args := [d1, d2] }
  | _ => none }
def FieldThroughWrongFalsely : Prop := fieldThroughRow.holds Try.pinned (OpenSpec.ofChange fieldThroughWrong)

/-- 'farhaillaw.KeysTags': WHATEVER THE INPUT: true; the input reads as it did. -/
def keysTagsSpec : ChangeSpec := { name := "keysTags", fn := fun _ => fun
  | [d1, d2, d3] => { results := [.lit (.bool true)], args := [d1, d2, d3] }
  | _ => none }
def keysTagsRow : OpenClaim := { program := "ytclcgfngolfmlaa", sum := "0c46d5145656c6cbcaff0b0170e6aa4c2fef9d9e9cbef5a376ef8707f927e259", func := "farhail/farhaillaw.KeysTags", spec := "keysTags", unfollowed := true, recurses := true, named := ["math/bits.divideError", "math/bits.overflowError"], apart := false }
def KeysTagsSaid : Prop := keysTagsRow.holds Try.pinned (OpenSpec.ofChange keysTagsSpec)

/-- ITS FALSE NEIGHBOUR: 'it returns false'. Refute it at one input. -/
def keysTagsWrong : ChangeSpec := { name := "keysTags", fn := fun _ => fun
  | [d1, d2, d3] => { results := [.lit (.bool false)], args := [d1, d2, d3] }
  | _ => none }
def KeysTagsWrongFalsely : Prop := keysTagsRow.holds Try.pinned (OpenSpec.ofChange keysTagsWrong)

/-- 'farhaillaw.KeysSeals': WHATEVER THE INPUT: true; the input reads as it did. -/
def keysSealsSpec : ChangeSpec := { name := "keysSeals", fn := fun _ => fun
  | [d1, d2, d3] => { results := [.lit (.bool true)], args := [d1, d2, d3] }
  | _ => none }
def keysSealsRow : OpenClaim := { program := "ytclcgfngolfmlaa", sum := "0c46d5145656c6cbcaff0b0170e6aa4c2fef9d9e9cbef5a376ef8707f927e259", func := "farhail/farhaillaw.KeysSeals", spec := "keysSeals", unfollowed := true, recurses := true, named := ["math/bits.divideError", "math/bits.overflowError"], apart := false }
def KeysSealsSaid : Prop := keysSealsRow.holds Try.pinned (OpenSpec.ofChange keysSealsSpec)

/-- ITS FALSE NEIGHBOUR: 'it returns false'. Refute it at one input. -/
def keysSealsWrong : ChangeSpec := { name := "keysSeals", fn := fun _ => fun
  | [d1, d2, d3] => { results := [.lit (.bool false)], args := [d1, d2, d3] }
  | _ => none }
def KeysSealsWrongFalsely : Prop := keysSealsRow.holds Try.pinned (OpenSpec.ofChange keysSealsWrong)

/-- 'farhaillaw.KeysOpens': WHATEVER THE INPUT: true; the input reads as it did. -/
def keysOpensSpec : ChangeSpec := { name := "keysOpens", fn := fun _ => fun
  | [d1, d2] => { results := [.lit (.bool true)], args := [d1, d2] }
  | _ => none }
def keysOpensRow : OpenClaim := { program := "ytclcgfngolfmlaa", sum := "0c46d5145656c6cbcaff0b0170e6aa4c2fef9d9e9cbef5a376ef8707f927e259", func := "farhail/farhaillaw.KeysOpens", spec := "keysOpens", unfollowed := true, recurses := true, named := ["math/bits.divideError", "math/bits.overflowError"], apart := false }
def KeysOpensSaid : Prop := keysOpensRow.holds Try.pinned (OpenSpec.ofChange keysOpensSpec)

/-- ITS FALSE NEIGHBOUR: 'it returns false'. Refute it at one input. -/
def keysOpensWrong : ChangeSpec := { name := "keysOpens", fn := fun _ => fun
  | [d1, d2] => { results := [.lit (.bool false)], args := [d1, d2] }
  | _ => none }
def KeysOpensWrongFalsely : Prop := keysOpensRow.holds Try.pinned (OpenSpec.ofChange keysOpensWrong)

/-- 'farhaillaw.FramePuts': WHATEVER THE INPUT: true; the input reads as it did. -/
def framePutsSpec : ChangeSpec := { name := "framePuts", fn := fun _ => fun
  | [d1, d2, d3] => { results := [.lit (.bool true)], args := [d1, d2, d3] }
  | _ => none }
def framePutsRow : OpenClaim := { program := "ytclcgfngolfmlaa", sum := "0c46d5145656c6cbcaff0b0170e6aa4c2fef9d9e9cbef5a376ef8707f927e259", func := "farhail/farhaillaw.FramePuts", spec := "framePuts", unfollowed := true, recurses := true, apart := false }
def FramePutsSaid : Prop := framePutsRow.holds Try.pinned (OpenSpec.ofChange framePutsSpec)

/-- ITS FALSE NEIGHBOUR: 'it returns false'. Refute it at one input. -/
def framePutsWrong : ChangeSpec := { name := "framePuts", fn := fun _ => fun
  | [d1, d2, d3] => { results := [.lit (.bool false)], args := [d1, d2, d3] }
  | _ => none }
def FramePutsWrongFalsely : Prop := framePutsRow.holds Try.pinned (OpenSpec.ofChange framePutsWrong)

/-- 'farhaillaw.CommandFrees': WHATEVER THE INPUT: true; the input reads as it did. -/
def commandFreesSpec : ChangeSpec := { name := "commandFrees", fn := fun _ => fun
  | [d] => { results := [.lit (.bool true)], args := [d] }
  | _ => none }
def commandFreesRow : OpenClaim := { program := "ytclcgfngolfmlaa", sum := "0c46d5145656c6cbcaff0b0170e6aa4c2fef9d9e9cbef5a376ef8707f927e259", func := "farhail/farhaillaw.CommandFrees", spec := "commandFrees", unfollowed := true, recurses := true, apart := false }
def CommandFreesSaid : Prop := commandFreesRow.holds Try.pinned (OpenSpec.ofChange commandFreesSpec)

/-- ITS FALSE NEIGHBOUR: 'it returns false'. Refute it at one input. -/
def commandFreesWrong : ChangeSpec := { name := "commandFrees", fn := fun _ => fun
  | [d] => { results := [.lit (.bool false)], args := [d] }
  | _ => none }
def CommandFreesWrongFalsely : Prop := commandFreesRow.holds Try.pinned (OpenSpec.ofChange commandFreesWrong)

/-- 'farhaillaw.SolomonDecodes': WHATEVER THE INPUT: true; the input reads as it did. -/
def solomonDecodesSpec : ChangeSpec := { name := "solomonDecodes", fn := fun _ => fun
  | [d1, d2, d3] => { results := [.lit (.bool true)], args := [d1, d2, d3] }
  | _ => none }
def solomonDecodesRow : OpenClaim := { program := "ytclcgfngolfmlaa", sum := "0c46d5145656c6cbcaff0b0170e6aa4c2fef9d9e9cbef5a376ef8707f927e259", func := "farhail/farhaillaw.SolomonDecodes", spec := "solomonDecodes", unfollowed := true, recurses := true, apart := false }
def SolomonDecodesSaid : Prop := solomonDecodesRow.holds Try.pinned (OpenSpec.ofChange solomonDecodesSpec)

/-- ITS FALSE NEIGHBOUR: 'it returns false'. Refute it at one input. -/
def solomonDecodesWrong : ChangeSpec := { name := "solomonDecodes", fn := fun _ => fun
  | [d1, d2, d3] => { results := [.lit (.bool false)], args := [d1, d2, d3] }
  | _ => none }
def SolomonDecodesWrongFalsely : Prop := solomonDecodesRow.holds Try.pinned (OpenSpec.ofChange solomonDecodesWrong)

/-- 'farhaillaw.ConvolGathers': WHATEVER THE INPUT: true; the input reads as it did. -/
def convolGathersSpec : ChangeSpec := { name := "convolGathers", fn := fun _ => fun
  | [d1, d2, d3] => { results := [.lit (.bool true)], args := [d1, d2, d3] }
  | _ => none }
def convolGathersRow : OpenClaim := { program := "ytclcgfngolfmlaa", sum := "0c46d5145656c6cbcaff0b0170e6aa4c2fef9d9e9cbef5a376ef8707f927e259", func := "farhail/farhaillaw.ConvolGathers", spec := "convolGathers", unfollowed := true, recurses := true, apart := false }
def ConvolGathersSaid : Prop := convolGathersRow.holds Try.pinned (OpenSpec.ofChange convolGathersSpec)

/-- ITS FALSE NEIGHBOUR: 'it returns false'. Refute it at one input. -/
def convolGathersWrong : ChangeSpec := { name := "convolGathers", fn := fun _ => fun
  | [d1, d2, d3] => { results := [.lit (.bool false)], args := [d1, d2, d3] }
  | _ => none }
def ConvolGathersWrongFalsely : Prop := convolGathersRow.holds Try.pinned (OpenSpec.ofChange convolGathersWrong)

/- THE SECOND FORM. 'bulk': how many values and letters a reading holds, each counted each time it is reached (what is shared counts as often as it is met; a slice's spare places count too). A statement '..UptoSaid' is the law's where the arguments, and the package variables that the reading takes, are together of bulk at most 1048576: NARROWER than '..Said'. Prove '..Said' where nothing that the law and all that it calls make is longer than what came in: it says more and counts as full. Else prove '..UptoSaid'. A law counts once. -/
mutual
def uptoBulk {H : Type} : DataW H → Nat
  | .lit (.string bytes) => bytes.length + 1
  | .lit _ => 1
  | .nil => 1
  | .ptr d => uptoBulk d + 1
  | .slice elems spare => uptoBulkAll elems + uptoBulkAll spare + 1
  | .agg parts => uptoBulkAll parts + 1
  | .iface _ d => uptoBulk d + 1
  | .map entries => uptoBulkEntries entries + 1
  | .held _ => 1
def uptoBulkAll {H : Type} : List (DataW H) → Nat
  | [] => 0
  | d :: r => uptoBulk d + uptoBulkAll r
def uptoBulkEntries {H : Type} : List (Lit × DataW H) → Nat
  | [] => 0
  | x :: r => uptoBulkEntry x + uptoBulkEntries r
def uptoBulkEntry {H : Type} : Lit × DataW H → Nat
  | (.string bytes, d) => bytes.length + uptoBulk d + 1
  | (_, d) => uptoBulk d + 1
 end
def uptoSmall : (H : Type) → List (DataW H) → Bool := fun _ ds => decide (uptoBulkAll ds ≤ 1048576)
def OpenSpec.upto (s : _root_.Go.ChangeSpec) : _root_.Go.OpenSpec := { _root_.Go.OpenSpec.ofChange s with cond := some uptoSmall }

/-- 'farhaillaw.PacketCuts', WHERE WHAT IT READS IS OF BULK AT MOST 1048576: true; the input reads as it did. -/
def packetCutsUptoRow : OpenClaim := { program := "ytclcgfngolfmlaa", sum := "0c46d5145656c6cbcaff0b0170e6aa4c2fef9d9e9cbef5a376ef8707f927e259", func := "farhail/farhaillaw.PacketCuts", spec := "packetCuts", unfollowed := true, recurses := true, apart := false, narrowed := true }
def PacketCutsUptoSaid : Prop := packetCutsUptoRow.holds Try.pinned (OpenSpec.upto packetCutsSpec)

/-- 'farhaillaw.StreamBits', WHERE WHAT IT READS IS OF BULK AT MOST 1048576: true; the input reads as it did. -/
def streamBitsUptoRow : OpenClaim := { program := "ytclcgfngolfmlaa", sum := "0c46d5145656c6cbcaff0b0170e6aa4c2fef9d9e9cbef5a376ef8707f927e259", func := "farhail/farhaillaw.StreamBits", spec := "streamBits", unfollowed := true, recurses := true, apart := false, narrowed := true }
def StreamBitsUptoSaid : Prop := streamBitsUptoRow.holds Try.pinned (OpenSpec.upto streamBitsSpec)

/-- 'farhaillaw.GuardChecks', WHERE WHAT IT READS IS OF BULK AT MOST 1048576: true; the input reads as it did. -/
def guardChecksUptoRow : OpenClaim := { program := "ytclcgfngolfmlaa", sum := "0c46d5145656c6cbcaff0b0170e6aa4c2fef9d9e9cbef5a376ef8707f927e259", func := "farhail/farhaillaw.GuardChecks", spec := "guardChecks", apart := false, narrowed := true }
def GuardChecksUptoSaid : Prop := guardChecksUptoRow.holds Try.pinned (OpenSpec.upto guardChecksSpec)

/-- 'farhaillaw.CommandAsks', WHERE WHAT IT READS IS OF BULK AT MOST 1048576: true; the input reads as it did. -/
def commandAsksUptoRow : OpenClaim := { program := "ytclcgfngolfmlaa", sum := "0c46d5145656c6cbcaff0b0170e6aa4c2fef9d9e9cbef5a376ef8707f927e259", func := "farhail/farhaillaw.CommandAsks", spec := "commandAsks", unfollowed := true, recurses := true, apart := false, narrowed := true }
def CommandAsksUptoSaid : Prop := commandAsksUptoRow.holds Try.pinned (OpenSpec.upto commandAsksSpec)

/-- 'farhaillaw.FieldThrough', WHERE WHAT IT READS IS OF BULK AT MOST 1048576: true; the input reads as it did. -/
def fieldThroughUptoRow : OpenClaim := { program := "ytclcgfngolfmlaa", sum := "0c46d5145656c6cbcaff0b0170e6aa4c2fef9d9e9cbef5a376ef8707f927e259", func := "farhail/farhaillaw.FieldThrough", spec := "fieldThrough", unfollowed := true, recurses := true, apart := false, narrowed := true }
def FieldThroughUptoSaid : Prop := fieldThroughUptoRow.holds Try.pinned (OpenSpec.upto fieldThroughSpec)

/-- 'farhaillaw.KeysTags', WHERE WHAT IT READS IS OF BULK AT MOST 1048576: true; the input reads as it did. -/
def keysTagsUptoRow : OpenClaim := { program := "ytclcgfngolfmlaa", sum := "0c46d5145656c6cbcaff0b0170e6aa4c2fef9d9e9cbef5a376ef8707f927e259", func := "farhail/farhaillaw.KeysTags", spec := "keysTags", unfollowed := true, recurses := true, named := ["math/bits.divideError", "math/bits.overflowError"], apart := false, narrowed := true }
def KeysTagsUptoSaid : Prop := keysTagsUptoRow.holds Try.pinned (OpenSpec.upto keysTagsSpec)

/-- 'farhaillaw.KeysSeals', WHERE WHAT IT READS IS OF BULK AT MOST 1048576: true; the input reads as it did. -/
def keysSealsUptoRow : OpenClaim := { program := "ytclcgfngolfmlaa", sum := "0c46d5145656c6cbcaff0b0170e6aa4c2fef9d9e9cbef5a376ef8707f927e259", func := "farhail/farhaillaw.KeysSeals", spec := "keysSeals", unfollowed := true, recurses := true, named := ["math/bits.divideError", "math/bits.overflowError"], apart := false, narrowed := true }
def KeysSealsUptoSaid : Prop := keysSealsUptoRow.holds Try.pinned (OpenSpec.upto keysSealsSpec)

/-- 'farhaillaw.KeysOpens', WHERE WHAT IT READS IS OF BULK AT MOST 1048576: true; the input reads as it did. -/
def keysOpensUptoRow : OpenClaim := { program := "ytclcgfngolfmlaa", sum := "0c46d5145656c6cbcaff0b0170e6aa4c2fef9d9e9cbef5a376ef8707f927e259", func := "farhail/farhaillaw.KeysOpens", spec := "keysOpens", unfollowed := true, recurses := true, named := ["math/bits.divideError", "math/bits.overflowError"], apart := false, narrowed := true }
def KeysOpensUptoSaid : Prop := keysOpensUptoRow.holds Try.pinned (OpenSpec.upto keysOpensSpec)

/-- 'farhaillaw.FramePuts', WHERE WHAT IT READS IS OF BULK AT MOST 1048576: true; the input reads as it did. -/
def framePutsUptoRow : OpenClaim := { program := "ytclcgfngolfmlaa", sum := "0c46d5145656c6cbcaff0b0170e6aa4c2fef9d9e9cbef5a376ef8707f927e259", func := "farhail/farhaillaw.FramePuts", spec := "framePuts", unfollowed := true, recurses := true, apart := false, narrowed := true }
def FramePutsUptoSaid : Prop := framePutsUptoRow.holds Try.pinned (OpenSpec.upto framePutsSpec)

/-- 'farhaillaw.CommandFrees', WHERE WHAT IT READS IS OF BULK AT MOST 1048576: true; the input reads as it did. -/
def commandFreesUptoRow : OpenClaim := { program := "ytclcgfngolfmlaa", sum := "0c46d5145656c6cbcaff0b0170e6aa4c2fef9d9e9cbef5a376ef8707f927e259", func := "farhail/farhaillaw.CommandFrees", spec := "commandFrees", unfollowed := true, recurses := true, apart := false, narrowed := true }
def CommandFreesUptoSaid : Prop := commandFreesUptoRow.holds Try.pinned (OpenSpec.upto commandFreesSpec)

/-- 'farhaillaw.SolomonDecodes', WHERE WHAT IT READS IS OF BULK AT MOST 1048576: true; the input reads as it did. -/
def solomonDecodesUptoRow : OpenClaim := { program := "ytclcgfngolfmlaa", sum := "0c46d5145656c6cbcaff0b0170e6aa4c2fef9d9e9cbef5a376ef8707f927e259", func := "farhail/farhaillaw.SolomonDecodes", spec := "solomonDecodes", unfollowed := true, recurses := true, apart := false, narrowed := true }
def SolomonDecodesUptoSaid : Prop := solomonDecodesUptoRow.holds Try.pinned (OpenSpec.upto solomonDecodesSpec)

/-- 'farhaillaw.ConvolGathers', WHERE WHAT IT READS IS OF BULK AT MOST 1048576: true; the input reads as it did. -/
def convolGathersUptoRow : OpenClaim := { program := "ytclcgfngolfmlaa", sum := "0c46d5145656c6cbcaff0b0170e6aa4c2fef9d9e9cbef5a376ef8707f927e259", func := "farhail/farhaillaw.ConvolGathers", spec := "convolGathers", unfollowed := true, recurses := true, apart := false, narrowed := true }
def ConvolGathersUptoSaid : Prop := convolGathersUptoRow.holds Try.pinned (OpenSpec.upto convolGathersSpec)

end Rows
end Go.Proofs.Ytclcgfngolfmlaa
