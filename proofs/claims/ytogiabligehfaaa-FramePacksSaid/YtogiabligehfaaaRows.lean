/-
  No cell of these rows narrows 'for every input' (looked for: loops, veiled, ifaces, maps, wideKeys, modest, calm, conditions, laid).
  DERIVED. THE GIVEN ROWS OF THIS SEAT. 12 by the template 'for every input the law returns true; each argument reads behind the call as it read before'; 0 by the template 'total and deterministic' (their statements: YtogiabligehfaaaTotals.lean).
  GIVEN WITH THE SEED: the statements are not yours to turn. If you find one false, say at which input.
  Laid BY PROGRAM, IN A SANDBOX (cutbox-rows.mjs): the forced cells as the released guide's own fill.sh prints them over the translation 016a8b6c4de0e74f… (all of the seat's roots in one cut). By AI agents, Wed Nov 11 2026. No macro, syntax, notation, axiom, sorry.
-/
import Derived.Test.YtogiabligehfaaaChecked
import GoSem.Claim
import GoSem.ClaimJoined
import GoSem.ClaimMapViews
import Derived.JoinedTies
import Derived.KernelRfl
namespace Go.Proofs.Ytogiabligehfaaa
/- THE CELL 'sum', in the pinned program and in every row, IS THE sha256 OF THE DUMP (.gsa) THAT YtogiabligehfaaaProg.lean LOADS. Nothing in Lean hashes anything: it is a label: what it is worth is what the hold of that sum in a sandbox is worth. -/
noncomputable def Try.pinned : Pinned := { name := "ytogiabligehfaaa", sum := "016a8b6c4de0e74f5b4fbafb1758c373331a26bf27ab5e3421aa5e4221ddc8ca", checked := Try.checked }
namespace Rows
def none {H : Type} : Left H := { results := [], args := [] }

/-- 'farhaillaw.Names': WHATEVER THE INPUT: true; the input reads as it did. -/
def namesSpec : ChangeSpec := { name := "names", fn := fun _ => fun
  | [] => { results := [.lit (.bool true)], args := [] }
  | _ => none }
def namesRow : OpenClaim := { program := "ytogiabligehfaaa", sum := "016a8b6c4de0e74f5b4fbafb1758c373331a26bf27ab5e3421aa5e4221ddc8ca", func := "farhail/farhaillaw.Names", spec := "names", apart := false }
def NamesSaid : Prop := namesRow.holds Try.pinned (OpenSpec.ofChange namesSpec)

/-- ITS FALSE NEIGHBOUR: 'it returns false'. Refute it at one input. -/
def namesWrong : ChangeSpec := { name := "names", fn := fun _ => fun
  | [] => { results := [.lit (.bool false)], args := [] }
  | _ => none }
def NamesWrongFalsely : Prop := namesRow.holds Try.pinned (OpenSpec.ofChange namesWrong)

/-- 'farhaillaw.FrameSums': WHATEVER THE INPUT: true; the input reads as it did. -/
def frameSumsSpec : ChangeSpec := { name := "frameSums", fn := fun _ => fun
  | [d] => { results := [.lit (.bool true)], args := [d] }
  | _ => none }
def frameSumsRow : OpenClaim := { program := "ytogiabligehfaaa", sum := "016a8b6c4de0e74f5b4fbafb1758c373331a26bf27ab5e3421aa5e4221ddc8ca", func := "farhail/farhaillaw.FrameSums", spec := "frameSums", apart := false }
def FrameSumsSaid : Prop := frameSumsRow.holds Try.pinned (OpenSpec.ofChange frameSumsSpec)

/-- ITS FALSE NEIGHBOUR: 'it returns false'. Refute it at one input. -/
def frameSumsWrong : ChangeSpec := { name := "frameSums", fn := fun _ => fun
  | [d] => { results := [.lit (.bool false)], args := [d] }
  | _ => none }
def FrameSumsWrongFalsely : Prop := frameSumsRow.holds Try.pinned (OpenSpec.ofChange frameSumsWrong)

/-- 'farhaillaw.PacketDecodes': WHATEVER THE INPUT: true; the input reads as it did. -/
def packetDecodesSpec : ChangeSpec := { name := "packetDecodes", fn := fun _ => fun
  | [d] => { results := [.lit (.bool true)], args := [d] }
  | _ => none }
def packetDecodesRow : OpenClaim := { program := "ytogiabligehfaaa", sum := "016a8b6c4de0e74f5b4fbafb1758c373331a26bf27ab5e3421aa5e4221ddc8ca", func := "farhail/farhaillaw.PacketDecodes", spec := "packetDecodes", apart := false }
def PacketDecodesSaid : Prop := packetDecodesRow.holds Try.pinned (OpenSpec.ofChange packetDecodesSpec)

/-- ITS FALSE NEIGHBOUR: 'it returns false'. Refute it at one input. -/
def packetDecodesWrong : ChangeSpec := { name := "packetDecodes", fn := fun _ => fun
  | [d] => { results := [.lit (.bool false)], args := [d] }
  | _ => none }
def PacketDecodesWrongFalsely : Prop := packetDecodesRow.holds Try.pinned (OpenSpec.ofChange packetDecodesWrong)

/-- 'farhaillaw.FramePacks': WHATEVER THE INPUT: true; the input reads as it did. -/
def framePacksSpec : ChangeSpec := { name := "framePacks", fn := fun _ => fun
  | [d1, d2, d3] => { results := [.lit (.bool true)], args := [d1, d2, d3] }
  | _ => none }
def framePacksRow : OpenClaim := { program := "ytogiabligehfaaa", sum := "016a8b6c4de0e74f5b4fbafb1758c373331a26bf27ab5e3421aa5e4221ddc8ca", func := "farhail/farhaillaw.FramePacks", spec := "framePacks", unfollowed := true, recurses := true, apart := false }
def FramePacksSaid : Prop := framePacksRow.holds Try.pinned (OpenSpec.ofChange framePacksSpec)

/-- ITS FALSE NEIGHBOUR: 'it returns false'. Refute it at one input. -/
def framePacksWrong : ChangeSpec := { name := "framePacks", fn := fun _ => fun
  | [d1, d2, d3] => { results := [.lit (.bool false)], args := [d1, d2, d3] }
  | _ => none }
def FramePacksWrongFalsely : Prop := framePacksRow.holds Try.pinned (OpenSpec.ofChange framePacksWrong)

/-- 'farhaillaw.PacketCuts': WHATEVER THE INPUT: true; the input reads as it did. -/
def packetCutsSpec : ChangeSpec := { name := "packetCuts", fn := fun _ => fun
  | [d1, d2, d3, d4, d5] => { results := [.lit (.bool true)], args := [d1, d2, d3, d4, d5] }
  | _ => none }
def packetCutsRow : OpenClaim := { program := "ytogiabligehfaaa", sum := "016a8b6c4de0e74f5b4fbafb1758c373331a26bf27ab5e3421aa5e4221ddc8ca", func := "farhail/farhaillaw.PacketCuts", spec := "packetCuts", unfollowed := true, recurses := true, apart := false }
def PacketCutsSaid : Prop := packetCutsRow.holds Try.pinned (OpenSpec.ofChange packetCutsSpec)

/-- ITS FALSE NEIGHBOUR: 'it returns false'. Refute it at one input. -/
def packetCutsWrong : ChangeSpec := { name := "packetCuts", fn := fun _ => fun
  | [d1, d2, d3, d4, d5] => { results := [.lit (.bool false)], args := [d1, d2, d3, d4, d5] }
  | _ => none }
def PacketCutsWrongFalsely : Prop := packetCutsRow.holds Try.pinned (OpenSpec.ofChange packetCutsWrong)

/-- 'farhaillaw.FrameUnpacks': WHATEVER THE INPUT: true; the input reads as it did. -/
def frameUnpacksSpec : ChangeSpec := { name := "frameUnpacks", fn := fun _ => fun
  | [d] => { results := [.lit (.bool true)], args := [d] }
  | _ => none }
def frameUnpacksRow : OpenClaim := { program := "ytogiabligehfaaa", sum := "016a8b6c4de0e74f5b4fbafb1758c373331a26bf27ab5e3421aa5e4221ddc8ca", func := "farhail/farhaillaw.FrameUnpacks", spec := "frameUnpacks", apart := false }
def FrameUnpacksSaid : Prop := frameUnpacksRow.holds Try.pinned (OpenSpec.ofChange frameUnpacksSpec)

/-- ITS FALSE NEIGHBOUR: 'it returns false'. Refute it at one input. -/
def frameUnpacksWrong : ChangeSpec := { name := "frameUnpacks", fn := fun _ => fun
  | [d] => { results := [.lit (.bool false)], args := [d] }
  | _ => none }
def FrameUnpacksWrongFalsely : Prop := frameUnpacksRow.holds Try.pinned (OpenSpec.ofChange frameUnpacksWrong)

/-- 'farhaillaw.PacketEncodes': WHATEVER THE INPUT: true; the input reads as it did. -/
def packetEncodesSpec : ChangeSpec := { name := "packetEncodes", fn := fun _ => fun
  | [d1, d2] => { results := [.lit (.bool true)], args := [d1, d2] }
  | _ => none }
def packetEncodesRow : OpenClaim := { program := "ytogiabligehfaaa", sum := "016a8b6c4de0e74f5b4fbafb1758c373331a26bf27ab5e3421aa5e4221ddc8ca", func := "farhail/farhaillaw.PacketEncodes", spec := "packetEncodes", unfollowed := true, recurses := true, apart := false }
def PacketEncodesSaid : Prop := packetEncodesRow.holds Try.pinned (OpenSpec.ofChange packetEncodesSpec)

/-- ITS FALSE NEIGHBOUR: 'it returns false'. Refute it at one input. -/
def packetEncodesWrong : ChangeSpec := { name := "packetEncodes", fn := fun _ => fun
  | [d1, d2] => { results := [.lit (.bool false)], args := [d1, d2] }
  | _ => none }
def PacketEncodesWrongFalsely : Prop := packetEncodesRow.holds Try.pinned (OpenSpec.ofChange packetEncodesWrong)

/-- 'farhaillaw.FrameOpens': WHATEVER THE INPUT: true; the input reads as it did. -/
def frameOpensSpec : ChangeSpec := { name := "frameOpens", fn := fun _ => fun
  | [d1, d2] => { results := [.lit (.bool true)], args := [d1, d2] }
  | _ => none }
def frameOpensRow : OpenClaim := { program := "ytogiabligehfaaa", sum := "016a8b6c4de0e74f5b4fbafb1758c373331a26bf27ab5e3421aa5e4221ddc8ca", func := "farhail/farhaillaw.FrameOpens", spec := "frameOpens", apart := false }
def FrameOpensSaid : Prop := frameOpensRow.holds Try.pinned (OpenSpec.ofChange frameOpensSpec)

/-- ITS FALSE NEIGHBOUR: 'it returns false'. Refute it at one input. -/
def frameOpensWrong : ChangeSpec := { name := "frameOpens", fn := fun _ => fun
  | [d1, d2] => { results := [.lit (.bool false)], args := [d1, d2] }
  | _ => none }
def FrameOpensWrongFalsely : Prop := frameOpensRow.holds Try.pinned (OpenSpec.ofChange frameOpensWrong)

/-- 'farhaillaw.FramePuts': WHATEVER THE INPUT: true; the input reads as it did. -/
def framePutsSpec : ChangeSpec := { name := "framePuts", fn := fun _ => fun
  | [d1, d2, d3] => { results := [.lit (.bool true)], args := [d1, d2, d3] }
  | _ => none }
def framePutsRow : OpenClaim := { program := "ytogiabligehfaaa", sum := "016a8b6c4de0e74f5b4fbafb1758c373331a26bf27ab5e3421aa5e4221ddc8ca", func := "farhail/farhaillaw.FramePuts", spec := "framePuts", unfollowed := true, recurses := true, apart := false }
def FramePutsSaid : Prop := framePutsRow.holds Try.pinned (OpenSpec.ofChange framePutsSpec)

/-- ITS FALSE NEIGHBOUR: 'it returns false'. Refute it at one input. -/
def framePutsWrong : ChangeSpec := { name := "framePuts", fn := fun _ => fun
  | [d1, d2, d3] => { results := [.lit (.bool false)], args := [d1, d2, d3] }
  | _ => none }
def FramePutsWrongFalsely : Prop := framePutsRow.holds Try.pinned (OpenSpec.ofChange framePutsWrong)

/-- 'farhaillaw.PacketJoins': WHATEVER THE INPUT: true; the input reads as it did. -/
def packetJoinsSpec : ChangeSpec := { name := "packetJoins", fn := fun _ => fun
  | [d1, d2] => { results := [.lit (.bool true)], args := [d1, d2] }
  | _ => none }
def packetJoinsRow : OpenClaim := { program := "ytogiabligehfaaa", sum := "016a8b6c4de0e74f5b4fbafb1758c373331a26bf27ab5e3421aa5e4221ddc8ca", func := "farhail/farhaillaw.PacketJoins", spec := "packetJoins", unfollowed := true, recurses := true, apart := false }
def PacketJoinsSaid : Prop := packetJoinsRow.holds Try.pinned (OpenSpec.ofChange packetJoinsSpec)

/-- ITS FALSE NEIGHBOUR: 'it returns false'. Refute it at one input. -/
def packetJoinsWrong : ChangeSpec := { name := "packetJoins", fn := fun _ => fun
  | [d1, d2] => { results := [.lit (.bool false)], args := [d1, d2] }
  | _ => none }
def PacketJoinsWrongFalsely : Prop := packetJoinsRow.holds Try.pinned (OpenSpec.ofChange packetJoinsWrong)

/-- 'farhaillaw.FrameHears': WHATEVER THE INPUT: true; the input reads as it did. -/
def frameHearsSpec : ChangeSpec := { name := "frameHears", fn := fun _ => fun
  | [d1, d2] => { results := [.lit (.bool true)], args := [d1, d2] }
  | _ => none }
def frameHearsRow : OpenClaim := { program := "ytogiabligehfaaa", sum := "016a8b6c4de0e74f5b4fbafb1758c373331a26bf27ab5e3421aa5e4221ddc8ca", func := "farhail/farhaillaw.FrameHears", spec := "frameHears", apart := false }
def FrameHearsSaid : Prop := frameHearsRow.holds Try.pinned (OpenSpec.ofChange frameHearsSpec)

/-- ITS FALSE NEIGHBOUR: 'it returns false'. Refute it at one input. -/
def frameHearsWrong : ChangeSpec := { name := "frameHears", fn := fun _ => fun
  | [d1, d2] => { results := [.lit (.bool false)], args := [d1, d2] }
  | _ => none }
def FrameHearsWrongFalsely : Prop := frameHearsRow.holds Try.pinned (OpenSpec.ofChange frameHearsWrong)

/-- 'farhaillaw.FrameNexts': WHATEVER THE INPUT: true; the input reads as it did. -/
def frameNextsSpec : ChangeSpec := { name := "frameNexts", fn := fun _ => fun
  | [d1, d2] => { results := [.lit (.bool true)], args := [d1, d2] }
  | _ => none }
def frameNextsRow : OpenClaim := { program := "ytogiabligehfaaa", sum := "016a8b6c4de0e74f5b4fbafb1758c373331a26bf27ab5e3421aa5e4221ddc8ca", func := "farhail/farhaillaw.FrameNexts", spec := "frameNexts", unfollowed := true, recurses := true, apart := false }
def FrameNextsSaid : Prop := frameNextsRow.holds Try.pinned (OpenSpec.ofChange frameNextsSpec)

/-- ITS FALSE NEIGHBOUR: 'it returns false'. Refute it at one input. -/
def frameNextsWrong : ChangeSpec := { name := "frameNexts", fn := fun _ => fun
  | [d1, d2] => { results := [.lit (.bool false)], args := [d1, d2] }
  | _ => none }
def FrameNextsWrongFalsely : Prop := frameNextsRow.holds Try.pinned (OpenSpec.ofChange frameNextsWrong)

/- THE SECOND FORM. 'bulk': how many values and letters a reading holds, each counted each time it is reached (what is shared counts as often as it is met; a slice's spare places count too). A statement '..UptoSaid' is the law's where the arguments, and the package variables that the reading takes, are together of bulk at most 1048576: NARROWER than '..Said'. Prove '..Said' where nothing that the law and all that it calls make is longer than what came in: it says more and counts as full. Else prove '..UptoSaid'. A law counts once. -/
mutual
def uptoBulk {H : Type} : DataW H → Nat
  | .lit (.string bytes) => bytes.length + 1
  | .lit _ => 1
  | .nil => 1
  | .ptr d => uptoBulk d + 1
  | .slice elems spare => uptoBulkAll elems + uptoBulkAll spare + 1
  | .agg parts => uptoBulkAll parts + 1
  | .iface _ d => uptoBulk d + 1
  | .map entries => uptoBulkEntries entries + 1
  | .held _ => 1
def uptoBulkAll {H : Type} : List (DataW H) → Nat
  | [] => 0
  | d :: r => uptoBulk d + uptoBulkAll r
def uptoBulkEntries {H : Type} : List (Lit × DataW H) → Nat
  | [] => 0
  | x :: r => uptoBulkEntry x + uptoBulkEntries r
def uptoBulkEntry {H : Type} : Lit × DataW H → Nat
  | (.string bytes, d) => bytes.length + uptoBulk d + 1
  | (_, d) => uptoBulk d + 1
 end
def uptoSmall : (H : Type) → List (DataW H) → Bool := fun _ ds => decide (uptoBulkAll ds ≤ 1048576)
def OpenSpec.upto (s : _root_.Go.ChangeSpec) : _root_.Go.OpenSpec := { _root_.Go.OpenSpec.ofChange s with cond := some uptoSmall }

/-- 'farhaillaw.Names', WHERE WHAT IT READS IS OF BULK AT MOST 1048576: true; the input reads as it did. -/
def namesUptoRow : OpenClaim := { program := "ytogiabligehfaaa", sum := "016a8b6c4de0e74f5b4fbafb1758c373331a26bf27ab5e3421aa5e4221ddc8ca", func := "farhail/farhaillaw.Names", spec := "names", apart := false, narrowed := true }
def NamesUptoSaid : Prop := namesUptoRow.holds Try.pinned (OpenSpec.upto namesSpec)

/-- 'farhaillaw.FrameSums', WHERE WHAT IT READS IS OF BULK AT MOST 1048576: true; the input reads as it did. -/
def frameSumsUptoRow : OpenClaim := { program := "ytogiabligehfaaa", sum := "016a8b6c4de0e74f5b4fbafb1758c373331a26bf27ab5e3421aa5e4221ddc8ca", func := "farhail/farhaillaw.FrameSums", spec := "frameSums", apart := false, narrowed := true }
def FrameSumsUptoSaid : Prop := frameSumsUptoRow.holds Try.pinned (OpenSpec.upto frameSumsSpec)

/-- 'farhaillaw.PacketDecodes', WHERE WHAT IT READS IS OF BULK AT MOST 1048576: true; the input reads as it did. -/
def packetDecodesUptoRow : OpenClaim := { program := "ytogiabligehfaaa", sum := "016a8b6c4de0e74f5b4fbafb1758c373331a26bf27ab5e3421aa5e4221ddc8ca", func := "farhail/farhaillaw.PacketDecodes", spec := "packetDecodes", apart := false, narrowed := true }
def PacketDecodesUptoSaid : Prop := packetDecodesUptoRow.holds Try.pinned (OpenSpec.upto packetDecodesSpec)

/-- 'farhaillaw.FramePacks', WHERE WHAT IT READS IS OF BULK AT MOST 1048576: true; the input reads as it did. -/
def framePacksUptoRow : OpenClaim := { program := "ytogiabligehfaaa", sum := "016a8b6c4de0e74f5b4fbafb1758c373331a26bf27ab5e3421aa5e4221ddc8ca", func := "farhail/farhaillaw.FramePacks", spec := "framePacks", unfollowed := true, recurses := true, apart := false, narrowed := true }
def FramePacksUptoSaid : Prop := framePacksUptoRow.holds Try.pinned (OpenSpec.upto framePacksSpec)

/-- 'farhaillaw.PacketCuts', WHERE WHAT IT READS IS OF BULK AT MOST 1048576: true; the input reads as it did. -/
def packetCutsUptoRow : OpenClaim := { program := "ytogiabligehfaaa", sum := "016a8b6c4de0e74f5b4fbafb1758c373331a26bf27ab5e3421aa5e4221ddc8ca", func := "farhail/farhaillaw.PacketCuts", spec := "packetCuts", unfollowed := true, recurses := true, apart := false, narrowed := true }
def PacketCutsUptoSaid : Prop := packetCutsUptoRow.holds Try.pinned (OpenSpec.upto packetCutsSpec)

/-- 'farhaillaw.FrameUnpacks', WHERE WHAT IT READS IS OF BULK AT MOST 1048576: true; the input reads as it did. -/
def frameUnpacksUptoRow : OpenClaim := { program := "ytogiabligehfaaa", sum := "016a8b6c4de0e74f5b4fbafb1758c373331a26bf27ab5e3421aa5e4221ddc8ca", func := "farhail/farhaillaw.FrameUnpacks", spec := "frameUnpacks", apart := false, narrowed := true }
def FrameUnpacksUptoSaid : Prop := frameUnpacksUptoRow.holds Try.pinned (OpenSpec.upto frameUnpacksSpec)

/-- 'farhaillaw.PacketEncodes', WHERE WHAT IT READS IS OF BULK AT MOST 1048576: true; the input reads as it did. -/
def packetEncodesUptoRow : OpenClaim := { program := "ytogiabligehfaaa", sum := "016a8b6c4de0e74f5b4fbafb1758c373331a26bf27ab5e3421aa5e4221ddc8ca", func := "farhail/farhaillaw.PacketEncodes", spec := "packetEncodes", unfollowed := true, recurses := true, apart := false, narrowed := true }
def PacketEncodesUptoSaid : Prop := packetEncodesUptoRow.holds Try.pinned (OpenSpec.upto packetEncodesSpec)

/-- 'farhaillaw.FrameOpens', WHERE WHAT IT READS IS OF BULK AT MOST 1048576: true; the input reads as it did. -/
def frameOpensUptoRow : OpenClaim := { program := "ytogiabligehfaaa", sum := "016a8b6c4de0e74f5b4fbafb1758c373331a26bf27ab5e3421aa5e4221ddc8ca", func := "farhail/farhaillaw.FrameOpens", spec := "frameOpens", apart := false, narrowed := true }
def FrameOpensUptoSaid : Prop := frameOpensUptoRow.holds Try.pinned (OpenSpec.upto frameOpensSpec)

/-- 'farhaillaw.FramePuts', WHERE WHAT IT READS IS OF BULK AT MOST 1048576: true; the input reads as it did. -/
def framePutsUptoRow : OpenClaim := { program := "ytogiabligehfaaa", sum := "016a8b6c4de0e74f5b4fbafb1758c373331a26bf27ab5e3421aa5e4221ddc8ca", func := "farhail/farhaillaw.FramePuts", spec := "framePuts", unfollowed := true, recurses := true, apart := false, narrowed := true }
def FramePutsUptoSaid : Prop := framePutsUptoRow.holds Try.pinned (OpenSpec.upto framePutsSpec)

/-- 'farhaillaw.PacketJoins', WHERE WHAT IT READS IS OF BULK AT MOST 1048576: true; the input reads as it did. -/
def packetJoinsUptoRow : OpenClaim := { program := "ytogiabligehfaaa", sum := "016a8b6c4de0e74f5b4fbafb1758c373331a26bf27ab5e3421aa5e4221ddc8ca", func := "farhail/farhaillaw.PacketJoins", spec := "packetJoins", unfollowed := true, recurses := true, apart := false, narrowed := true }
def PacketJoinsUptoSaid : Prop := packetJoinsUptoRow.holds Try.pinned (OpenSpec.upto packetJoinsSpec)

/-- 'farhaillaw.FrameHears', WHERE WHAT IT READS IS OF BULK AT MOST 1048576: true; the input reads as it did. -/
def frameHearsUptoRow : OpenClaim := { program := "ytogiabligehfaaa", sum := "016a8b6c4de0e74f5b4fbafb1758c373331a26bf27ab5e3421aa5e4221ddc8ca", func := "farhail/farhaillaw.FrameHears", spec := "frameHears", apart := false, narrowed := true }
def FrameHearsUptoSaid : Prop := frameHearsUptoRow.holds Try.pinned (OpenSpec.upto frameHearsSpec)

/-- 'farhaillaw.FrameNexts', WHERE WHAT IT READS IS OF BULK AT MOST 1048576: true; the input reads as it did. -/
def frameNextsUptoRow : OpenClaim := { program := "ytogiabligehfaaa", sum := "016a8b6c4de0e74f5b4fbafb1758c373331a26bf27ab5e3421aa5e4221ddc8ca", func := "farhail/farhaillaw.FrameNexts", spec := "frameNexts", unfollowed := true, recurses := true, apart := false, narrowed := true }
def FrameNextsUptoSaid : Prop := frameNextsUptoRow.holds Try.pinned (OpenSpec.upto frameNextsSpec)

end Rows
end Go.Proofs.Ytogiabligehfaaa
