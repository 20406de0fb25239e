/-
  No cell of these rows narrows 'for every input' (looked for: loops, veiled, ifaces, maps, wideKeys, modest, calm, conditions, laid).
  DERIVED. THE GIVEN ROWS OF THIS SEAT. 6 by the template 'for every input the law returns true; each argument reads behind the call as it read before'; 0 by the template 'total and deterministic' (their statements: YtkbaganbfcbioaaTotals.lean).
  GIVEN WITH THE SEED: the statements are not yours to turn. If you find one false, say at which input.
  Laid BY PROGRAM, IN A SANDBOX (cutbox-rows.mjs): the forced cells as the released guide's own fill.sh prints them over the translation 2aa1d990aaf9add4… (all of the seat's roots in one cut). By AI agents, Wed Nov 11 2026. No macro, syntax, notation, axiom, sorry.
-/
import Derived.Test.YtkbaganbfcbioaaChecked
import GoSem.Claim
import GoSem.ClaimJoined
import GoSem.ClaimMapViews
import Derived.JoinedTies
import Derived.KernelRfl
namespace Go.Proofs.Ytkbaganbfcbioaa
/- THE CELL 'sum', in the pinned program and in every row, IS THE sha256 OF THE DUMP (.gsa) THAT YtkbaganbfcbioaaProg.lean LOADS. Nothing in Lean hashes anything: it is a label: what it is worth is what the hold of that sum in a sandbox is worth. -/
noncomputable def Try.pinned : Pinned := { name := "ytkbaganbfcbioaa", sum := "2aa1d990aaf9add4346c493b4d670b58be3c4aca5d2c93273c020df179d9d750", checked := Try.checked }
namespace Rows
def none {H : Type} : Left H := { results := [], args := [] }

/-- 'farhaillaw.PacketCuts': WHATEVER THE INPUT: true; the input reads as it did. -/
def packetCutsSpec : ChangeSpec := { name := "packetCuts", fn := fun _ => fun
  | [d1, d2, d3, d4, d5] => { results := [.lit (.bool true)], args := [d1, d2, d3, d4, d5] }
  | _ => none }
def packetCutsRow : OpenClaim := { program := "ytkbaganbfcbioaa", sum := "2aa1d990aaf9add4346c493b4d670b58be3c4aca5d2c93273c020df179d9d750", func := "farhail/farhaillaw.PacketCuts", spec := "packetCuts", unfollowed := true, recurses := true, apart := false }
def PacketCutsSaid : Prop := packetCutsRow.holds Try.pinned (OpenSpec.ofChange packetCutsSpec)

/-- ITS FALSE NEIGHBOUR: 'it returns false'. Refute it at one input. -/
def packetCutsWrong : ChangeSpec := { name := "packetCuts", fn := fun _ => fun
  | [d1, d2, d3, d4, d5] => { results := [.lit (.bool false)], args := [d1, d2, d3, d4, d5] }
  | _ => none }
def PacketCutsWrongFalsely : Prop := packetCutsRow.holds Try.pinned (OpenSpec.ofChange packetCutsWrong)

/-- 'farhaillaw.KeysTags': WHATEVER THE INPUT: true; the input reads as it did. -/
def keysTagsSpec : ChangeSpec := { name := "keysTags", fn := fun _ => fun
  | [d1, d2, d3] => { results := [.lit (.bool true)], args := [d1, d2, d3] }
  | _ => none }
def keysTagsRow : OpenClaim := { program := "ytkbaganbfcbioaa", sum := "2aa1d990aaf9add4346c493b4d670b58be3c4aca5d2c93273c020df179d9d750", func := "farhail/farhaillaw.KeysTags", spec := "keysTags", unfollowed := true, recurses := true, named := ["math/bits.divideError", "math/bits.overflowError"], apart := false }
def KeysTagsSaid : Prop := keysTagsRow.holds Try.pinned (OpenSpec.ofChange keysTagsSpec)

/-- ITS FALSE NEIGHBOUR: 'it returns false'. Refute it at one input. -/
def keysTagsWrong : ChangeSpec := { name := "keysTags", fn := fun _ => fun
  | [d1, d2, d3] => { results := [.lit (.bool false)], args := [d1, d2, d3] }
  | _ => none }
def KeysTagsWrongFalsely : Prop := keysTagsRow.holds Try.pinned (OpenSpec.ofChange keysTagsWrong)

/-- 'farhaillaw.KeysAdds': WHATEVER THE INPUT: true; the input reads as it did. -/
def keysAddsSpec : ChangeSpec := { name := "keysAdds", fn := fun _ => fun
  | [d1, d2] => { results := [.lit (.bool true)], args := [d1, d2] }
  | _ => none }
def keysAddsRow : OpenClaim := { program := "ytkbaganbfcbioaa", sum := "2aa1d990aaf9add4346c493b4d670b58be3c4aca5d2c93273c020df179d9d750", func := "farhail/farhaillaw.KeysAdds", spec := "keysAdds", unfollowed := true, recurses := true, apart := false }
def KeysAddsSaid : Prop := keysAddsRow.holds Try.pinned (OpenSpec.ofChange keysAddsSpec)

/-- ITS FALSE NEIGHBOUR: 'it returns false'. Refute it at one input. -/
def keysAddsWrong : ChangeSpec := { name := "keysAdds", fn := fun _ => fun
  | [d1, d2] => { results := [.lit (.bool false)], args := [d1, d2] }
  | _ => none }
def KeysAddsWrongFalsely : Prop := keysAddsRow.holds Try.pinned (OpenSpec.ofChange keysAddsWrong)

/-- 'farhaillaw.KeysDrops': WHATEVER THE INPUT: true; the input reads as it did. -/
def keysDropsSpec : ChangeSpec := { name := "keysDrops", fn := fun _ => fun
  | [d1, d2] => { results := [.lit (.bool true)], args := [d1, d2] }
  | _ => none }
def keysDropsRow : OpenClaim := { program := "ytkbaganbfcbioaa", sum := "2aa1d990aaf9add4346c493b4d670b58be3c4aca5d2c93273c020df179d9d750", func := "farhail/farhaillaw.KeysDrops", spec := "keysDrops", unfollowed := true, recurses := true, apart := false }
def KeysDropsSaid : Prop := keysDropsRow.holds Try.pinned (OpenSpec.ofChange keysDropsSpec)

/-- ITS FALSE NEIGHBOUR: 'it returns false'. Refute it at one input. -/
def keysDropsWrong : ChangeSpec := { name := "keysDrops", fn := fun _ => fun
  | [d1, d2] => { results := [.lit (.bool false)], args := [d1, d2] }
  | _ => none }
def KeysDropsWrongFalsely : Prop := keysDropsRow.holds Try.pinned (OpenSpec.ofChange keysDropsWrong)

/-- 'farhaillaw.KeysSeals': WHATEVER THE INPUT: true; the input reads as it did. -/
def keysSealsSpec : ChangeSpec := { name := "keysSeals", fn := fun _ => fun
  | [d1, d2, d3] => { results := [.lit (.bool true)], args := [d1, d2, d3] }
  | _ => none }
def keysSealsRow : OpenClaim := { program := "ytkbaganbfcbioaa", sum := "2aa1d990aaf9add4346c493b4d670b58be3c4aca5d2c93273c020df179d9d750", func := "farhail/farhaillaw.KeysSeals", spec := "keysSeals", unfollowed := true, recurses := true, named := ["math/bits.divideError", "math/bits.overflowError"], apart := false }
def KeysSealsSaid : Prop := keysSealsRow.holds Try.pinned (OpenSpec.ofChange keysSealsSpec)

/-- ITS FALSE NEIGHBOUR: 'it returns false'. Refute it at one input. -/
def keysSealsWrong : ChangeSpec := { name := "keysSeals", fn := fun _ => fun
  | [d1, d2, d3] => { results := [.lit (.bool false)], args := [d1, d2, d3] }
  | _ => none }
def KeysSealsWrongFalsely : Prop := keysSealsRow.holds Try.pinned (OpenSpec.ofChange keysSealsWrong)

/-- 'farhaillaw.KeysOpens': WHATEVER THE INPUT: true; the input reads as it did. -/
def keysOpensSpec : ChangeSpec := { name := "keysOpens", fn := fun _ => fun
  | [d1, d2] => { results := [.lit (.bool true)], args := [d1, d2] }
  | _ => none }
def keysOpensRow : OpenClaim := { program := "ytkbaganbfcbioaa", sum := "2aa1d990aaf9add4346c493b4d670b58be3c4aca5d2c93273c020df179d9d750", func := "farhail/farhaillaw.KeysOpens", spec := "keysOpens", unfollowed := true, recurses := true, named := ["math/bits.divideError", "math/bits.overflowError"], apart := false }
def KeysOpensSaid : Prop := keysOpensRow.holds Try.pinned (OpenSpec.ofChange keysOpensSpec)

/-- ITS FALSE NEIGHBOUR: 'it returns false'. Refute it at one input. -/
def keysOpensWrong : ChangeSpec := { name := "keysOpens", fn := fun _ => fun
  | [d1, d2] => { results := [.lit (.bool false)], args := [d1, d2] }
  | _ => none }
def KeysOpensWrongFalsely : Prop := keysOpensRow.holds Try.pinned (OpenSpec.ofChange keysOpensWrong)

/- THE SECOND FORM. 'bulk': how many values and letters a reading holds, each counted each time it is reached (what is shared counts as often as it is met; a slice's spare places count too). A statement '..UptoSaid' is the law's where the arguments, and the package variables that the reading takes, are together of bulk at most 1048576: NARROWER than '..Said'. Prove '..Said' where nothing that the law and all that it calls make is longer than what came in: it says more and counts as full. Else prove '..UptoSaid'. A law counts once. -/
mutual
def uptoBulk {H : Type} : DataW H → Nat
  | .lit (.string bytes) => bytes.length + 1
  | .lit _ => 1
  | .nil => 1
  | .ptr d => uptoBulk d + 1
  | .slice elems spare => uptoBulkAll elems + uptoBulkAll spare + 1
  | .agg parts => uptoBulkAll parts + 1
  | .iface _ d => uptoBulk d + 1
  | .map entries => uptoBulkEntries entries + 1
  | .held _ => 1
def uptoBulkAll {H : Type} : List (DataW H) → Nat
  | [] => 0
  | d :: r => uptoBulk d + uptoBulkAll r
def uptoBulkEntries {H : Type} : List (Lit × DataW H) → Nat
  | [] => 0
  | x :: r => uptoBulkEntry x + uptoBulkEntries r
def uptoBulkEntry {H : Type} : Lit × DataW H → Nat
  | (.string bytes, d) => bytes.length + uptoBulk d + 1
  | (_, d) => uptoBulk d + 1
 end
def uptoSmall : (H : Type) → List (DataW H) → Bool := fun _ ds => decide (uptoBulkAll ds ≤ 1048576)
def OpenSpec.upto (s : _root_.Go.ChangeSpec) : _root_.Go.OpenSpec := { _root_.Go.OpenSpec.ofChange s with cond := some uptoSmall }

/-- 'farhaillaw.PacketCuts', WHERE WHAT IT READS IS OF BULK AT MOST 1048576: true; the input reads as it did. -/
def packetCutsUptoRow : OpenClaim := { program := "ytkbaganbfcbioaa", sum := "2aa1d990aaf9add4346c493b4d670b58be3c4aca5d2c93273c020df179d9d750", func := "farhail/farhaillaw.PacketCuts", spec := "packetCuts", unfollowed := true, recurses := true, apart := false, narrowed := true }
def PacketCutsUptoSaid : Prop := packetCutsUptoRow.holds Try.pinned (OpenSpec.upto packetCutsSpec)

/-- 'farhaillaw.KeysTags', WHERE WHAT IT READS IS OF BULK AT MOST 1048576: true; the input reads as it did. -/
def keysTagsUptoRow : OpenClaim := { program := "ytkbaganbfcbioaa", sum := "2aa1d990aaf9add4346c493b4d670b58be3c4aca5d2c93273c020df179d9d750", func := "farhail/farhaillaw.KeysTags", spec := "keysTags", unfollowed := true, recurses := true, named := ["math/bits.divideError", "math/bits.overflowError"], apart := false, narrowed := true }
def KeysTagsUptoSaid : Prop := keysTagsUptoRow.holds Try.pinned (OpenSpec.upto keysTagsSpec)

/-- 'farhaillaw.KeysAdds', WHERE WHAT IT READS IS OF BULK AT MOST 1048576: true; the input reads as it did. -/
def keysAddsUptoRow : OpenClaim := { program := "ytkbaganbfcbioaa", sum := "2aa1d990aaf9add4346c493b4d670b58be3c4aca5d2c93273c020df179d9d750", func := "farhail/farhaillaw.KeysAdds", spec := "keysAdds", unfollowed := true, recurses := true, apart := false, narrowed := true }
def KeysAddsUptoSaid : Prop := keysAddsUptoRow.holds Try.pinned (OpenSpec.upto keysAddsSpec)

/-- 'farhaillaw.KeysDrops', WHERE WHAT IT READS IS OF BULK AT MOST 1048576: true; the input reads as it did. -/
def keysDropsUptoRow : OpenClaim := { program := "ytkbaganbfcbioaa", sum := "2aa1d990aaf9add4346c493b4d670b58be3c4aca5d2c93273c020df179d9d750", func := "farhail/farhaillaw.KeysDrops", spec := "keysDrops", unfollowed := true, recurses := true, apart := false, narrowed := true }
def KeysDropsUptoSaid : Prop := keysDropsUptoRow.holds Try.pinned (OpenSpec.upto keysDropsSpec)

/-- 'farhaillaw.KeysSeals', WHERE WHAT IT READS IS OF BULK AT MOST 1048576: true; the input reads as it did. -/
def keysSealsUptoRow : OpenClaim := { program := "ytkbaganbfcbioaa", sum := "2aa1d990aaf9add4346c493b4d670b58be3c4aca5d2c93273c020df179d9d750", func := "farhail/farhaillaw.KeysSeals", spec := "keysSeals", unfollowed := true, recurses := true, named := ["math/bits.divideError", "math/bits.overflowError"], apart := false, narrowed := true }
def KeysSealsUptoSaid : Prop := keysSealsUptoRow.holds Try.pinned (OpenSpec.upto keysSealsSpec)

/-- 'farhaillaw.KeysOpens', WHERE WHAT IT READS IS OF BULK AT MOST 1048576: true; the input reads as it did. -/
def keysOpensUptoRow : OpenClaim := { program := "ytkbaganbfcbioaa", sum := "2aa1d990aaf9add4346c493b4d670b58be3c4aca5d2c93273c020df179d9d750", func := "farhail/farhaillaw.KeysOpens", spec := "keysOpens", unfollowed := true, recurses := true, named := ["math/bits.divideError", "math/bits.overflowError"], apart := false, narrowed := true }
def KeysOpensUptoSaid : Prop := keysOpensUptoRow.holds Try.pinned (OpenSpec.upto keysOpensSpec)

end Rows
end Go.Proofs.Ytkbaganbfcbioaa
