/-
  DERIVED. GIVEN WITH THE SEED: THE CARDS: each row of YtidgdjagaifofaaDoorRows.lean that lists a variable, with what it lists TIED to the program's text (the seventh form; the later family's looks); each row that meets fmt, with fmt's text TOLD by the authors' own Lean function (tested against real Go, not proved from fmt's source: count such statements apart). THE CARD IS WHAT COUNTS. Prove the row's statement (the work); the ties are given (YtidgdjagaifofaaDoorTie.lean); close each card by the builder's one call (the guide's Derived/Test/ToyasCard.lean, 'card_holds'). Laid BY PROGRAM, IN A SANDBOX (cutbox-door.mjs). By AI agents, Wed Nov 11 2026. No macro, syntax, notation, axiom, sorry.
-/
import Derived.Test.YtidgdjagaifofaaDoorRows
import GoSem.ClaimSeven
namespace Go.Proofs.YtidgdjagaifofaaDoor
namespace Rows

/-- THE TIED CARD OF 'farhaillaw.MemoryCodes'. -/
def memoryCodesCard : Claim7 := { stood := { row := memoryCodesRow, standIns := [], harness := (true, "fa8d5871ad80b634b3ec8d3bbf99068a40268b1d9fb0d1383e20febf241adf59"), looks := false }, kinds := [], alts := [], laidByText := true, laidKinds := [.data, .data], laidTests := true, laidLooks := .later }
def MemoryCodesCardSaid : Prop := Claim7.holds Tryd.pinned (.plain (OpenSpec.ofChange memoryCodesSpec)) memoryCodesCard

/-- THE SECOND FORM's CARD OF 'farhaillaw.MemoryCodes'. -/
def memoryCodesUptoCard : Claim7 := { stood := { row := memoryCodesUptoRow, standIns := [], harness := (true, "fa8d5871ad80b634b3ec8d3bbf99068a40268b1d9fb0d1383e20febf241adf59"), looks := false }, kinds := [], alts := [], laidByText := true, laidKinds := [.data, .data], laidTests := true, laidLooks := .later }
def MemoryCodesUptoCardSaid : Prop := Claim7.holds Tryd.pinned (.plain (OpenSpec.upto memoryCodesSpec)) memoryCodesUptoCard
end Rows
end Go.Proofs.YtidgdjagaifofaaDoor
