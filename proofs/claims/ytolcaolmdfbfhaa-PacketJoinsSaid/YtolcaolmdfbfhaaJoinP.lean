/-
  Packets joined, plainly. No program is named here.
-/
import Derived.Test.YtolcaolmdfbfhaaPEncP
namespace Go.Proofs.Ytolcaolmdfbfhaa
set_option linter.unusedSimpArgs false
set_option linter.unusedVariables false
open Go.RowKit

structure Jn where
  apid : Int
  next : Int
  opn : Bool
  unit : List UInt8
def Jn.zero : Jn := ⟨0, 0, false, []⟩
/-- What is joined as the model's value, its unit at A, of capacity c. -/
def jnv (j : Jn) (A : Option Addr) (c : Nat) : Value := .agg #[.int .i64 j.apid, .int .i64 j.next, .bool j.opn, .slice A j.unit.length c]
/-- Does it stand? -/
def jnOk (j : Jn) : Prop := (0 ≤ j.apid ∧ j.apid ≤ 2046) ∧ (-1 ≤ j.next ∧ j.next ≤ 16383) ∧ j.unit.length ≤ 1048576 ∧ j.opn = decide (0 < j.unit.length) ∧ (j.opn = true → j.next ≠ -1)
instance (j : Jn) : Decidable (jnOk j) := by unfold jnOk; infer_instance
/-- Is one between missing? -/
def gapOf (j : Jn) (p : Pkt) : Bool := decide (j.next ≠ -1) && decide (j.next ≠ p.count)
/-- What was open, if nothing is missing. -/
def openOf (j : Jn) (p : Pkt) : List UInt8 := if gapOf j p then [] else j.unit
/-- What is open, the unit, and whether something is lost. -/
def joinStep (g : Bool) (o d : List UInt8) (part : Int) : List UInt8 × List UInt8 × Bool :=
  if part = 3 then ([], d, g || decide (0 < o.length))
  else if part = 1 then (d, [], g || decide (0 < o.length))
  else if o.length = 0 then ([], [], true)
  else if 1048576 < o.length + d.length then ([], [], true)
  else if part = 2 then ([], o ++ d, g) else (o ++ d, [], g)
def joins (j : Jn) (p : Pkt) : Jn × List UInt8 × Bool × Int :=
  if jnOk j then
    if pktMay p = 0 then
      if p.apid = j.apid then
        (⟨j.apid, (p.count + 1) % 16384, decide (0 < (joinStep (gapOf j p) (openOf j p) p.data p.part).1.length), (joinStep (gapOf j p) (openOf j p) p.data p.part).1⟩, (joinStep (gapOf j p) (openOf j p) p.data p.part).2.1, (joinStep (gapOf j p) (openOf j p) p.data p.part).2.2, 0)
      else (.zero, [], false, 10)
    else (.zero, [], false, pktMay p)
  else (.zero, [], false, 11)
theorem joinStep_len (g : Bool) (o d : List UInt8) (part : Int) (h : d.length ≤ 65536) : (joinStep g o d part).1.length ≤ 1048576 ∧ (joinStep g o d part).2.1.length ≤ 1048576 := by
  unfold joinStep
  split
  · simp; omega
  · split
    · simp; omega
    · split
      · simp
      · split
        · simp
        · split <;> simp <;> omega
/-- How one begins. -/
def beginJ (a : Int) : Jn × Int := if 0 ≤ a ∧ a ≤ 2046 then (⟨a, -1, false, []⟩, 0) else (.zero, 2)
end Go.Proofs.Ytolcaolmdfbfhaa
