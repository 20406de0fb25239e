/-
  Takers: what they are; which may be; what a note and a tick do to one. Plainly.
-/
import Derived.Test.YtianombjgdmbeaaMDeliverTakes8
import Derived.Test.YtianombjgdmbeaaMDeliverTakes3
import Derived.Test.YtianombjgdmbeaaMDeliverTakes1
import Derived.Test.YtianombjgdmbeaaMDeliverTakes2
namespace Go.Proofs.Ytianombjgdmbeaa
set_option linter.unusedSimpArgs false
set_option linter.unusedVariables false
open Go.RowKit

structure Tk where
  id : Int
  known : Bool
  name : ByteArray
  size : Int
  ended : Bool
  last : Int
  sum : Int
  have_ : List (Int × Int)
  file : List UInt8
  stage : Int
  timer : Int
  patience : Int
  tries : Int
  limit : Int
/-- A taker's cells. -/
def tkc (x : Tk) (H : Option Addr) (hn hc : Nat) (F : Option Addr) (fn fc : Nat) : Array Value := #[.int .i64 x.id, .bool x.known, .string x.name, .int .i64 x.size, .bool x.ended, .int .i64 x.last, .int .i64 x.sum, .slice H hn hc, .slice F fn fc, .int .i64 x.stage, .int .i64 x.timer, .int .i64 x.patience, .int .i64 x.tries, .int .i64 x.limit]
def tkv (x : Tk) (H : Option Addr) (hn hc : Nat) (F : Option Addr) (fn fc : Nat) : Value := .agg (tkc x H hn hc F fn fc)
def tkZero : Tk := ⟨0, false, ⟨#[]⟩, 0, false, 0, 0, [], [], 0, 0, 0, 0, 0⟩
/-- What is expected. -/
def expB (x : Tk) : Bool := rngOk x.id 0 65535 && rngOk x.patience 1 1000 && rngOk x.limit 1 100
def tickB (x : Tk) : Bool := rngOk x.timer 0 (x.patience - 1) && rngOk x.tries 0 x.limit
def stageB (x : Tk) : Bool := decide (x.stage = 0 ∨ x.stage = 3 ∨ x.stage = 4)
def sizesB (x : Tk) : Bool := rngOk x.size 0 65536 && rngOk x.last 0 65536 && rngOk x.sum 0 4294967295 && decide (x.name.size ≤ 32)
def knowB (x : Tk) : Bool := (x.known == decide (0 < x.name.size)) && (x.known || decide (x.size = 0)) && (x.ended || decide (x.last = 0 ∧ x.sum = 0))
def endF (x : Tk) : Int := max (endR (-1) x.have_) 0
def rowsB (x : Tk) : Bool := srtB (-1) x.have_ && decide (endF x ≤ 65536 ∧ (x.file.length : Int) = endF x)
/-- Bytes that have not come are 0. -/
def zeroB (x : Tk) : Bool := (List.range x.file.length).all fun i => inR x.have_ i || decide (bAt x.file i = 0)
def overB (x : Tk) : Bool := decide (x.stage ≠ 3) || (x.known && allR x.have_ x.size)
def tkOk (x : Tk) : Bool := expB x && tickB x && stageB x && sizesB x && knowB x && rowsB x && zeroB x && overB x
theorem tk_exp {x : Tk} (h : expB x = false) : tkOk x = false := by unfold tkOk; rw [h]; rfl
theorem tk_tick {x : Tk} (h : tickB x = false) : tkOk x = false := by unfold tkOk; rw [h]; simp
theorem tk_stage {x : Tk} (h : stageB x = false) : tkOk x = false := by unfold tkOk; rw [h]; simp
theorem tk_sizes {x : Tk} (h : sizesB x = false) : tkOk x = false := by unfold tkOk; rw [h]; simp
theorem tk_know {x : Tk} (h : knowB x = false) : tkOk x = false := by unfold tkOk; rw [h]; simp
theorem tk_rows {x : Tk} (h : rowsB x = false) : tkOk x = false := by unfold tkOk; rw [h]; simp
theorem tk_zero {x : Tk} (h : zeroB x = false) : tkOk x = false := by unfold tkOk; rw [h]; simp
theorem tk_over {x : Tk} (h : overB x = false) : tkOk x = false := by unfold tkOk; rw [h]; simp
theorem tk_all {x : Tk} (h1 : expB x = true) (h2 : tickB x = true) (h3 : stageB x = true) (h4 : sizesB x = true) (h5 : knowB x = true) (h6 : rowsB x = true) (h7 : zeroB x = true) (h8 : overB x = true) : tkOk x = true := by
  unfold tkOk; rw [h1, h2, h3, h4, h5, h6, h7, h8]; rfl
theorem tk_parts {x : Tk} (h : tkOk x = true) : expB x = true ∧ tickB x = true ∧ stageB x = true ∧ sizesB x = true ∧ knowB x = true ∧ rowsB x = true ∧ zeroB x = true ∧ overB x = true := by
  unfold tkOk at h
  simp only [Bool.and_eq_true] at h
  obtain ⟨⟨⟨⟨⟨⟨⟨h1, h2⟩, h3⟩, h4⟩, h5⟩, h6⟩, h7⟩, h8⟩ := h
  exact ⟨h1, h2, h3, h4, h5, h6, h7, h8⟩
/-! ### what is asked for, what is told -/
def capG (l : List (Int × Int)) : List (Int × Int) := l.take 20
def missT (x : Tk) : List (Int × Int) := capG ((if x.known then [] else [(0, 0)]) ++ rowsF (fun i => !inR x.have_ i) x.last.toNat)
def gapsN (x : Tk) (l : List (Int × Int)) : Nt := ⟨4, x.id, ⟨#[]⟩, 0, 0, 0, [], l, 0, 0⟩
def doneN (x : Tk) (e : Int) : Nt := ⟨5, x.id, ⟨#[]⟩, 0, 0, 0, [], [], 0, e⟩
def seenN (x : Tk) : Nt := ⟨6, x.id, ⟨#[]⟩, 0, 0, 0, [], [], 3, 0⟩
def askT (x : Tk) : List Nt := if missT x = [] then [] else [gapsN x (missT x)]
/-! ### a tick -/
def waitT (x : Tk) : Tk × List Nt :=
  if x.stage = 0 ∧ x.ended = true then
    if x.timer + 1 = x.patience then
      if x.tries = x.limit then ({ x with timer := 0, stage := 4 }, [])
      else ({ x with timer := 0, tries := x.tries + 1 }, askT x)
    else ({ x with timer := x.timer + 1 }, [])
  else if x.stage = 3 ∧ x.tries < x.limit then
    if x.timer + 1 = x.patience then ({ x with timer := 0, tries := x.tries + 1 }, [doneN x 0])
    else ({ x with timer := x.timer + 1 }, [])
  else (x, [])
def waitR (x : Tk) : Tk × List Nt × Int := if tkOk x = false then (tkZero, [], 11) else ((waitT x).1, (waitT x).2, 0)
/-! ### the file, if it is whole -/
def wholeR (x : Tk) : ByteArray × List UInt8 × Int :=
  if tkOk x = false then (⟨#[]⟩, [], 11)
  else if x.stage ≠ 3 then (⟨#[]⟩, [], 7)
  else (x.name, x.file.take x.size.toNat, 0)
/-! ### a note -/
/-- The file with the bytes of a piece that had not come. -/
def layF (file : List UInt8) (l : List (Int × Int)) (at_ : Nat) (data : List UInt8) : List UInt8 :=
  (List.range (max file.length (at_ + data.length))).map fun i => if inR l i then file.getD i 0 else if at_ ≤ i ∧ i < at_ + data.length then data.getD (i - at_) 0 else 0
def layT (x : Tk) (n : Nt) : Tk := { x with file := layF x.file x.have_ n.at_.toNat n.data, have_ := layG x.have_ (n.at_, n.at_ + n.data.length) }
/-- Is all there, and right? -/
def judgeT (x : Tk) : Tk × List Nt :=
  if x.known = true ∧ x.ended = true ∧ ¬ x.size = x.last then ({ x with stage := 4 }, [doneN x 9])
  else if x.known = true ∧ x.ended = true ∧ allR x.have_ x.size = true then
    if fileSum (x.file.take x.size.toNat) = x.sum then ({ x with stage := 3 }, [doneN x 0])
    else ({ x with stage := 4 }, [doneN x 9])
  else (x, [])
def comesT (x : Tk) (n : Nt) : Tk :=
  if n.kind = 1 then (if x.known = true then x else { x with known := true, name := n.name, size := n.size })
  else if n.kind = 2 then layT x n
  else if n.kind = 3 then (if x.ended = true then x else { x with ended := true, last := n.size, sum := n.sum })
  else x
def goT (x : Tk) (n : Nt) : Tk × List Nt :=
  let y := comesT { x with timer := 0, tries := 0 } n
  let r := judgeT y
  (r.1, (if n.kind = 3 then [seenN x] else []) ++ r.2 ++ (if r.2 = [] ∧ n.kind = 3 then askT r.1 else []))
def takeT (x : Tk) (n : Nt) : Tk × List Nt :=
  if x.stage = 4 then (x, if n.kind = 3 then [seenN x, doneN x 9] else [])
  else if x.stage = 3 then
    if n.kind = 3 then (x, [seenN x, doneN x 0])
    else if n.kind = 6 ∧ n.of_ = 5 then ({ x with timer := 0, tries := x.limit }, [])
    else (x, [])
  else goT x n
def takeR (x : Tk) (n : Nt) : Tk × List Nt × Int :=
  if tkOk x = false then (tkZero, [], 11)
  else if noteOk n = false then (x, [], 8)
  else if n.id ≠ x.id then (x, [], 10)
  else if n.kind = 4 ∨ n.kind = 5 then (x, [], 6)
  else ((takeT x n).1, (takeT x n).2, 0)
end Go.Proofs.Ytianombjgdmbeaa
namespace Go.Proofs.Ytianombjgdmbeaa
set_option linter.unusedSimpArgs false
set_option linter.unusedVariables false
open Go.RowKit

/-- What comes of a packing: bytes in memory of their own. -/
def BytesRes (w w' : World) (r : List UInt8 × Int) (e : Ending) : Prop :=
  ∃ A c, e = .returned (.tuple #[.slice A r.1.length c, .int .i64 r.2]) ∧ Own w' w.heap.size 5 1 A r.1.length c (bvs r.1) ∧ Below w.heap.size w w'
theorem BytesRes.none_ {w w' : World} {k : Int} (h : Below w.heap.size w w') : BytesRes w w' ([], k) (.returned (.tuple #[.slice none 0 0, .int .i64 k])) := ⟨none, 0, rfl, Own.none_ _ _ _ _, h⟩
theorem BytesRes.open_ {w w' : World} {r : List UInt8 × Int} {e : Ending} {l : List UInt8} {k : Int} (hr : r = (l, k)) (h : BytesRes w w' r e) :
    ∃ A c, e = .returned (.tuple #[.slice A l.length c, .int .i64 k]) ∧ Own w' w.heap.size 5 1 A l.length c (bvs l) ∧ Below w.heap.size w w' := by
  subst hr
  exact h
/-- Bytes that came out, in memory of their own. -/
def RowsOut (w w' : World) (r : List UInt8) (e : Ending) : Prop := ∃ A' c', e = .returned (.slice A' r.length c') ∧ Own w' w.heap.size 5 1 A' r.length c' (bvs r) ∧ Below w.heap.size w w'
end Go.Proofs.Ytianombjgdmbeaa
