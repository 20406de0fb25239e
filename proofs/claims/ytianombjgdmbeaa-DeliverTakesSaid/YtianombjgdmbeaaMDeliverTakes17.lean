/-
  Givers: what they are; which may be; what a note does to one. Plainly. Two slices of the call's own, of unlike types, share no block; what a set of blocks leaves alone.
-/
import Derived.Test.YtianombjgdmbeaaMDeliverTakes8
import Derived.Test.YtianombjgdmbeaaMDeliverTakes16
import Derived.Test.YtianombjgdmbeaaMDeliverTakes1
import Derived.Test.YtianombjgdmbeaaMDeliverTakes10
namespace Go.Proofs.Ytianombjgdmbeaa
set_option linter.unusedSimpArgs false
set_option linter.unusedVariables false
open Go.RowKit

structure Gv where
  id : Int
  name : ByteArray
  file : List UInt8
  most : Int
  burst : Int
  stage : Int
  first : Bool
  at_ : Int
  again : List (Int × Int)
  timer : Int
  patience : Int
  tries : Int
  limit : Int
/-- A giver's cells. -/
def gvc (x : Gv) (F : Option Addr) (fn fc : Nat) (A : Option Addr) (an ac : Nat) : Array Value := #[.int .i64 x.id, .string x.name, .slice F fn fc, .int .i64 x.most, .int .i64 x.burst, .int .i64 x.stage, .bool x.first, .int .i64 x.at_, .slice A an ac, .int .i64 x.timer, .int .i64 x.patience, .int .i64 x.tries, .int .i64 x.limit]
def gvv (x : Gv) (F : Option Addr) (fn fc : Nat) (A : Option Addr) (an ac : Nat) : Value := .agg (gvc x F fn fc A an ac)
def gvZero : Gv := ⟨0, ⟨#[]⟩, [], 0, 0, 0, false, 0, [], 0, 0, 0, 0⟩
/-- What an offer asks. -/
def offB (x : Gv) : Bool := rngOk x.id 0 65535 && rngOk x.most 1 1024 && rngOk x.burst 1 50 && rngOk x.patience 1 1000 && rngOk x.limit 1 100 && decide (1 ≤ x.name.size ∧ x.name.size ≤ 32) && decide (x.file.length ≤ 65536)
/-- Where a giver may stand. -/
def standB (x : Gv) : Bool := rngOk x.stage 0 4 && rngOk x.at_ 0 x.file.length && (decide (x.stage = 0) || (decide (x.at_ = x.file.length) && !x.first))
def waitB (x : Gv) : Bool := rngOk x.timer 0 (x.patience - 1) && rngOk x.tries 0 x.limit
def gvOk (x : Gv) : Bool := offB x && standB x && decide (x.again.length ≤ 1000) && x.again.all (gapIn x.file.length) && waitB x
theorem gv_off {x : Gv} (h : offB x = false) : gvOk x = false := by unfold gvOk; rw [h]; rfl
theorem gv_stand {x : Gv} (h : standB x = false) : gvOk x = false := by unfold gvOk; rw [h]; simp
theorem gv_len {x : Gv} (h : ¬ x.again.length ≤ 1000) : gvOk x = false := by unfold gvOk; rw [decide_eq_false h]; simp
theorem gv_again {x : Gv} (h : x.again.all (gapIn x.file.length) = false) : gvOk x = false := by unfold gvOk; rw [h]; simp
theorem gv_wait {x : Gv} (h : waitB x = false) : gvOk x = false := by unfold gvOk; rw [h]; simp
theorem gv_all {x : Gv} (h1 : offB x = true) (h2 : standB x = true) (h3 : x.again.length ≤ 1000) (h4 : x.again.all (gapIn x.file.length) = true) (h5 : waitB x = true) : gvOk x = true := by unfold gvOk; rw [h1, h2, h4, h5, decide_eq_true h3]; rfl
theorem gv_parts {x : Gv} (h : gvOk x = true) : offB x = true ∧ standB x = true ∧ x.again.length ≤ 1000 ∧ x.again.all (gapIn x.file.length) = true ∧ waitB x = true := by
  unfold gvOk at h
  simp only [Bool.and_eq_true, decide_eq_true_eq] at h
  exact ⟨h.1.1.1.1, h.1.1.1.2, h.1.1.2, h.1.2, h.2⟩
/-- A gap that is asked for, within the file. -/
def askG (L : Int) (acc : List (Int × Int)) (g : Int × Int) : List (Int × Int) :=
  if acc.length < 1000 ∧ (g.2 = 0 ∨ g.1 < min g.2 L) then acc ++ [(g.1, min g.2 L)] else acc
def askAll (L : Int) (acc l : List (Int × Int)) : List (Int × Int) := l.foldl (askG L) acc
theorem askAll_snoc (L : Int) (acc l : List (Int × Int)) (g : Int × Int) : askAll L acc (l ++ [g]) = askG L (askAll L acc l) g := by unfold askAll; rw [List.foldl_append]; rfl
theorem askG_full {L : Int} {acc : List (Int × Int)} (g : Int × Int) (h : 1000 ≤ acc.length) : askG L acc g = acc := by unfold askG; rw [if_neg (by omega)]
theorem askAll_full {L : Int} {acc : List (Int × Int)} (h : 1000 ≤ acc.length) : ∀ l : List (Int × Int), askAll L acc l = acc
  | [] => rfl
  | g :: l => by show askAll L (askG L acc g) l = acc; rw [askG_full g h, askAll_full h l]
theorem askAll_append (L : Int) (acc l m : List (Int × Int)) : askAll L acc (l ++ m) = askAll L (askAll L acc l) m := by unfold askAll; rw [List.foldl_append]
theorem askG_len {L : Int} {acc : List (Int × Int)} (g : Int × Int) (h : acc.length ≤ 1000) : (askG L acc g).length ≤ 1000 := by
  unfold askG
  split
  · simp; omega
  · exact h
theorem askAll_len {L : Int} : ∀ (l acc : List (Int × Int)), acc.length ≤ 1000 → (askAll L acc l).length ≤ 1000
  | [], _, h => h
  | g :: l, acc, h => askAll_len l (askG L acc g) (askG_len g h)
/-- Seen, of a Done. -/
def seenDone (id : Int) : Nt := ⟨6, id, ⟨#[]⟩, 0, 0, 0, [], [], 5, 0⟩
/-- A giver that a Done has ended. -/
def endG (x : Gv) (code : Int) : Gv := if x.stage = 3 then x else { x with stage := (if code = 0 then 3 else 4), first := false, at_ := x.file.length, again := [] }
/-- A giver that has been asked for gaps. -/
def heardG (x : Gv) (n : Nt) : Gv := { x with timer := 0, tries := 0, stage := (if n.of_ = 3 ∧ x.stage = 1 then 2 else x.stage), again := askAll x.file.length x.again n.gaps }
/-- What a note does to a giver: what it becomes, what goes, the error. -/
def replyR (x : Gv) (n : Nt) : Gv × List Nt × Int :=
  if gvOk x = false then (gvZero, [], 11)
  else if noteOk n = false then (x, [], 8)
  else if n.id ≠ x.id then (x, [], 10)
  else if n.kind < 4 then (x, [], 6)
  else if x.stage = 4 then (x, [], 0)
  else if n.kind = 5 then (endG x n.code, [seenDone x.id], 0)
  else if x.stage = 3 then (x, [], 0)
  else (heardG x n, [], 0)
end Go.Proofs.Ytianombjgdmbeaa
namespace Go.Proofs.Ytianombjgdmbeaa
set_option linter.unusedSimpArgs false
set_option linter.unusedVariables false
open Go.RowKit

theorem Own.apart {w : World} {b b' : Nat} {e e' : TypeId} {s s' n n' c c' : Nat} {A A' : Option Addr} {xs ys : List Value} (h : Own w b e s A n c xs) (h' : Own w b' e' s' A' n' c' ys) (hne : e ≠ e') : ∀ q, blk A = some q → blk A' ≠ some q := by
  intro q hq hq'
  rcases A with _ | a
  · simp [blk] at hq
  rcases A' with _ | a'
  · simp [blk] at hq'
  obtain ⟨cur, _, _, hh, _⟩ := h.at_ _ rfl
  obtain ⟨cur', _, _, hh', _⟩ := h'.at_ _ rfl
  have e1 : a.block = q := by simpa [blk] using hq
  have e2 : a'.block = q := by simpa [blk] using hq'
  rw [e1] at hh
  rw [e2] at hh'
  have := hh.symm.trans hh'
  injection this with this
  injection this with _ this
  exact hne this
theorem Own.notBlk {w : World} {b : Nat} {e t : TypeId} {s n c g : Nat} {A : Option Addr} {xs : List Value} {cs : Array Value} (h : Own w b e s A n c xs) (hb : Blk w g t cs) (hne : e ≠ t) : blk A ≠ some g := by
  intro hq
  rcases A with _ | a
  · simp [blk] at hq
  · obtain ⟨cur, _, _, hh, _⟩ := h.at_ a rfl
    have ha : a.block = g := by simpa [blk] using hq
    rw [ha] at hh
    have := hh.symm.trans hb
    injection this with this
    injection this with _ this
    exact hne this
/-- Only the blocks of S, and new ones, have turned. -/
structure Turned (w w' : World) (S : Nat → Prop) : Prop where
  os : w'.os = w.os
  tape : w'.tape = w.tape
  output : w'.output = w.output
  size : w.heap.size ≤ w'.heap.size
  block : ∀ k, k < w.heap.size → ¬ S k → w'.heap[k]? = w.heap[k]?
section
variable {w v v' w' : World} {S : Nat → Prop}
theorem Turned.refl (w : World) (S : Nat → Prop) : Turned w w S := ⟨rfl, rfl, rfl, Nat.le_refl _, fun _ _ _ => rfl⟩
theorem Turned.mono {T : Nat → Prop} (h : Turned w w' S) (hS : ∀ k, k < w.heap.size → S k → T k) : Turned w w' T := ⟨h.os, h.tape, h.output, h.size, fun k hk hn => h.block k hk (fun hs => hn (hS k hk hs))⟩
theorem Turned.trans (h : Turned w v S) {T : Nat → Prop} (k : Turned v v' T) (hT : ∀ i, i < w.heap.size → T i → S i) : Turned w v' S :=
  ⟨k.os.trans h.os, k.tape.trans h.tape, k.output.trans h.output, Nat.le_trans h.size k.size, fun i hi hn => (k.block i (Nat.lt_of_lt_of_le hi h.size) (fun ht => hn (hT i hi ht))).trans (h.block i hi hn)⟩
theorem below_turned (h : Below w.heap.size w w') : Turned w w' (fun _ => False) := ⟨h.os, h.tape, h.output, h.size, fun k hk _ => h.block k hk⟩
theorem grownBy_turned {row : Option Nat} (h : w.grownBy w' row) : Turned w w' (fun k => row = some k) := ⟨h.os, h.tape, h.output, h.size, fun k hk hn => h.block k hk (fun e => hn e.symm)⟩
theorem Turned.step (h : Turned w v S) (k : Below v.heap.size v v') : Turned w v' S := h.trans (below_turned k) (fun _ _ f => f.elim)
theorem Turned.grown (h : Turned w v S) {row : Option Nat} (k : v.grownBy v' row) (hr : ∀ q, row = some q → q < w.heap.size → S q) : Turned w v' S := h.trans (grownBy_turned k) (fun i hi e => hr i e hi)
theorem Turned.set (h : Turned w v S) {p : Addr} (hp : p.block < w.heap.size → S p.block) (u : Value) : Turned w (v.setCell p u) S :=
  ⟨h.os, h.tape, h.output, by simpa using h.size, fun i hi hn => (Below.heap_setCell v p u i (fun e => hn (by subst e; exact hp hi))).trans (h.block i hi hn)⟩
theorem Turned.drewN (h : Turned w v S) (n : Nat) : Turned w (v.drewN n) S := ⟨h.os, h.tape, h.output, h.size, h.block⟩
theorem Turned.below {N : Nat} (h : Turned w w' S) (hS : ∀ k, S k → N ≤ k) (hN : N ≤ w.heap.size) : Below N w w' := ⟨h.os, h.tape, h.output, h.size, fun k hk => h.block k (by omega) (fun hs => by have := hS k hs; omega)⟩
theorem Blk.turned {g : Nat} {t : TypeId} {cs : Array Value} (h : Blk w g t cs) (k : Turned w w' S) (hg : ¬ S g) : Blk w' g t cs := (k.block g h.lt hg).trans h
theorem Own.turned {b : Nat} {e : TypeId} {s n c : Nat} {A : Option Addr} {xs : List Value} (h : Own w b e s A n c xs) (k : Turned w w' S) (hA : ∀ q, blk A = some q → ¬ S q) : Own w' b e s A n c xs :=
  h.keep fun a ha hl => k.block _ hl (hA _ (map_block_of_some ha))
theorem Rd.turned {A : Option Addr} {xs : List Value} (h : Rd w A xs) (k : Turned w w' S) (hA : ∀ q, blk A = some q → ¬ S q) : Rd w' A xs :=
  h.keep fun a ha hl => k.block _ hl (hA _ (map_block_of_some ha))
end
end Go.Proofs.Ytianombjgdmbeaa
