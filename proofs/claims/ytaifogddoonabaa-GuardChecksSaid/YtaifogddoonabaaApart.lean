/-
  Two slices of the call's own, of unlike types, share no block; what a set of blocks leaves alone.
-/
import Derived.Test.YtaifogddoonabaaBase
import Derived.Test.YtaifogddoonabaaStep
namespace Go.Proofs.Ytaifogddoonabaa
set_option linter.unusedSimpArgs false
set_option linter.unusedVariables false
open Go.RowKit

theorem Own.apart {w : World} {b b' : Nat} {e e' : TypeId} {s s' n n' c c' : Nat} {A A' : Option Addr} {xs ys : List Value} (h : Own w b e s A n c xs) (h' : Own w b' e' s' A' n' c' ys) (hne : e ≠ e') : ∀ q, blk A = some q → blk A' ≠ some q := by
  intro q hq hq'
  rcases A with _ | a
  · simp [blk] at hq
  rcases A' with _ | a'
  · simp [blk] at hq'
  obtain ⟨cur, _, _, hh, _⟩ := h.at_ _ rfl
  obtain ⟨cur', _, _, hh', _⟩ := h'.at_ _ rfl
  have e1 : a.block = q := by simpa [blk] using hq
  have e2 : a'.block = q := by simpa [blk] using hq'
  rw [e1] at hh
  rw [e2] at hh'
  have := hh.symm.trans hh'
  injection this with this
  injection this with _ this
  exact hne this
theorem Own.notBlk {w : World} {b : Nat} {e t : TypeId} {s n c g : Nat} {A : Option Addr} {xs : List Value} {cs : Array Value} (h : Own w b e s A n c xs) (hb : Blk w g t cs) (hne : e ≠ t) : blk A ≠ some g := by
  intro hq
  rcases A with _ | a
  · simp [blk] at hq
  · obtain ⟨cur, _, _, hh, _⟩ := h.at_ a rfl
    have ha : a.block = g := by simpa [blk] using hq
    rw [ha] at hh
    have := hh.symm.trans hb
    injection this with this
    injection this with _ this
    exact hne this
/-- Only the blocks of S, and new ones, have turned. -/
structure Turned (w w' : World) (S : Nat → Prop) : Prop where
  os : w'.os = w.os
  tape : w'.tape = w.tape
  output : w'.output = w.output
  size : w.heap.size ≤ w'.heap.size
  block : ∀ k, k < w.heap.size → ¬ S k → w'.heap[k]? = w.heap[k]?
section
variable {w v v' w' : World} {S : Nat → Prop}
theorem Turned.refl (w : World) (S : Nat → Prop) : Turned w w S := ⟨rfl, rfl, rfl, Nat.le_refl _, fun _ _ _ => rfl⟩
theorem Turned.mono {T : Nat → Prop} (h : Turned w w' S) (hS : ∀ k, k < w.heap.size → S k → T k) : Turned w w' T := ⟨h.os, h.tape, h.output, h.size, fun k hk hn => h.block k hk (fun hs => hn (hS k hk hs))⟩
theorem Turned.trans (h : Turned w v S) {T : Nat → Prop} (k : Turned v v' T) (hT : ∀ i, i < w.heap.size → T i → S i) : Turned w v' S :=
  ⟨k.os.trans h.os, k.tape.trans h.tape, k.output.trans h.output, Nat.le_trans h.size k.size, fun i hi hn => (k.block i (Nat.lt_of_lt_of_le hi h.size) (fun ht => hn (hT i hi ht))).trans (h.block i hi hn)⟩
theorem below_turned (h : Below w.heap.size w w') : Turned w w' (fun _ => False) := ⟨h.os, h.tape, h.output, h.size, fun k hk _ => h.block k hk⟩
theorem grownBy_turned {row : Option Nat} (h : w.grownBy w' row) : Turned w w' (fun k => row = some k) := ⟨h.os, h.tape, h.output, h.size, fun k hk hn => h.block k hk (fun e => hn e.symm)⟩
theorem Turned.step (h : Turned w v S) (k : Below v.heap.size v v') : Turned w v' S := h.trans (below_turned k) (fun _ _ f => f.elim)
theorem Turned.grown (h : Turned w v S) {row : Option Nat} (k : v.grownBy v' row) (hr : ∀ q, row = some q → q < w.heap.size → S q) : Turned w v' S := h.trans (grownBy_turned k) (fun i hi e => hr i e hi)
theorem Turned.set (h : Turned w v S) {p : Addr} (hp : p.block < w.heap.size → S p.block) (u : Value) : Turned w (v.setCell p u) S :=
  ⟨h.os, h.tape, h.output, by simpa using h.size, fun i hi hn => (Below.heap_setCell v p u i (fun e => hn (by subst e; exact hp hi))).trans (h.block i hi hn)⟩
theorem Turned.drewN (h : Turned w v S) (n : Nat) : Turned w (v.drewN n) S := ⟨h.os, h.tape, h.output, h.size, h.block⟩
theorem Turned.below {N : Nat} (h : Turned w w' S) (hS : ∀ k, S k → N ≤ k) (hN : N ≤ w.heap.size) : Below N w w' := ⟨h.os, h.tape, h.output, h.size, fun k hk => h.block k (by omega) (fun hs => by have := hS k hs; omega)⟩
theorem Blk.turned {g : Nat} {t : TypeId} {cs : Array Value} (h : Blk w g t cs) (k : Turned w w' S) (hg : ¬ S g) : Blk w' g t cs := (k.block g h.lt hg).trans h
theorem Own.turned {b : Nat} {e : TypeId} {s n c : Nat} {A : Option Addr} {xs : List Value} (h : Own w b e s A n c xs) (k : Turned w w' S) (hA : ∀ q, blk A = some q → ¬ S q) : Own w' b e s A n c xs :=
  h.keep fun a ha hl => k.block _ hl (hA _ (map_block_of_some ha))
theorem Rd.turned {A : Option Addr} {xs : List Value} (h : Rd w A xs) (k : Turned w w' S) (hA : ∀ q, blk A = some q → ¬ S q) : Rd w' A xs :=
  h.keep fun a ha hl => k.block _ hl (hA _ (map_block_of_some ha))
end
end Go.Proofs.Ytaifogddoonabaa
