/-
  Two slices of the call's own, of unlike types, share no block; what a set of blocks leaves alone. Slices of notes: what they read as; notes in memory of the call's own; cells stored in the middle of a block.
-/
import Derived.Test.YtianombjgdmbeaaMDeliverWaits1
import Derived.Test.YtianombjgdmbeaaMDeliverWaits7
import Derived.Test.YtianombjgdmbeaaMDeliverWaits14
import Derived.Test.YtianombjgdmbeaaMDeliverWaits12
import Derived.Deep.MidRow
namespace Go.Proofs.Ytianombjgdmbeaa
set_option linter.unusedSimpArgs false
set_option linter.unusedVariables false
open Go.RowKit

theorem Own.apart {w : World} {b b' : Nat} {e e' : TypeId} {s s' n n' c c' : Nat} {A A' : Option Addr} {xs ys : List Value} (h : Own w b e s A n c xs) (h' : Own w b' e' s' A' n' c' ys) (hne : e ≠ e') : ∀ q, blk A = some q → blk A' ≠ some q := by
  intro q hq hq'
  rcases A with _ | a
  · simp [blk] at hq
  rcases A' with _ | a'
  · simp [blk] at hq'
  obtain ⟨cur, _, _, hh, _⟩ := h.at_ _ rfl
  obtain ⟨cur', _, _, hh', _⟩ := h'.at_ _ rfl
  have e1 : a.block = q := by simpa [blk] using hq
  have e2 : a'.block = q := by simpa [blk] using hq'
  rw [e1] at hh
  rw [e2] at hh'
  have := hh.symm.trans hh'
  injection this with this
  injection this with _ this
  exact hne this
theorem Own.notBlk {w : World} {b : Nat} {e t : TypeId} {s n c g : Nat} {A : Option Addr} {xs : List Value} {cs : Array Value} (h : Own w b e s A n c xs) (hb : Blk w g t cs) (hne : e ≠ t) : blk A ≠ some g := by
  intro hq
  rcases A with _ | a
  · simp [blk] at hq
  · obtain ⟨cur, _, _, hh, _⟩ := h.at_ a rfl
    have ha : a.block = g := by simpa [blk] using hq
    rw [ha] at hh
    have := hh.symm.trans hb
    injection this with this
    injection this with _ this
    exact hne this
/-- Only the blocks of S, and new ones, have turned. -/
structure Turned (w w' : World) (S : Nat → Prop) : Prop where
  os : w'.os = w.os
  tape : w'.tape = w.tape
  output : w'.output = w.output
  size : w.heap.size ≤ w'.heap.size
  block : ∀ k, k < w.heap.size → ¬ S k → w'.heap[k]? = w.heap[k]?
section
variable {w v v' w' : World} {S : Nat → Prop}
theorem Turned.refl (w : World) (S : Nat → Prop) : Turned w w S := ⟨rfl, rfl, rfl, Nat.le_refl _, fun _ _ _ => rfl⟩
theorem Turned.mono {T : Nat → Prop} (h : Turned w w' S) (hS : ∀ k, k < w.heap.size → S k → T k) : Turned w w' T := ⟨h.os, h.tape, h.output, h.size, fun k hk hn => h.block k hk (fun hs => hn (hS k hk hs))⟩
theorem Turned.trans (h : Turned w v S) {T : Nat → Prop} (k : Turned v v' T) (hT : ∀ i, i < w.heap.size → T i → S i) : Turned w v' S :=
  ⟨k.os.trans h.os, k.tape.trans h.tape, k.output.trans h.output, Nat.le_trans h.size k.size, fun i hi hn => (k.block i (Nat.lt_of_lt_of_le hi h.size) (fun ht => hn (hT i hi ht))).trans (h.block i hi hn)⟩
theorem below_turned (h : Below w.heap.size w w') : Turned w w' (fun _ => False) := ⟨h.os, h.tape, h.output, h.size, fun k hk _ => h.block k hk⟩
theorem grownBy_turned {row : Option Nat} (h : w.grownBy w' row) : Turned w w' (fun k => row = some k) := ⟨h.os, h.tape, h.output, h.size, fun k hk hn => h.block k hk (fun e => hn e.symm)⟩
theorem Turned.step (h : Turned w v S) (k : Below v.heap.size v v') : Turned w v' S := h.trans (below_turned k) (fun _ _ f => f.elim)
theorem Turned.grown (h : Turned w v S) {row : Option Nat} (k : v.grownBy v' row) (hr : ∀ q, row = some q → q < w.heap.size → S q) : Turned w v' S := h.trans (grownBy_turned k) (fun i hi e => hr i e hi)
theorem Turned.set (h : Turned w v S) {p : Addr} (hp : p.block < w.heap.size → S p.block) (u : Value) : Turned w (v.setCell p u) S :=
  ⟨h.os, h.tape, h.output, by simpa using h.size, fun i hi hn => (Below.heap_setCell v p u i (fun e => hn (by subst e; exact hp hi))).trans (h.block i hi hn)⟩
theorem Turned.drewN (h : Turned w v S) (n : Nat) : Turned w (v.drewN n) S := ⟨h.os, h.tape, h.output, h.size, h.block⟩
theorem Turned.below {N : Nat} (h : Turned w w' S) (hS : ∀ k, S k → N ≤ k) (hN : N ≤ w.heap.size) : Below N w w' := ⟨h.os, h.tape, h.output, h.size, fun k hk => h.block k (by omega) (fun hs => by have := hS k hs; omega)⟩
theorem Blk.turned {g : Nat} {t : TypeId} {cs : Array Value} (h : Blk w g t cs) (k : Turned w w' S) (hg : ¬ S g) : Blk w' g t cs := (k.block g h.lt hg).trans h
theorem Own.turned {b : Nat} {e : TypeId} {s n c : Nat} {A : Option Addr} {xs : List Value} (h : Own w b e s A n c xs) (k : Turned w w' S) (hA : ∀ q, blk A = some q → ¬ S q) : Own w' b e s A n c xs :=
  h.keep fun a ha hl => k.block _ hl (hA _ (map_block_of_some ha))
theorem Rd.turned {A : Option Addr} {xs : List Value} (h : Rd w A xs) (k : Turned w w' S) (hA : ∀ q, blk A = some q → ¬ S q) : Rd w' A xs :=
  h.keep fun a ha hl => k.block _ hl (hA _ (map_block_of_some ha))
end
end Go.Proofs.Ytianombjgdmbeaa
namespace Go.Proofs.Ytianombjgdmbeaa
set_option linter.unusedSimpArgs false
set_option linter.unusedVariables false
open Go.RowKit

/-- A note, and where its data and gaps lie. -/
structure NtR where
  n : Nt
  D : Option Addr
  dc : Nat
  G : Option Addr
  gc : Nat
def ncs (x : NtR) : List Value := [.int .i64 x.n.kind, .int .i64 x.n.id, .string x.n.name, .int .i64 x.n.size, .int .i64 x.n.sum, .int .i64 x.n.at_, .slice x.D x.n.data.length x.dc, .slice x.G x.n.gaps.length x.gc, .int .i64 x.n.of_, .int .i64 x.n.code]
theorem ncs_len (x : NtR) : (ncs x).length = 10 := rfl
def nts (l : List NtR) : List Value := l.flatMap ncs
theorem nts_len (l : List NtR) : (nts l).length = l.length * 10 := fm_len ncs_len l
theorem nts_snoc (l : List NtR) (x : NtR) : nts (l ++ [x]) = nts l ++ ncs x := fm_snoc l x
theorem nts_get {l : List NtR} {i : Nat} {x : NtR} (h : l[i]? = some x) {j : Nat} (hj : j < 10) : (nts l)[i * 10 + j]? = (ncs x)[j]? := fm_get ncs_len l i x j h hj
theorem ncs_one (x : NtR) : ∀ u ∈ ncs x, u.oneCell' = true := by
  intro u hu
  simp [ncs] at hu
  rcases hu with rfl | rfl | rfl | rfl | rfl | rfl | rfl | rfl | rfl | rfl <;> rfl
/-- What any note's lengths are. -/
def NoteFits (n : Nt) : Prop := n.data.length ≤ 140737488351232 ∧ n.gaps.length ≤ 8796093022200
def RdNotes (w : World) (O : Option Addr) (l : List NtR) : Prop := Rd w O (nts l) ∧ ∀ (i : Nat) (x : NtR), l[i]? = some x → Rd w x.D (bvs x.n.data) ∧ Rd w x.G (gps x.n.gaps)
theorem RdNotes.step {w w' : World} {O : Option Addr} {l : List NtR} (h : RdNotes w O l) (hb : Below w.heap.size w w') : RdNotes w' O l := ⟨h.1.step hb, fun i x hx => ⟨(h.2 i x hx).1.step hb, (h.2 i x hx).2.step hb⟩⟩
theorem RdNotes.below {w w' : World} {O : Option Addr} {l : List NtR} (h : RdNotes w O l) (hb : Below w.heap.size w w') : RdNotes w' O l := h.step hb
/-- Notes' data and gaps, in memory of the call's own, no two in one block. -/
def OwnParts (w : World) (base : Nat) (l : List NtR) : Prop :=
  (∀ (i : Nat) (x : NtR), l[i]? = some x → Own w base 5 1 x.D x.n.data.length x.dc (bvs x.n.data) ∧ Own w base 66 2 x.G x.n.gaps.length x.gc (gps x.n.gaps)) ∧
  ∀ (i j : Nat) (x y : NtR), i < j → l[i]? = some x → l[j]? = some y → (∀ q, blk x.D = some q → blk y.D ≠ some q) ∧ (∀ q, blk x.G = some q → blk y.G ≠ some q)
theorem OwnParts.nil (w : World) (base : Nat) : OwnParts w base [] := ⟨fun i x h => by simp at h, fun i j x y _ h => by simp at h⟩
section
variable {w w' : World} {base : Nat} {l : List NtR}
theorem OwnParts.map (h : OwnParts w base l) {base' : Nat} (k : ∀ (e : TypeId) (s : Nat) (A : Option Addr) (n c : Nat) (xs : List Value), Own w base e s A n c xs → (e = 5 ∨ e = 66) → Own w' base' e s A n c xs) : OwnParts w' base' l := ⟨fun i x hx => ⟨k _ _ _ _ _ _ (h.1 i x hx).1 (.inl rfl), k _ _ _ _ _ _ (h.1 i x hx).2 (.inr rfl)⟩, h.2⟩
theorem OwnParts.step (h : OwnParts w base l) (hb : Below w.heap.size w w') : OwnParts w' base l := h.map fun _ _ _ _ _ _ h _ => h.below hb
theorem OwnParts.alloc (h : OwnParts w base l) (o : Obj) : OwnParts (w.alloc o) base l := h.map fun _ _ _ _ _ _ h _ => h.alloc o
theorem OwnParts.rd {O : Option Addr} {n c : Nat} (h : OwnParts w base l) (hO : Own w base 27 10 O n c (nts l)) : RdNotes w O l := ⟨hO.rd, fun i x hx => ⟨(h.1 i x hx).1.rd, (h.1 i x hx).2.rd⟩⟩
theorem OwnParts.turned {S : Nat → Prop} (h : OwnParts w base l) (k : Turned w w' S) (hS : ∀ (i : Nat) (x : NtR), l[i]? = some x → (∀ q, blk x.D = some q → ¬ S q) ∧ (∀ q, blk x.G = some q → ¬ S q)) : OwnParts w' base l :=
  ⟨fun i x hx => ⟨(h.1 i x hx).1.turned k (hS i x hx).1, (h.1 i x hx).2.turned k (hS i x hx).2⟩, h.2⟩
theorem OwnParts.ltD (h : OwnParts w base l) {i : Nat} {x : NtR} (hx : l[i]? = some x) {q : Nat} (hq : blk x.D = some q) : base ≤ q ∧ q < w.heap.size := (h.1 i x hx).1.lt q hq
theorem OwnParts.ltG (h : OwnParts w base l) {i : Nat} {x : NtR} (hx : l[i]? = some x) {q : Nat} (hq : blk x.G = some q) : base ≤ q ∧ q < w.heap.size := (h.1 i x hx).2.lt q hq
theorem OwnParts.snoc (h : OwnParts w base l) {x : NtR} (hx : Own w base 5 1 x.D x.n.data.length x.dc (bvs x.n.data) ∧ Own w base 66 2 x.G x.n.gaps.length x.gc (gps x.n.gaps))
    (hne : ∀ (i : Nat) (y : NtR), l[i]? = some y → (∀ q, blk y.D = some q → blk x.D ≠ some q) ∧ (∀ q, blk y.G = some q → blk x.G ≠ some q)) : OwnParts w base (l ++ [x]) := by
  constructor
  · intro i y hy
    rcases Nat.lt_or_ge i l.length with h1 | h1
    · rw [List.getElem?_append_left h1] at hy
      exact h.1 i y hy
    · rw [List.getElem?_append_right h1] at hy
      rcases Nat.eq_zero_or_pos (i - l.length) with h2 | h2
      · rw [h2] at hy
        simp at hy
        subst hy
        exact hx
      · rw [List.getElem?_eq_none (by simp; omega)] at hy
        cases hy
  · intro i j y z hij hy hz
    rcases Nat.lt_or_ge j l.length with h1 | h1
    · rw [List.getElem?_append_left h1] at hz
      rw [List.getElem?_append_left (by omega)] at hy
      exact h.2 i j y z hij hy hz
    · rw [List.getElem?_append_right h1] at hz
      rcases Nat.eq_zero_or_pos (j - l.length) with h2 | h2
      · rw [h2] at hz
        simp at hz
        subst hz
        rw [List.getElem?_append_left (by omega)] at hy
        exact hne i y hy
      · rw [List.getElem?_eq_none (by simp; omega)] at hz
        cases hz
end
/-- The place of a note among the cells, whatever lies there. -/
theorem nt_at {l : List NtR} {N : List Nt} (h : l.map NtR.n = N) {i : Nat} (hi : i < N.length) : ∃ D dc G gc, l[i]? = some ⟨N[i], D, dc, G, gc⟩ := by
  subst h
  rw [List.length_map] at hi
  refine ⟨l[i].D, l[i].dc, l[i].G, l[i].gc, ?_⟩
  rw [List.getElem?_eq_getElem hi, List.getElem_map]
theorem noteinfo : (Try.prog.info? 27).map (fun i => (i.zero, i.size, i.bytes)) = some (some (.agg #[.int .i64 0, .int .i64 0, .string ⟨#[]⟩, .int .i64 0, .int .i64 0, .int .i64 0, .slice none 0 0, .slice none 0 0, .int .i64 0, .int .i64 0]), 10, 120) := by kernel_rfl
/-! ### cells in the middle of a block -/
theorem Own.setCells {base : Nat} {e : TypeId} {s n c g off : Nat} : ∀ (vs : List Value) (i : Nat) (w : World) (xs : List Value), Own w base e s (some ⟨g, off, none⟩) n c xs → i + vs.length ≤ n * s →
    ∃ ys, Own (w.setCells g (off + i) vs) base e s (some ⟨g, off, none⟩) n c ys ∧ (∀ j, i + vs.length ≤ j → ys[j]? = xs[j]?) ∧ ∀ j, j < i → ys[j]? = xs[j]?
  | [], i, w, xs, h, _ => ⟨xs, h, fun _ _ => rfl, fun _ _ => rfl⟩
  | v :: r, i, w, xs, h, hi => by
    simp only [List.length_cons] at hi
    have h1 := h.set i (by omega) v
    obtain ⟨ys, h2, h3, h4⟩ := Own.setCells r (i + 1) _ _ h1 (by omega)
    refine ⟨ys, h2, fun j hj => ?_, fun j hj => ?_⟩
    · simp only [List.length_cons] at hj
      rw [h3 j (by omega), List.getElem?_set_ne (by omega)]
    · rw [h4 j (by omega), List.getElem?_set_ne (by omega)]
theorem Turned.setCells {S : Nat → Prop} {w : World} {g : Nat} (hg : g < w.heap.size → S g) : ∀ (vs : List Value) (o : Nat) (v : World), Turned w v S → Turned w (v.setCells g o vs) S
  | [], _, _, h => h
  | u :: r, o, v, h => Turned.setCells hg r (o + 1) _ (h.set (p := ⟨g, o, none⟩) hg u)
theorem Own.there {w : World} {base : Nat} {e : TypeId} {s n c g off : Nat} {xs : List Value} (h : Own w base e s (some ⟨g, off, none⟩) n c xs) {i m : Nat} (hi : i + m ≤ n * s) : w.there g (off + i) m := fun j hj => by
  have hl := h.len
  have := h.cell (i := i + j) (List.getElem?_eq_getElem (by omega))
  refine ⟨by rw [Nat.add_assoc, this]; rfl, h.frozen (off + i + j)⟩
end Go.Proofs.Ytianombjgdmbeaa
