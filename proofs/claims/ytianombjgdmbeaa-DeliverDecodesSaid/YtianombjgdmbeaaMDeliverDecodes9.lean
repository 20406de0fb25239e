/-
  What the program's reader makes of bytes; that Decode's answer is the document's. Plainly. A reader of bytes, in one word: its block, the bytes that are left; number, rest in that word.
-/
import Derived.Test.YtianombjgdmbeaaMDeliverDecodes6
import Derived.Test.YtianombjgdmbeaaMDeliverDecodes8
namespace Go.Proofs.Ytianombjgdmbeaa
set_option linter.unusedSimpArgs false
set_option linter.unusedVariables false
open Go.RowKit

/-- What a reader makes of the bytes behind the head; none: it gives up; else the note, and what is left. -/
def restR (kind id : Int) (c : List UInt8) : Option (Nt × List UInt8) :=
  if kind = 1 then (if c.length < 4 then none else some (⟨1, id, strOf (c.drop 4), fAt c 0, 0, 0, [], [], 0, 0⟩, []))
  else if kind = 2 then (if c.length < 4 then none else some (⟨2, id, ⟨#[]⟩, 0, 0, fAt c 0, c.drop 4, [], 0, 0⟩, []))
  else if kind = 3 then (if c.length < 8 then none else some (⟨3, id, ⟨#[]⟩, fAt c 0, fAt c 4, 0, [], [], 0, 0⟩, c.drop 8))
  else if kind = 4 then (if 168 ≤ c.length then some (⟨4, id, ⟨#[]⟩, 0, 0, 0, [], gapsOf c 21, 0, 0⟩, c.drop 168) else if c.length % 8 = 0 then some (⟨4, id, ⟨#[]⟩, 0, 0, 0, [], gapsOf c (c.length / 8), 0, 0⟩, []) else none)
  else if kind = 5 then (if c.length < 1 then none else some (⟨5, id, ⟨#[]⟩, 0, 0, 0, [], [], 0, bAt c 0⟩, c.drop 1))
  else if kind = 6 then (if c.length < 1 then none else some (⟨6, id, ⟨#[]⟩, 0, 0, 0, [], [], bAt c 0, 0⟩, c.drop 1))
  else some (⟨kind, id, ⟨#[]⟩, 0, 0, 0, [], [], 0, 0⟩, c)
def noteR (l : List UInt8) : Option (Nt × List UInt8) :=
  if l.length < 3 then none else restR (bAt l 0) ((bAt l 1 : Int) * 256 + (bAt l 2 : Int)) (l.drop 3)
/-- The program's answer. -/
def decQ (l : List UInt8) : Nt × Int :=
  match noteR l with
  | none => (ntZero, 8)
  | some (n, r) => if r ≠ [] ∨ noteOk n = false then (ntZero, 8) else (n, 0)
theorem decQ_none {l : List UInt8} (h : noteR l = none) : decQ l = (ntZero, 8) := by unfold decQ; rw [h]
theorem decQ_left {l r : List UInt8} {n : Nt} (h : noteR l = some (n, r)) (hr : r ≠ []) : decQ l = (ntZero, 8) := by unfold decQ; rw [h]; dsimp only; rw [if_pos (.inl hr)]
theorem decQ_bad {l r : List UInt8} {n : Nt} (h : noteR l = some (n, r)) (hn : noteOk n = false) : decQ l = (ntZero, 8) := by unfold decQ; rw [h]; dsimp only; rw [if_pos (.inr hn)]
theorem decQ_good {l : List UInt8} {n : Nt} (h : noteR l = some (n, [])) (hn : noteOk n = true) : decQ l = (n, 0) := by unfold decQ; rw [h]; dsimp only; rw [if_neg (by rw [hn]; simp)]
theorem bad_kind {n : Nt} (h : rngOk n.kind 1 6 = false) : noteOk n = false := by unfold noteOk; rw [h]; rfl
theorem bad_k {n : Nt} (h : kindOk n = false) : noteOk n = false := note_kind h
/-- The rest's two answers agree. -/
theorem rest_eq (kind id : Int) (c : List UInt8) (hc : 1 ≤ c.length) :
    (match restR kind id c with
      | none => (ntZero, (8 : Int))
      | some (n, r) => if r ≠ [] ∨ noteOk n = false then (ntZero, 8) else (n, 0)) =
    (match decC kind id c with
      | none => (ntZero, 8)
      | some n => if noteOk n then (n, 0) else (ntZero, 8)) := by
  have hl : ∀ k, k < c.length → c.drop k ≠ [] := fun k hk e => by
    have : (c.drop k).length = 0 := by rw [e]; rfl
    rw [List.length_drop] at this
    omega
  have he : ∀ k, c.length ≤ k → c.drop k = [] := fun k hk => List.drop_eq_nil_of_le hk
  have fin : ∀ n : Nt, (if ([] : List UInt8) ≠ [] ∨ noteOk n = false then (ntZero, (8 : Int)) else (n, 0)) = (if noteOk n then (n, 0) else (ntZero, 8)) := fun n => by
    cases h : noteOk n <;> simp
  unfold restR decC
  by_cases k1 : kind = 1
  · rw [if_pos k1, if_pos k1]
    by_cases h : c.length < 4
    · rw [if_pos h, if_neg (by omega), if_neg (by omega)]
      have : noteOk (⟨1, id, ⟨#[]⟩, 0, 0, 0, [], [], 0, 0⟩ : Nt) = false := bad_k rfl
      dsimp only
      rw [this]
      rfl
    · rw [if_neg h, if_pos (by omega), if_pos (by omega)]
      exact fin _
  rw [if_neg k1, if_neg k1]
  by_cases k2 : kind = 2
  · rw [if_pos k2, if_pos k2]
    by_cases h : c.length < 4
    · rw [if_pos h, if_neg (by omega), if_neg (by omega)]
      have : noteOk (⟨2, id, ⟨#[]⟩, 0, 0, 0, [], [], 0, 0⟩ : Nt) = false := bad_k rfl
      dsimp only
      rw [this]
      rfl
    · rw [if_neg h, if_pos (by omega), if_pos (by omega)]
      exact fin _
  rw [if_neg k2, if_neg k2]
  by_cases k3 : kind = 3
  · rw [if_pos k3, if_pos k3]
    by_cases h : c.length < 8
    · rw [if_pos h, if_neg (by omega)]
    · rw [if_neg h]
      by_cases h8 : c.length = 8
      · rw [if_pos h8, he 8 (by omega)]
        exact fin _
      · rw [if_neg h8]
        dsimp only
        rw [if_pos (.inl (hl 8 (by omega)))]
  rw [if_neg k3, if_neg k3]
  by_cases k4 : kind = 4
  · rw [if_pos k4, if_pos k4]
    by_cases h : 168 ≤ c.length
    · rw [if_pos h, if_neg (by omega)]
      have : noteOk (⟨4, id, ⟨#[]⟩, 0, 0, 0, [], gapsOf c 21, 0, 0⟩ : Nt) = false := bad_k (by
        unfold kindOk
        simp [gapsOf_len])
      dsimp only
      rw [if_pos (.inr this)]
    · rw [if_neg h]
      by_cases h8 : c.length % 8 = 0
      · rw [if_pos h8, if_pos ⟨h8, by omega⟩]
        exact fin _
      · rw [if_neg h8, if_neg (by omega)]
  rw [if_neg k4, if_neg k4]
  by_cases k5 : kind = 5
  · rw [if_pos k5, if_pos k5, if_neg (by omega)]
    by_cases h : c.length = 1
    · rw [if_pos h, he 1 (by omega)]
      exact fin _
    · rw [if_neg h]
      dsimp only
      rw [if_pos (.inl (hl 1 (by omega)))]
  rw [if_neg k5, if_neg k5]
  by_cases k6 : kind = 6
  · rw [if_pos k6, if_pos k6, if_neg (by omega)]
    by_cases h : c.length = 1
    · rw [if_pos h, he 1 (by omega)]
      exact fin _
    · rw [if_neg h]
      dsimp only
      rw [if_pos (.inl (hl 1 (by omega)))]
  rw [if_neg k6, if_neg k6]
  have : noteOk (⟨kind, id, ⟨#[]⟩, 0, 0, 0, [], [], 0, 0⟩ : Nt) = false := bad_kind (by
    show decide (1 ≤ kind ∧ kind ≤ 6) = false
    exact decide_eq_false (by omega))
  dsimp only
  rw [if_pos (.inr this), this]
  rfl
/-- The program's answer is the document's. -/
theorem decQ_eq (l : List UInt8) : decQ l = decR l := by
  unfold decR
  by_cases h4 : l.length < 4
  · rw [if_pos h4]
    by_cases h3 : l.length < 3
    · exact decQ_none (by unfold noteR; rw [if_pos h3])
    · have hd : l.drop 3 = [] := List.drop_eq_nil_of_le (by omega)
      have hn : noteR l = restR (bAt l 0) ((bAt l 1 : Int) * 256 + (bAt l 2 : Int)) [] := by unfold noteR; rw [if_neg h3, hd]
      generalize (bAt l 1 : Int) * 256 + (bAt l 2 : Int) = id at hn
      generalize (bAt l 0 : Int) = kind at hn
      unfold restR at hn
      simp only [List.length_nil, List.drop_nil] at hn
      by_cases k1 : kind = 1
      · rw [if_pos k1, if_pos (by omega)] at hn; exact decQ_none hn
      rw [if_neg k1] at hn
      by_cases k2 : kind = 2
      · rw [if_pos k2, if_pos (by omega)] at hn; exact decQ_none hn
      rw [if_neg k2] at hn
      by_cases k3 : kind = 3
      · rw [if_pos k3, if_pos (by omega)] at hn; exact decQ_none hn
      rw [if_neg k3] at hn
      by_cases k4 : kind = 4
      · rw [if_pos k4, if_neg (by omega)] at hn

        exact decQ_bad hn (bad_k rfl)
      rw [if_neg k4] at hn
      by_cases k5 : kind = 5
      · rw [if_pos k5, if_pos (by omega)] at hn; exact decQ_none hn
      rw [if_neg k5] at hn
      by_cases k6 : kind = 6
      · rw [if_pos k6, if_pos (by omega)] at hn; exact decQ_none hn
      rw [if_neg k6] at hn
      exact decQ_bad hn (bad_kind (by
        show decide (1 ≤ kind ∧ kind ≤ 6) = false
        exact decide_eq_false (by omega)))
  · rw [if_neg h4]
    have hn : noteR l = restR (bAt l 0) ((bAt l 1 : Int) * 256 + (bAt l 2 : Int)) (l.drop 3) := by unfold noteR; rw [if_neg (by omega)]
    unfold decQ
    rw [hn]
    exact rest_eq _ _ _ (by rw [List.length_drop]; omega)
end Go.Proofs.Ytianombjgdmbeaa
namespace Go.Proofs.Ytianombjgdmbeaa
set_option linter.unusedSimpArgs false
set_option linter.unusedVariables false
open Go.RowKit

/-- The reader's block, and the bytes that are left: they lie below N. -/
def RdrAt (w : World) (b N : Nat) (l : List UInt8) : Prop :=
  ∃ A c, Blk w b 72 #[.slice A l.length c] ∧ Rd w A (bvs l) ∧ l.length ≤ c ∧ c ≤ 9223372036854775807 ∧ ∀ q, blk A = some q → q < N
theorem RdrAt.turned {w w' : World} {b N : Nat} {l : List UInt8} {S : Nat → Prop} (h : RdrAt w b N l) (k : Turned w w' S) (hb : ¬ S b) (hS : ∀ q, q < N → ¬ S q) : RdrAt w' b N l := by
  obtain ⟨A, c, h1, h2, h3, h4, h5⟩ := h
  exact ⟨A, c, h1.turned k hb, h2.turned k (fun q hq => hS q (h5 q hq)), h3, h4, h5⟩
theorem RdrAt.step {w w' : World} {b N : Nat} {l : List UInt8} (h : RdrAt w b N l) (k : Below w.heap.size w w') : RdrAt w' b N l := h.turned (below_turned k) (fun h => h) (fun _ _ h => h)
theorem RdrAt.far {w : World} {b N q i : Nat} {l : List UInt8} (h : RdrAt w b N l) (hq : b ≠ q) (hN : N ≤ q) (u : Value) : RdrAt (w.setCell ⟨q, i, none⟩ u) b N l :=
  h.turned ((Turned.refl w (fun k => k = q)).set (p := ⟨q, i, none⟩) (fun _ => rfl) u) (fun e => hq e) (fun k hk e => by omega)
def shortP : List PanicEntry := [{ v := .iface 71 (.agg #[]), recovered := false }]
theorem number_at (b N k : Nat) (l : List UInt8) (w : World) (h : RdrAt w b N l) (hN : N ≤ b) (hk : k ≤ l.length) (hk4 : k ≤ 4) :
    Calls Try.prog 87 #[.pointer (some ⟨b, 0, none⟩), .int .i64 (k : Int)] w fun e w' => e = .returned (.int .i64 ((beN l k : Nat) : Int)) ∧ RdrAt w' b N (l.drop k) ∧ Turned w w' (fun i => i = b) := by
  obtain ⟨A, c, h1, h2, h3, h4, h5⟩ := h
  have hA : blk A ≠ some b := fun e => by have := h5 b e; omega
  refine (number_yes b A l.length c k l w h1 rfl h2 hA hk hk4 h3 h4).mono ?_
  rintro e w' ⟨rfl, rfl⟩
  refine ⟨rfl, ⟨nxtA A c k, c - k, ?_, (h2.setCell (p := ⟨b, 0, none⟩) hA _).nxt h3, by rw [List.length_drop]; omega, by omega, fun q hq => h5 q (by rw [← hq, blk_nxt])⟩, (Turned.refl w (fun i => i = b)).set (p := ⟨b, 0, none⟩) (fun _ => rfl) _⟩
  rw [List.length_drop]
  exact h1.set_ 0 _
theorem number_no_at (b N k : Nat) (l : List UInt8) (w : World) (h : RdrAt w b N l) (hk : l.length < k) (hk4 : k ≤ 4) :
    Calls Try.prog 87 #[.pointer (some ⟨b, 0, none⟩), .int .i64 (k : Int)] w fun e w' => e = .panicked shortP ∧ w' = w := by
  obtain ⟨A, c, h1, h2, h3, h4, h5⟩ := h
  exact number_no b A l.length c k w h1 hk (by omega)
theorem rest_at (b N : Nat) (l : List UInt8) (w : World) (h : RdrAt w b N l) (hN : N ≤ b) (hn : l.length ≤ 140737488351300) :
    Calls Try.prog 88 #[.pointer (some ⟨b, 0, none⟩)] w fun e w' => ∃ D dc, e = .returned (.slice D l.length dc) ∧ Own w' w.heap.size 5 1 D l.length dc (bvs l) ∧ RdrAt w' b N [] ∧ Turned w w' (fun i => i = b) := by
  obtain ⟨A, c, h1, h2, h3, h4, h5⟩ := h
  have hA : blk A ≠ some b := fun e => by have := h5 b e; omega
  refine (rest_any b A l.length c l w h1 rfl h2 hA h3 h4 hn).mono ?_
  rintro e w' ⟨D, dc, rfl, hO, hB, hT⟩
  exact ⟨D, dc, rfl, hO, ⟨nxtA A c l.length, c - l.length, hB, Rd.nil _ _, Nat.zero_le _, by omega, fun q hq => h5 q (by rw [← hq, blk_nxt])⟩, hT⟩
/-- What the reader's note leaves. -/
def NotePost (w w' : World) (b N : Nat) (o : Option (Nt × List UInt8)) (e : Ending) : Prop :=
  match o with
  | none => e = .panicked shortP ∧ Turned w w' (fun i => i = b)
  | some (n, r) => ∃ D dc G gc, e = .returned (ntv n D n.data.length dc G n.gaps.length gc) ∧ Own w' w.heap.size 5 1 D n.data.length dc (bvs n.data) ∧ Own w' w.heap.size 66 2 G n.gaps.length gc (gps n.gaps) ∧ RdrAt w' b N r ∧ Turned w w' (fun i => i = b)
end Go.Proofs.Ytianombjgdmbeaa
