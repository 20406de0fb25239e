/-
  Orders and their bytes, plainly. No program is named here. What frees a hand, in plain words.
-/
import Derived.Test.YtppmdamcdhmcpaaMCommandSteps15
import Derived.Test.YtppmdamcdhmcpaaMCommandSteps16
import Derived.Test.YtppmdamcdhmcpaaMCommandSteps10
namespace Go.Proofs.Ytppmdamcdhmcpaa
set_option linter.unusedSimpArgs false
set_option linter.unusedVariables false
open Go.RowKit

structure Ord where
  craft : Int
  bypass : Bool
  control : Bool
  seq : Int
  data : List UInt8
def Ord.zero : Ord := ⟨0, false, false, 0, []⟩
def ordv (o : Ord) (A : Option Addr) (c : Nat) : Value := .agg #[.int .i64 o.craft, .bool o.bypass, .bool o.control, .int .i64 o.seq, .slice A o.data.length c]
def ordRange (o : Ord) : Prop := (0 ≤ o.craft ∧ o.craft ≤ 1023) ∧ (0 ≤ o.seq ∧ o.seq ≤ 255)
def ordKind (o : Ord) : Prop := o.control = true → o.bypass = true
def ordSize (o : Ord) : Prop := 1 ≤ o.data.length ∧ o.data.length ≤ 1017
instance (o : Ord) : Decidable (ordRange o) := by unfold ordRange; infer_instance
instance (o : Ord) : Decidable (ordKind o) := by unfold ordKind; infer_instance
instance (o : Ord) : Decidable (ordSize o) := by unfold ordSize; infer_instance
/-- What is wrong with an order. -/
def ordMay (o : Ord) : Int := if ordRange o then (if ordKind o then (if ordSize o then 0 else 1) else 6) else 2
def ordFirst (o : Ord) : Nat := flag o.bypass 8192 + flag o.control 4096 + o.craft.toNat
def ordBody (o : Ord) : List UInt8 := be (ordFirst o : Nat) 2 ++ be (o.data.length + 6 : Nat) 2 ++ be o.seq 1 ++ o.data
def ordBytes (o : Ord) : List UInt8 := ordBody o ++ be (crc (ordBody o) : Nat) 2
def ordEnc (o : Ord) : List UInt8 × Int := if ordMay o = 0 then (ordBytes o, 0) else ([], ordMay o)
theorem ordBody_length (o : Ord) : (ordBody o).length = o.data.length + 5 := by
  simp [ordBody, be_length]
  omega
theorem ordBytes_length (o : Ord) : (ordBytes o).length = o.data.length + 7 := by
  simp [ordBytes, ordBody_length, be_length]
theorem flag_le (b : Bool) (n : Nat) : flag b n ≤ n := by cases b <;> simp [flag]
theorem flag_or (b : Bool) (n : Nat) : flag b n = 0 ∨ flag b n = n := by cases b <;> simp [flag]
end Go.Proofs.Ytppmdamcdhmcpaa
namespace Go.Proofs.Ytppmdamcdhmcpaa
set_option linter.unusedSimpArgs false
set_option linter.unusedVariables false
open Go.RowKit

def freeO (h : Hnd) : Ord := ⟨h.craft, true, true, 0, [0]⟩
def freeH (h : Hnd) : Hnd := { h with timer := 0, tries := 0, since := h.pause, halt := 0 }
def freeS (h : Hnd) : Hnd × List (List UInt8) × Int := if h.halt = 15 ∨ h.halt = 19 then (freeH h, [(ordEnc (freeO h)).1], 0) else (h, [], 6)
def freeR (h : Hnd) : Hnd × List (List UInt8) × Int := if handOk h then freeS h else (Hnd.zero, [], 11)
theorem ordEnc_size (o : Ord) : (ordEnc o).1.length ≤ 1024 := by
  unfold ordEnc
  split
  · rename_i h
    unfold ordMay at h
    by_cases h1 : ordRange o
    · rw [if_pos h1] at h
      by_cases h2 : ordKind o
      · rw [if_pos h2] at h
        by_cases h3 : ordSize o
        · show (ordBytes o).length ≤ 1024
          rw [ordBytes_length]
          have := h3.2
          omega
        · rw [if_neg h3] at h; cases h
      · rw [if_neg h2] at h; cases h
    · rw [if_neg h1] at h; cases h
  · simp
theorem fits_nil : RowsFit [] 0 := ⟨by decide, fun l hl => by cases hl⟩
theorem freeR_fits {h : Hnd} (f1 : RowsFit h.sent h.sent.length) (f2 : RowsFit h.asked h.asked.length) :
    RowsFit (freeR h).1.sent (freeR h).1.sent.length ∧ RowsFit (freeR h).1.asked (freeR h).1.asked.length ∧ RowsFit (freeR h).2.1 (freeR h).2.1.length := by
  unfold freeR freeS
  split
  · split
    · refine ⟨f1, f2, (show (1 : Nat) ≤ 5864062014634 by decide), fun l hl => ?_⟩
      obtain rfl : l = (ordEnc (freeO h)).1 := by simpa using hl
      have := ordEnc_size (freeO h)
      omega
    · exact ⟨f1, f2, fits_nil⟩
  · exact ⟨fits_nil, fits_nil, fits_nil⟩
/-- One row alone in a new array. -/
theorem OwnRs.one {w : World} {base : Nat} {A : Option Addr} {l : List UInt8} {n c : Nat} (h : Own w base 5 1 A n c (bvs l)) (hn : l.length = n) (hb : base ≤ w.heap.size) :
    OwnRs (w.alloc (.cells #[.slice A n c] 26)) base (some ⟨w.heap.size, 0, none⟩) 1 1 [⟨l, A, c⟩] := by
  subst hn
  refine ⟨Own.of_block (heap_alloc_new w _) hb rfl (Nat.le_refl _) (by unfold maxLen; omega) (by simp) (fun i u hu => by simpa [rowvs, rowv] using hu), ?_, ?_⟩
  · intro i r hr
    rcases i with _ | i
    · simp at hr
      subst hr
      exact h.alloc _
    · simp at hr
  · intro i j r s hij hr hs
    have h1 : i < 1 := by simpa using (List.getElem?_eq_some_iff.1 hr).1
    have h2 : j < 1 := by simpa using (List.getElem?_eq_some_iff.1 hs).1
    omega
theorem touch_one {w : World} {A : Option Addr} {l : List UInt8} {c q : Nat} (h : Touch (some ⟨w.heap.size, 0, none⟩) [⟨l, A, c⟩] q) : q = w.heap.size ∨ blk A = some q := by
  rcases h with e | ⟨i, r, hr, e⟩
  · left
    exact (Option.some.inj e).symm
  · right
    rcases i with _ | i
    · simp at hr
      subst hr
      exact e
    · simp at hr
end Go.Proofs.Ytppmdamcdhmcpaa
