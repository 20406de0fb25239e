/-
  A frame taken apart, by the program and by the document, whole.
-/
import Derived.Test.YtolcaolmdfbfhaaUnpR
namespace Go.Proofs.Ytolcaolmdfbfhaa
set_option linter.unusedSimpArgs false
set_option linter.unusedVariables false
open Go.RowKit
theorem UnpRes.open_ {w w' : World} {r : Hd × List UInt8 × Int × Int} {e : Ending} {h : Hd} {d : List UInt8} {s k : Int} (hr : r = (h, d, s, k)) (x : UnpRes w w' r e) :
    ∃ A c, e = .returned (.tuple #[hv h, .slice A d.length c, .int .i64 s, .int .i64 k]) ∧ Own w' w.heap.size 5 1 A d.length c (bvs d) ∧ Below w.heap.size w w' := by
  subst hr
  exact x
theorem unpacked_len (l : List UInt8) : (unpacked l).2.1.length ≤ 140737488351300 := by
  unfold unpacked
  split
  · simp
  · split
    · simp
    · split
      · simp
        omega
      · simp
theorem unpack_any (A : Option Addr) (l : List UInt8) (c : Nat) (w : World) (ha : Rd w A (bvs l)) (hc : l.length ≤ c) (hn : l.length ≤ 140737488351300) :
    Calls Try.prog 16 #[.slice A l.length c] w fun e w' => UnpRes w w' (unpacked l) e := by
  unfold unpacked
  by_cases h1 : l.length < 13 ∨ 2048 < l.length
  · rw [if_pos h1]
    exact unpack_size A _ c w h1 hn
  · rw [if_neg h1]
    obtain ⟨b, off, rfl, _⟩ := ha.byteD (k := 0) (by omega)
    have t2 := take_two (l := l) (by omega)
    have t4 := mid_two (l := l) (by omega)
    by_cases h2 : crc (l.take (l.length - 2)) ≠ numOf (l.drop (l.length - 2))
    · rw [if_pos h2]
      exact unpack_sum b off l _ c w rfl ha hc (by omega) (by omega) h2
    · rw [if_neg h2]
      have h2 : crc (l.take (l.length - 2)) = numOf (l.drop (l.length - 2)) := Classical.not_not.1 h2
      by_cases h3 : headForm (pairOf (l.getD 0 0) (l.getD 1 0)) (pairOf (l.getD 4 0) (l.getD 5 0))
      · rw [if_pos h3]
        first
          | exact unpack_good b off l _ c w rfl ha hc (by omega) (by omega) h2 h3
          | (have := unpack_good b off l _ c w rfl ha hc (by omega) (by omega) h2 (by rw [t2, t4, numOf_two, numOf_two]; exact h3)
             rw [t2, t4, numOf_two, numOf_two] at this
             exact this)
      · rw [if_neg h3]
        first
          | exact unpack_form b off l _ c w rfl ha hc (by omega) (by omega) h2 h3
          | exact unpack_form b off l _ c w rfl ha hc (by omega) (by omega) h2 (by rw [t2, t4, numOf_two, numOf_two]; exact h3)
theorem runp_any (A : Option Addr) (l : List UInt8) (c : Nat) (w : World) (ha : Rd w A (bvs l)) (hc : l.length ≤ c) (hn : l.length ≤ 140737488351300) :
    Calls Try.prog 15 #[.slice A l.length c] w fun e w' => UnpRes w w' (unpacked l) e := by
  unfold unpacked
  by_cases h1 : l.length < 13 ∨ 2048 < l.length
  · rw [if_pos h1]
    exact runp_size A _ c w h1 hn
  · rw [if_neg h1]
    obtain ⟨b, off, rfl, _⟩ := ha.byteD (k := 0) (by omega)
    have t2 := take_two (l := l) (by omega)
    have t4 := mid_two (l := l) (by omega)
    by_cases h2 : crc (l.take (l.length - 2)) ≠ numOf (l.drop (l.length - 2))
    · rw [if_pos h2]
      exact runp_sum b off l _ c w rfl ha hc (by omega) (by omega) h2
    · rw [if_neg h2]
      have h2 : crc (l.take (l.length - 2)) = numOf (l.drop (l.length - 2)) := Classical.not_not.1 h2
      by_cases h3 : headForm (pairOf (l.getD 0 0) (l.getD 1 0)) (pairOf (l.getD 4 0) (l.getD 5 0))
      · rw [if_pos h3]
        first
          | exact runp_good b off l _ c w rfl ha hc (by omega) (by omega) h2 h3
          | (have := runp_good b off l _ c w rfl ha hc (by omega) (by omega) h2 (by rw [t2, t4, numOf_two, numOf_two]; exact h3)
             rw [t2, t4, numOf_two, numOf_two] at this
             exact this)
      · rw [if_neg h3]
        first
          | exact runp_form b off l _ c w rfl ha hc (by omega) (by omega) h2 h3
          | exact runp_form b off l _ c w rfl ha hc (by omega) (by omega) h2 (by rw [t2, t4, numOf_two, numOf_two]; exact h3)
end Go.Proofs.Ytolcaolmdfbfhaa
