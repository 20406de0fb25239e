import Derived.Test.YtogiabligehfaaaSame
import Derived.Test.YtogiabligehfaaaBe
import Derived.Test.YtogiabligehfaaaMore
import Derived.Deep.RegionLaw
namespace Go.Proofs.Ytogiabligehfaaa
set_option linter.unusedSimpArgs false
set_option linter.unusedVariables false
open Go.RowKit

/-- What the closure 'put' leaves: the bytes behind those that were there. -/
def PutRes (N base B : Nat) (m : Nat) (l : List UInt8) (w w' : World) (e : Ending) : Prop :=
  ∃ A c, e = .returned (.tuple #[]) ∧ Blk w' B 23 #[.slice A m c] ∧ Own w' base 5 1 A m c (bvs l) ∧ blk A ≠ some B ∧ Below N w w'

set_option maxHeartbeats 1600000 in
set_option maxRecDepth 100000 in
theorem put_any (N base B : Nat) (n : Int) (k : Nat) (A : Option Addr) (m c : Nat) (l : List UInt8) (w : World) (hB : Blk w B 23 #[.slice A m c]) (hO : Own w base 5 1 A m c (bvs l)) (hne : blk A ≠ some B)
    (hNB : N ≤ B) (hNb : N ≤ base) (hb : base ≤ w.heap.size) (hm : m + k ≤ 140737488351300) (hk : k ≤ 8) :
    Calls Try.prog 58 #[.int .i64 n, .int .i64 k, .pointer (some ⟨B, 0, none⟩)] w fun e w' => PutRes N base B (m + k) (l ++ be n k) w w' e := by
  obtain ⟨i0, hi0, hz0, hz1, hz2⟩ := info_parts u8info
  go_enter Try.func58, Try.ntmps58
  go_wp2_with fail
  go_loopw [5] (fun i wr => ∃ (j : Nat) (pre : List UInt8) (A : Option Addr) (c : Nat), j ≤ k ∧ i = .int .i64 ((j : Int) - 1) ∧ be n k = pre ++ be n j ∧ pre.length = k - j ∧ Blk wr B 23 #[.slice A (m + pre.length) c] ∧ Own wr base 5 1 A (m + pre.length) c (bvs (l ++ pre)) ∧ blk A ≠ some B ∧ Below N w wr) (fun i _ => (intOf i + 1).toNat)
  case atStart => exact ⟨k, [], A, c, Nat.le_refl _, rfl, rfl, by simp, hB, by simpa using hO, hne, Below.refl _ _⟩
  case round =>
    obtain ⟨j, pre, A1, c1, hj, rfl, hbe, hpl, hBr, hOr, hner, hBel⟩ := hrel
    have HBE := Lib.hid hbe
    have HPL := Lib.hid hpl
    have hple : pre.length ≤ k := by omega
    clear hbe hpl hB hO hne
    obtain ⟨cB, fB⟩ := hBr.one
    by_cases h0 : j = 0
    · subst h0
      go_wp2
      go_end0
      have e1 := HPL.out
      have e2 := HBE.out
      rw [show be n 0 = [] from rfl, List.append_nil] at e2
      rw [e2]
      rw [show m + k = m + pre.length from by omega]
      exact ⟨A1, c1, rfl, hBr, hOr, hner, hBel⟩
    · obtain ⟨j, rfl⟩ : ∃ j', j = j' + 1 := ⟨j - 1, by omega⟩
      rw [show (((j + 1 : Nat) : Int) - 1) = (j : Int) from by omega]
      have w0 : IntKind.i64.wrap (8 * (j : Int)) = 8 * (j : Int) := IntWalk.i64_in _ (by omega)
      have t0 : (8 * (j : Int)).toNat = 8 * j := by omega
      have b0 : (0 : Int) ≤ 8 * (j : Int) := by omega
      have b1 : (8 : Int) * (j : Int) < 64 := by omega
      have hsz := hBel.size
      have aB : ∀ o, (wr.alloc o).cell? ⟨B, 0, none⟩ = some (.slice A1 (m + pre.length) c1) := fun o => (hBr.alloc o).cell' rfl
      have q2 : m + pre.length + 1 ≤ maxLen := by unfold maxLen; omega
      have q3 : (m + pre.length + 1) * 1 ≤ 140737488355328 := by omega
      go_wp2_with fail
      go_region_law (refine step_append_Own _ rfl (.tmp 12) (.tmp 18) 23 rfl base 5 i0 _ 1 1 Try.underlying23 hi0 hz0 hz1 hz2 rfl A1 (m + pre.length) c1 (bvs (l ++ pre)) (by simp [Act.eval, Act.put]) (hOr.alloc _).drew (some ⟨wr.heap.size, 0, none⟩) 1 1 [.int .u8 (IntKind.u8.wrap (n / 2 ^ (8 * j)))] (by simp [Act.eval, Act.put]) rfl (Rd.drew (Rd.of_block (heap_alloc_new wr _) (fun i u h => by simpa using h))) (fun u hu => by simp at hu; subst hu; rfl) q2 q3 (by simp; omega) ?_; intro A' c' w1 hO1 hg1 hor; have hBw := ((hBr.alloc (.cells #[.int .u8 (IntKind.u8.wrap (n / 2 ^ (8 * j)))] 5)).drew).grown hg1 (fun e => hner e.symm); obtain ⟨cB1, fB1⟩ := hBw.one)
      all_goals
        have hne' : blk A' ≠ some B := by
          have hBlt := hBr.lt
          rcases hor with h | h
          · rw [h]; exact hner
          · rw [h]
            intro e
            injection e with e
            simp at e
            omega
        have hBw' := hBw.set_ 0 (.slice A' (m + pre.length + 1) c')
        have hOw := hO1.setFar (p := ⟨B, 0, none⟩) hne' (.slice A' (m + pre.length + 1) c')
        have hBl : Below N w (w1.setCell ⟨B, 0, none⟩ (.slice A' (m + pre.length + 1) c')) :=
          (((hBel.alloc (by omega) _).drew).grown hg1 (by simp; omega) (fun q hq => by have := (hOr.lt q hq).1; omega)).setCell hNB _
        clear cB1 fB1 aB cB fB w0 t0 q2 q3 hBw hO1 hg1
        go_wp2
        go_roundw
        case rel =>
          refine ⟨j, pre ++ [bOf (n / 2 ^ (8 * j))], A', c', by omega, rfl, by rw [HBE.out]; simp [be], by simp [HPL.out]; omega, ?_, ?_, hne', hBl⟩
          · simpa [Nat.add_assoc] using hBw'
          · have e : bvs (l ++ (pre ++ [bOf (n / 2 ^ (8 * j))])) = bvs (l ++ pre) ++ [.int .u8 (IntKind.u8.wrap (n / 2 ^ (8 * j)))] := by rw [bOf_wrap]; simp [bvs, bv]
            rw [e, List.length_append]
            simpa [Nat.add_assoc] using hOw
        case measure => simp [intOf]

theorem put_n (N base B : Nat) (n : Int) (kk : Int) (k : Nat) (hkk : kk = (k : Int)) (A : Option Addr) (m c : Nat) (l : List UInt8) (w : World) (hB : Blk w B 23 #[.slice A m c]) (hO : Own w base 5 1 A m c (bvs l)) (hne : blk A ≠ some B)
    (hNB : N ≤ B) (hNb : N ≤ base) (hb : base ≤ w.heap.size) (hm : m + k ≤ 140737488351300) (hk : k ≤ 8) :
    Calls Try.prog 58 #[.int .i64 n, .int .i64 kk, .pointer (some ⟨B, 0, none⟩)] w fun e w' => PutRes N base B (m + k) (l ++ be n k) w w' e := by
  subst hkk
  exact put_any N base B n k A m c l w hB hO hne hNB hNb hb hm hk
end Go.Proofs.Ytogiabligehfaaa
