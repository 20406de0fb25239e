/-
  
-/
import Derived.Test.YtianombjgdmbeaaMDeliverDecodes2
namespace Go.Proofs.Ytianombjgdmbeaa
set_option linter.unusedSimpArgs false
set_option linter.unusedVariables false
open Go.RowKit

set_option maxHeartbeats 800000 in
set_option maxRecDepth 100000 in
/-- Bytes are written over by their owner, and grown: only the row that holds them turns. -/
theorem spoil_any (base : Nat) (A : Option Addr) (n c : Nat) (xs : List UInt8) (w : World) (hO : Own w base 5 1 A n c (bvs xs)) (hn : n ≤ 140737488351300) (hbase : base ≤ w.heap.size) :
    Calls Try.prog 20 #[.slice A n c] w fun e w' => e = .returned (.tuple #[]) ∧ w.grownBy w' (blk A) := by
  obtain ⟨i0, hi0, hz0, hz1, hz2⟩ := info_parts u8info
  go_enter Try.func20, Try.ntmps20
  go_wp2_with fail
  go_loopw [2] (fun i wr => ∃ (k : Nat) (ys : List UInt8), k ≤ n ∧ i = .int .i64 k ∧ Own wr base 5 1 A n c (bvs ys) ∧ w.grownBy wr (blk A)) (fun i _ => n - (intOf i).toNat)
  case atStart => exact ⟨0, xs, by omega, by simp, hO, World.grownBy.refl _ _⟩
  case round =>
    obtain ⟨k, ys, hk, rfl, hO', hg⟩ := hrel
    clear hO
    by_cases h5 : k < n
    · have hle := hO'.le
      obtain ⟨g, off, rfl, _, _⟩ := hO'.form (by omega)
      obtain ⟨x, hx, hc⟩ := hO'.byteAt h5
      have hf := hO'.frozen (off + k)
      have Hx := Lib.hid hx
      clear hx
      have hx256 := byte_lt x
      go_wp2
      go_roundw
      case rel =>
        refine ⟨k + 1, ys.set k (x ^^^ 90), by omega, by go_num, ?_, grown_setCell (p := ⟨g, off + k, none⟩) hg (.inl rfl) _⟩
        have e := xor_u8 x 90
        rw [show ((90 : UInt8).toNat : Int) = 90 from rfl] at e
        rw [e]
        exact hO'.setB h5 _
      case measure => simp [intOf]; omega
    · obtain rfl : k = n := by omega
      clear h5
      have h63 : k + 2 ≤ maxLen := by unfold maxLen; omega
      have hby : (k + 2) * 1 ≤ 140737488355328 := by omega
      have hsz : base ≤ (wr.alloc (.cells #[.int .u8 90, .int .u8 90] 5)).heap.size := by have := hg.size; simp; omega
      have hRn : Rd (wr.alloc (.cells #[.int .u8 90, .int .u8 90] 5)) (some ⟨wr.heap.size, 0, none⟩) (bvs [90, 90]) := Rd.of_block (heap_alloc_new wr _) (fun i u h => by simpa [bvs, bv] using h)
      have hOn := hO'.alloc (.cells #[.int .u8 90, .int .u8 90] 5)
      go_wp2_with (at_builtin; refine wpList_append_Own _ rfl (.tmp 17) (.tmp 18) 23 rfl base 5 i0 _ 1 1 Try.underlying23 hi0 hz0 hz1 hz2 rfl A k c (bvs ys) rfl hOn _ 2 2 (bvs [90, 90]) rfl rfl hRn (bvs_one _) h63 hby hsz ?_; intro A' c' w1 hO1 hg1 hor; have hle1 := hO1.le; obtain ⟨g1, off1, rfl, hb1, _⟩ := hO1.form (by omega); have hO2 : Own w1 base 5 1 (some ⟨g1, off1, none⟩) (k + 2) c' (bvs (ys ++ [90, 90])) := (bvs_append ys [90, 90]) ▸ hO1; obtain ⟨x1, hx1, hc1⟩ := hO2.byteAt (k := 0) (by omega); rw [Nat.add_zero] at hc1; have hf1 := hO1.frozen off1; clear hx1)
      go_end0
      refine ⟨rfl, ?_⟩
      have hg2 := grown_trans (grown_alloc hg _) hg1 (.inl rfl)
      rcases hor with e | e
      · rw [← e] at hg2 ⊢
        exact grown_setCell hg2 (.inl rfl) _
      · have e2 : g1 = (wr.alloc (.cells #[.int .u8 90, .int .u8 90] 5)).heap.size := by simpa [blk] using e
        have hge : w.heap.size ≤ g1 := by have := hg.size; rw [e2]; simp; omega
        have h3 : (blk A = none) ∨ ∃ g, blk A = some g := by cases blk A <;> simp
        rcases h3 with h3 | ⟨g, h3⟩
        · rw [h3] at hg2 ⊢
          exact grownBy_below ((below_of_grown hg2).setCell hge _) _
        · rw [h3] at hg2 ⊢
          exact grown_setCell hg2 (.inr hge) _
end Go.Proofs.Ytianombjgdmbeaa
namespace Go.Proofs.Ytianombjgdmbeaa
set_option linter.unusedSimpArgs false
set_option linter.unusedVariables false
open Go.RowKit

set_option maxHeartbeats 800000 in
set_option maxRecDepth 100000 in
theorem twice_yes (base : Nat) (A B C : Option Addr) (l : List UInt8) (c d f : Nat) (w : World) (hA : Own w base 5 1 A l.length c (bvs l)) (hB : Rd w B (bvs l)) (hC : Rd w C (bvs l))
    (hBA : ∀ k, blk A = some k → blk B ≠ some k) (hCA : ∀ k, blk A = some k → blk C ≠ some k) (hn : l.length ≤ 140737488351300) (hbase : base ≤ w.heap.size) :
    Calls Try.prog 12 #[.slice A l.length c, .slice B l.length d, .slice C l.length f] w fun e w' => e = .returned (.bool true) ∧ w.grownBy w' (blk A) := by
  go_enter Try.func12, Try.ntmps12
  go_wp2_with fail
  refine (sameBytes_yes A C l c f w hA.rd hC).mono ?_
  rintro e w1 ⟨rfl, rfl⟩
  go_wp2_with fail
  refine (sameBytes_yes B C l d f w hB hC).mono ?_
  rintro e w1 ⟨rfl, rfl⟩
  go_wp2_with fail
  refine (spoil_any base A l.length c l w hA hn hbase).mono ?_
  rintro e w1 ⟨rfl, hg⟩
  go_wp2_with fail
  refine (sameBytes_yes B C l d f w1 (hB.grown hg hBA) (hC.grown hg hCA)).mono ?_
  rintro e w2 ⟨rfl, rfl⟩
  go_wp2_with fail
  go_ret
  exact ⟨rfl, hg⟩
end Go.Proofs.Ytianombjgdmbeaa
