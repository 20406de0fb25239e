/-
  The document's Times, of polynomials that are not too long.
-/
import Derived.Test.YtolcaolmdfbfhaaOverR
namespace Go.Proofs.Ytolcaolmdfbfhaa
set_option linter.unusedSimpArgs false
set_option linter.unusedVariables false
open Go.RowKit

theorem trim_n (base : Nat) (A : Option Addr) (l : List UInt8) (n c : Nat) (w : World) (hO : Own w base 5 1 A n c (bvs l)) (hn : n ≤ 140737488351300) :
    Calls Try.prog 87 #[.slice A n c] w fun e w' => ∃ A' c', e = .returned (.slice A' (trimL l).length c') ∧ Own w' w.heap.size 5 1 A' (trimL l).length c' (bvs (trimL l)) ∧ Below w.heap.size w w' := by
  have hl := hO.len
  rw [bvs_length] at hl
  exact trim_any A l n c w (by omega) hO.rd hO.le hn
set_option maxHeartbeats 3200000 in
set_option maxRecDepth 100000 in
theorem times_ref_good (A B : Option Addr) (p q : List UInt8) (n m c d : Nat) (w : World) (hp : p.length = n) (hq : q.length = m) (ra : Rd w A (bvs p)) (rb : Rd w B (bvs q)) (hn : n ≤ 140737488351300) (hm : m ≤ 140737488351300) (h1 : n ≤ 512) (h2 : m ≤ 512) :
    Calls Try.prog 71 #[.slice A n c, .slice B m d] w fun e w' => BytesRes w w' (trimL (timesTo p q n), 0) e := by
  obtain ⟨i0, hi0, hz0, hz1, hz2⟩ := info_parts u8info
  have T0 : timesTo p q 0 = List.replicate (n + m) 0 := by show List.replicate (p.length + q.length) 0 = _; rw [hp, hq]
  have HT0 := Lib.hid T0
  have HP := Lib.hid hp
  have HQ := Lib.hid hq
  have hmk := run_make_rowN (P := Try.prog) 22 5 i0 (.int .u8 0) Try.underlying22 hi0 hz0 .i64 .i64 (n + m) (n + m) (Nat.le_refl _) (by rw [hz2]; omega) (by omega)
  have ec : (((n + m : Nat)) : Int) = (n : Int) + (m : Int) := by omega
  rw [ec] at hmk
  clear ec hp hq T0
  have d1 : decide ((512 : Int) < (n : Int)) = false := by simp; omega
  have d2 : decide ((512 : Int) < (m : Int)) = false := by simp; omega
  go_enter Try.func71, Try.ntmps71
  go_wp2_with fail
  obtain ⟨W1, hW1⟩ : ∃ W : World, W = w.alloc (.cells (madeCells #[.int .u8 0] (n + m)) 5) := ⟨_, rfl⟩
  have hO1 : Own W1 w.heap.size 5 1 (some ⟨w.heap.size, 0, none⟩) (n + m) (n + m) (bvs (List.replicate (n + m) 0)) := by rw [hW1]; exact Own.made8 w (n + m) (n + m) (Nat.le_refl _) (by unfold maxLen; omega)
  have hB1 : Below w.heap.size w W1 := by rw [hW1]; exact (by repeat (first | with_reducible exact Below.refl _ _ | with_reducible assumption | with_reducible refine below_drewN ?_ _ | with_reducible refine Below.drew ?_ | with_reducible refine Below.alloc ?_ ?_ _ | with_reducible refine Below.setCell ?_ ?_ _ | with_reducible exact Nat.le_refl _ | (simp; omega) | (simp; done)))
  have hZ1 : w.heap.size + 1 ≤ W1.heap.size := by rw [hW1]; simp
  rw [← hW1]
  clear hW1 hmk
  go_loopw [7] (fun i wr => ∃ x : Nat, x ≤ n ∧ i = .int .i64 x ∧ Own wr w.heap.size 5 1 (some ⟨w.heap.size, 0, none⟩) (n + m) (n + m) (bvs (timesTo p q x)) ∧ Below w.heap.size w wr) (fun i _ => n - (intOf i).toNat)
  case atStart => exact ⟨0, by omega, by simp, by rw [HT0.out]; exact hO1, hB1⟩
  case round =>
    obtain ⟨x, hx, rfl, hO, hB⟩ := hrel
    clear hO1 hB1 hZ1
    by_cases h5 : x < n
    · have HS : Hid (timesTo p q (x + 1) = addTo (timesTo p q x) q (p.getD x 0) x m) := by show addTo _ _ _ _ q.length = _; rw [HQ.out]
      obtain ⟨b1, o1, rfl, _⟩ := (ra.below hB).byteD (k := x) (by rw [HP.out]; exact h5)
      generalize hs : timesTo p q x = s at *
      generalize hy : p.getD x 0 = y at *
      have HYp := Lib.hid hy
      clear hs hy
      go_wp2_with fail
      go_loopw [8] (fun j wr => ∃ z : Nat, z ≤ m ∧ j = .int .i64 z ∧ Own wr w.heap.size 5 1 (some ⟨w.heap.size, 0, none⟩) (n + m) (n + m) (bvs (addTo s q y x z)) ∧ Below w.heap.size w wr) (fun j _ => m - (intOf j).toNat)
      case atStart => exact ⟨0, by omega, by simp, hO, hB⟩
      case round =>
        obtain ⟨z, hz, rfl, hOr, hBr⟩ := hrel
        clear hO hB
        by_cases h6 : z < m
        · have hc1 := (ra.below hBr).byteE (k := x) (by rw [HP.out]; exact h5)
          rw [HYp.out] at hc1
          obtain ⟨b2, o2, rfl, hc2⟩ := (rb.below hBr).byteD (k := z) (by rw [HQ.out]; exact h6)
          obtain ⟨v, hv, hc3⟩ := hOr.byteAt (k := x + z) (by omega)
          have hf3 := hOr.frozen (0 + (x + z))
          have HV : Hid ((addTo s q y x z).getD (x + z) 0 = v) := by show _ = _; simp [List.getD, hv]
          have HA : Hid (addTo s q y x (z + 1) = (addTo s q y x z).set (x + z) (v ^^^ mulB y (q.getD z 0))) := by show (addTo s q y x z).set (x + z) (_ ^^^ _) = _; rw [HV.out]
          generalize q.getD z 0 = u at *
          have ex := xor_u8 v (mulB y u)
          have ne1 : ¬ (b1 = w.heap.size) := fun e => by have := World.block_lt_of_cell? _ _ (ra.byteE (k := x) (by rw [HP.out]; exact h5)); simp only at this; omega
          have ne2 : ¬ (b2 = w.heap.size) := fun e => by have := World.block_lt_of_cell? _ _ (rb.byteE (k := z) (by rw [HQ.out]; exact h6)); simp only at this; omega
          have gy := byte_lt y
          have gu := byte_lt u
          have gv := byte_lt v
          rw [Nat.zero_add] at hc3 hf3
          clear hv HV
          go_wp2_with fail
          have w0 : IntKind.i64.wrap ((x : Int) + (z : Int)) = (x : Int) + (z : Int) := IntWalk.i64_in _ (by omega)
          have t0 : ((x : Int) + (z : Int)).toNat = x + z := by omega
          have p0 : (0 : Int) ≤ (x : Int) + (z : Int) := by omega
          have p1 : (x : Int) + (z : Int) < (n : Int) + (m : Int) := by omega
          go_region_law (first | (go_simp; go_at_call 89; refine (rmulB_o _ _ y u _ rfl rfl).mono ?_; rintro e w' ⟨rfl, rfl⟩))
          all_goals clear w0 t0 p0 p1 ex
          all_goals go_wp2
          all_goals go_roundw
          all_goals first
            | (simp [intOf]; omega)
            | (refine ⟨z + 1, by omega, by go_num, ?_, (hBr.setCell (Nat.le_refl _) _).drew⟩
               rw [HA.out, ← UInt8.toNat_xor]
               have := hOr.setB (k := x + z) (by omega) (v ^^^ mulB y u)
               rw [Nat.zero_add] at this
               exact this.drew)
        · obtain rfl : z = m := by omega
          go_wp2_with fail
          go_roundw
          case rel => exact ⟨x + 1, by omega, by go_num, by rw [HS.out]; exact hOr, hBr⟩
          case measure => simp [intOf]; omega
    · obtain rfl : x = n := by omega
      go_wp2_with fail
      refine (trim_n w.heap.size _ _ (x + m) (x + m) wr hO (by omega)).mono ?_
      rintro e w4 ⟨A', c', rfl, hO4, hb4⟩
      go_wp2_with fail
      go_ret2
      exact ⟨A', c', by simp, hO4.mono hB.size, hB.trans (hb4.mono hB.size)⟩
end Go.Proofs.Ytolcaolmdfbfhaa
