/-
  The program's Weave.
-/
import Derived.Test.YtolcaolmdfbfhaaSolE
import Derived.Test.YtolcaolmdfbfhaaWeaveP
import Derived.Test.YtolcaolmdfbfhaaZeros
namespace Go.Proofs.Ytolcaolmdfbfhaa
set_option linter.unusedSimpArgs false
set_option linter.unusedVariables false
open Go.RowKit

set_option maxHeartbeats 3200000 in
set_option maxRecDepth 100000 in
theorem row_any (A : Option Addr) (l : List UInt8) (n c d j k : Nat) (w : World) (hl : l.length = n) (ha : Rd w A (bvs l)) (hn : n = k * d) (hj : j < d) (hd : d ≤ 8) (h47 : n ≤ 1048576) :
    Calls Try.prog 113 #[.slice A n c, .int .i64 (d : Int), .int .i64 (j : Int)] w fun e w' => ∃ A' c', e = .returned (.slice A' k c') ∧ Own w' w.heap.size 5 1 A' k c' (bvs (rowL l d j k)) ∧ Below w.heap.size w w' := by
  obtain ⟨i0, hi0, hz0, hz1, hz2⟩ := info_parts u8info
  have HL := Lib.hid hl
  have HN := Lib.hid hn
  have hkn : k ≤ n := by rw [hn]; exact Nat.le_mul_of_pos_right k (by omega)
  clear hl hn
  go_enter Try.func113, Try.ntmps113
  go_wp2_with fail
  go_loopw [7, 8] (fun v iv wr => ∃ (t I : Nat) (A1 : Option Addr) (c1 : Nat), t ≤ k ∧ Hid (I = t * d + j) ∧ I ≤ n + 8 ∧ iv = .int .i64 (I : Int) ∧ v = .slice A1 t c1 ∧ Own wr w.heap.size 5 1 A1 t c1 (bvs (rowL l d j t)) ∧ Below w.heap.size w wr) (fun _ iv _ => n + 8 - (intOf iv).toNat)
  case atStart => exact ⟨0, j, none, 0, by omega, by show _ = _; omega, by omega, rfl, rfl, Own.none_ _ _ _ _, Below.refl _ _⟩
  case round =>
    obtain ⟨t, I, A1, c1, ht, HI, hI, rfl, rfl, hO, hB⟩ := hrel
    by_cases hlt : t < k
    · have hIn : I < n := by rw [HI.out, HN.out]; exact place_lt hj hlt
      have HI2 : Hid (I + d = (t + 1) * d + j) := by show _ = _; rw [HI.out, Nat.succ_mul]; omega
      obtain ⟨b, o, rfl, hc⟩ := (ha.below hB).byteD (k := I) (by rw [HL.out]; exact hIn)
      have HS : Hid (rowL l d j (t + 1) = rowL l d j t ++ [l.getD I 0]) := by show _ = _; rw [rowL_next, HI.out]
      have hIi : (I : Int) < (n : Int) := by omega
      generalize l.getD I 0 = z at *
      have q2 : t + 1 ≤ maxLen := by unfold maxLen; omega
      have q3 : (t + 1) * 1 ≤ 140737488355328 := by omega
      have hOn := hO.alloc (.cells #[.int .u8 (z.toNat : Int)] 5)
      have hRn := Rd_one wr (.int .u8 (z.toNat : Int)) 5
      have hbs : w.heap.size ≤ (wr.alloc (.cells #[.int .u8 (z.toNat : Int)] 5)).heap.size := by have := hB.size; simp; omega
      go_wp2_with (at_builtin; refine wpList_append_Own _ rfl (.tmp 17) (.tmp 22) 22 rfl w.heap.size 5 i0 _ 1 1 Try.underlying22 hi0 hz0 hz1 hz2 rfl A1 t c1 (bvs (rowL l d j t)) (by simp [Act.eval, Act.put]) hOn (some ⟨wr.heap.size, 0, none⟩) 1 1 [.int .u8 (z.toNat : Int)] (by simp [Act.eval, Act.put]) rfl hRn (fun u hu => by simp at hu; subst hu; rfl) q2 q3 hbs ?_; intro A2 c2 w2 hO2 hg2 hor2)
      rw [show [Value.int .u8 (z.toNat : Int)] = bvs [z] from rfl, ← bvs_append] at hO2
      go_roundw
      case rel => exact ⟨t + 1, I + d, A2, c2, by omega, HI2, by omega, by go_num, rfl, by rw [HS.out]; exact hO2, (hB.alloc hB.size _).grown hg2 hbs (fun q hq => (hO.lt q hq).1)⟩
      case measure => simp [intOf]; omega
    · obtain rfl : t = k := by omega
      have hIn : n ≤ I := by rw [HI.out, HN.out]; omega
      have hIi : decide (I < n) = false := by simp; omega
      go_wp2
      go_ret
      exact ⟨A1, c1, rfl, hO, hB⟩

set_option maxHeartbeats 6400000 in
set_option maxRecDepth 100000 in
theorem pweave_good (A : Option Addr) (l : List UInt8) (n c d k ck : Nat) (w : World) (hl : l.length = n) (ha : Rd w A (bvs l)) (hn : n = k * d) (hd1 : 1 ≤ d) (hd : d ≤ 8) (hk : 1 ≤ k) (h1 : 1 ≤ ck) (h64 : ck ≤ 64) (h255 : k + ck ≤ 255) :
    Calls Try.prog 60 #[.slice A n c, .int .i64 (d : Int), .int .i64 (ck : Int)] w fun e w' => BytesRes w w' (progW l d k ck d, 0) e := by
  obtain ⟨i0, hi0, hz0, hz1, hz2⟩ := info_parts u8info
  have HL := Lib.hid hl
  have HN := Lib.hid hn
  have hn2040 : n ≤ 2040 := by rw [hn]; exact Nat.le_trans (Nat.mul_le_mul (show k ≤ 255 by omega) hd) (by omega)
  have hn0 : 0 < n := by rw [hn]; exact Nat.mul_pos (by omega) (by omega)
  have hm0 : (n : Int) % (d : Int) = 0 := by rw [hn, Int.natCast_mul]; exact Int.mul_emod_left _ _
  have hq0 : (n : Int) / (d : Int) = (k : Int) := by rw [hn, Int.natCast_mul]; exact Int.mul_ediv_cancel _ (by omega)
  have hz := fun w => psized_any ((k : Int) + (ck : Int)) (ck : Int) w
  rw [sizedB_yes ⟨by omega, by omega, by omega, by omega⟩] at hz
  have HZ := Lib.hid hz
  have hdc : d * ck ≤ 512 := Nat.le_trans (Nat.mul_le_mul hd h64) (by omega)
  obtain ⟨N, hN⟩ : ∃ N, N = n + d * ck := ⟨_, rfl⟩
  have HNN := Lib.hid hN
  have hNd : Hid (N = (k + ck) * d) := by show _ = _; rw [hN, hn, Nat.add_mul, Nat.mul_comm d ck]
  have hN2 : N ≤ 2552 := by omega
  have hmk := run_make_rowN (P := Try.prog) 22 5 i0 (.int .u8 0) Try.underlying22 hi0 hz0 .i64 .i64 N N (Nat.le_refl _) (by rw [hz2]; omega) (by omega)
  have ec : ((N : Nat) : Int) = (n : Int) + (d : Int) * (ck : Int) := by rw [hN, Int.natCast_add, Int.natCast_mul]
  rw [ec] at hmk
  have m0 : (0 : Int) ≤ (d : Int) * (ck : Int) := by rw [← Int.natCast_mul]; omega
  have m1 : (d : Int) * (ck : Int) ≤ 512 := by rw [← Int.natCast_mul]; omega
  have d0 : ((n : Int) == 0) = false := by simp; omega
  have d1 : decide ((d : Int) < 1) = false := by simp; omega
  have d2 : decide ((8 : Int) < (d : Int)) = false := by simp; omega
  have dz : ¬ ((d : Int) = 0) := by omega
  clear hl hn hN ec hz
  go_enter Try.func60, Try.ntmps60
  go_wp2_with fail
  refine (HZ.out _).mono ?_
  rintro e _ ⟨rfl, rfl⟩
  clear hm0 hq0
  go_wp2_with fail
  obtain ⟨W1, hW1⟩ : ∃ W : World, W = w.alloc (.cells (madeCells #[.int .u8 0] N) 5) := ⟨_, rfl⟩
  have hO1 : Own W1 w.heap.size 5 1 (some ⟨w.heap.size, 0, none⟩) N N (bvs (progW l d k ck 0)) := by
    rw [hW1]
    show Own _ _ _ _ _ _ _ (bvs (List.replicate (k * d + d * ck) 0))
    rw [← HN.out, ← HNN.out]
    exact Own.made8 w N N (Nat.le_refl _) (by unfold maxLen; omega)
  have hB1 : Below w.heap.size w W1 := by rw [hW1]; exact (by repeat (first | with_reducible exact Below.refl _ _ | with_reducible assumption | with_reducible refine below_drewN ?_ _ | with_reducible refine Below.drew ?_ | with_reducible refine Below.alloc ?_ ?_ _ | with_reducible refine Below.setCell ?_ ?_ _ | with_reducible exact Nat.le_refl _ | (simp; omega) | (simp; done)))
  rw [← hW1]
  clear hW1 hmk m0 m1
  go_loopw [49] (fun jv wr => ∃ J : Nat, J ≤ d ∧ jv = .int .i64 (J : Int) ∧ Own wr w.heap.size 5 1 (some ⟨w.heap.size, 0, none⟩) N N (bvs (progW l d k ck J)) ∧ Below w.heap.size w wr) (fun jv _ => d - (intOf jv).toNat)
  case atStart => exact ⟨0, Nat.zero_le _, rfl, hO1, hB1⟩
  case round =>
    obtain ⟨J, hJ, rfl, hO, hB⟩ := hrel
    clear hO1 hB1
    by_cases hlt : J < d
    · have hlti : (J : Int) < (d : Int) := by omega
      have hgw0 := hO.lt w.heap.size rfl
      have HS : Hid (progW l d k ck (J + 1) = colTo (encL (rowL l d J k) ck) d J 0 (progW l d k ck J) (k + ck)) := Lib.hid rfl
      have HWL := Lib.hid (encL_len (rowL l d J k) (c := ck) (by omega))
      rw [rowL_len] at HWL
      go_wp2_with fail
      refine (row_any A l n c d J k wr HL.out (ha.below hB) HN.out hlt hd (by omega)).mono ?_
      rintro e w2 ⟨A2, c2, rfl, hO2, hb2⟩
      replace hO := hO.step hb2
      have s2 := hb2.size
      replace hB := nextB hB hB.size hb2
      go_wp2_with fail
      refine (encode_any A2 (rowL l d J k) k c2 ck w2 (rowL_len _ _ _ _) hO2.rd h1 h64 (by omega)).mono ?_
      rintro e w3 ⟨A3, c3, rfl, hO3, hb3⟩
      replace hO := hO.step hb3
      have lt3 := hO3.lt
      have s3 := hb3.size
      replace hB := nextB hB hB.size hb3
      have hgw := hO.lt w.heap.size rfl
      obtain ⟨b3, o3, rfl, _, _⟩ := hO3.form (by have := hO3.le; omega)
      have hne : ¬ b3 = w.heap.size := by have := lt3 b3 rfl; omega
      replace hO3 := hO3.rd
      generalize encL (rowL l d J k) ck = ws at *
      generalize hP : progW l d k ck J = P at *
      have HPe := Lib.hid hP
      clear hP hb2 hb3 hO2 lt3
      go_wp2_with fail
      go_loopw [59] (fun iv wr => ∃ i : Nat, i ≤ k + ck ∧ iv = .int .i64 (i : Int) ∧ Own wr w.heap.size 5 1 (some ⟨w.heap.size, 0, none⟩) N N (bvs (colTo ws d J 0 P i)) ∧ Rd wr (some ⟨b3, o3, none⟩) (bvs ws) ∧ Below w.heap.size w wr) (fun iv _ => k + ck - (intOf iv).toNat)
      case atStart => exact ⟨0, Nat.zero_le _, rfl, hO, hO3, hB⟩
      case round =>
        obtain ⟨i, hi, rfl, hO', hR', hB'⟩ := hrel
        clear hO hO3 hB
        by_cases h6 : i < k + ck
        · have h6i : (i : Int) < (k : Int) + (ck : Int) := by omega
          obtain ⟨p, hp⟩ : ∃ p, p = i * d := ⟨_, rfl⟩
          have hpi : (i : Int) * (d : Int) = (p : Int) := by rw [hp, Int.natCast_mul]
          have hpJ : p + J < N := by rw [hNd.out, hp]; exact place_lt hlt h6
          have hcr := hR'.byteE (k := i) (by rw [HWL.out]; exact h6)
          obtain ⟨y, hy, hcw⟩ := hO'.byteAt (k := p + J) hpJ
          have hfw := hO'.frozen (0 + (p + J))
          rw [Nat.zero_add] at hcw hfw
          have HC : Hid (colTo ws d J 0 P (i + 1) = (colTo ws d J 0 P i).set (p + J) (ws.getD i 0)) := by show (colTo ws d J 0 P i).set ((0 + i) * d + J) (ws.getD (0 + i) 0) = _; rw [Nat.zero_add, hp]
          generalize ws.getD i 0 = z at *
          have hpn : (p : Int) + (J : Int) < (n : Int) + (d : Int) * (ck : Int) := by rw [← Int.natCast_mul]; have := HNN.out; omega
          have hpN : (p : Int) + (J : Int) < (N : Int) := by omega
          have gz := byte_lt z
          clear hy hp
          go_wp2
          go_roundw
          case rel => exact ⟨i + 1, by omega, by go_num, by (
            rw [HC.out]
            have := hO'.setB (k := p + J) hpJ z
            rw [Nat.zero_add] at this
            exact this), hR'.setCell (fun e => hne (blk_lit e).symm) _, hB'.setCell (Nat.le_refl _) _⟩
          case measure => simp [intOf]; omega
        · obtain rfl : i = k + ck := by omega
          rw [← HS.out] at hO'
          have h6f : decide ((k : Int) + (ck : Int) < (k : Int) + (ck : Int)) = false := by simp
          go_wp2_with fail
          go_roundw
          case rel => exact ⟨J + 1, by omega, by go_num, hO', hB'⟩
          case measure => simp [intOf]; omega
    · obtain rfl : J = d := by omega
      have hpl : Hid ((progW l J k ck J).length = N) := by show _ = _; rw [progW_len, hNd.out]
      go_wp2
      go_ret2
      refine ⟨some ⟨w.heap.size, 0, none⟩, N, ?_, ?_, hB⟩
      · show _ = Ending.returned (.tuple #[.slice _ (progW l J k ck J).length _, _])
        rw [hpl.out]
        rfl
      · show Own _ _ _ _ _ (progW l J k ck J).length _ _
        rw [hpl.out]
        exact hO
end Go.Proofs.Ytolcaolmdfbfhaa
