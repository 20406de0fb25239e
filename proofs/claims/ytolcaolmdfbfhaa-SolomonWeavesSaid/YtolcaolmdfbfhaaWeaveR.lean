/-
  The document's Weave.
-/
import Derived.Test.YtolcaolmdfbfhaaWeaveG
namespace Go.Proofs.Ytolcaolmdfbfhaa
set_option linter.unusedSimpArgs false
set_option linter.unusedVariables false
open Go.RowKit

set_option maxHeartbeats 6400000 in
set_option maxRecDepth 100000 in
theorem rweave_good (A : Option Addr) (l : List UInt8) (n c d k ck : Nat) (w : World) (hl : l.length = n) (ha : Rd w A (bvs l)) (hn : n = k * d) (hd1 : 1 ≤ d) (hd : d ≤ 8) (hk : 1 ≤ k) (h1 : 1 ≤ ck) (h64 : ck ≤ 64) (h255 : k + ck ≤ 255) :
    Calls Try.prog 59 #[.slice A n c, .int .i64 (d : Int), .int .i64 (ck : Int)] w fun e w' => BytesRes w w' (refW l d k ck d, 0) e := by
  obtain ⟨i0, hi0, hz0, hz1, hz2⟩ := info_parts u8info
  have HL := Lib.hid hl
  have HN := Lib.hid hn
  have hn2040 : n ≤ 2040 := by rw [hn]; exact Nat.le_trans (Nat.mul_le_mul (show k ≤ 255 by omega) hd) (by omega)
  have hn0 : 0 < n := by rw [hn]; exact Nat.mul_pos (by omega) (by omega)
  have hm0 : (n : Int) % (d : Int) = 0 := by rw [hn, Int.natCast_mul]; exact Int.mul_emod_left _ _
  have hq0 : (n : Int) / (d : Int) = (k : Int) := by rw [hn, Int.natCast_mul]; exact Int.mul_ediv_cancel _ (by omega)
  have hz := fun w => rsized_any ((k : Int) + (ck : Int)) (ck : Int) w
  rw [sizedB_yes ⟨by omega, by omega, by omega, by omega⟩] at hz
  have HZ := Lib.hid hz
  have hdc : d * ck ≤ 512 := Nat.le_trans (Nat.mul_le_mul hd h64) (by omega)
  obtain ⟨N, hN⟩ : ∃ N, N = n + d * ck := ⟨_, rfl⟩
  have HNN := Lib.hid hN
  have hNd : Hid (N = (k + ck) * d) := by show _ = _; rw [hN, hn, Nat.add_mul, Nat.mul_comm d ck]
  have hN2 : N ≤ 2552 := by omega
  have hu3 := Try.underlying3
  have m0 : (0 : Int) ≤ (d : Int) * (ck : Int) := by rw [← Int.natCast_mul]; omega
  have m1 : (d : Int) * (ck : Int) ≤ 512 := by rw [← Int.natCast_mul]; omega
  have d0 : ((n : Int) == 0) = false := by simp; omega
  have d1 : decide ((d : Int) < 1) = false := by simp; omega
  have d2 : decide ((8 : Int) < (d : Int)) = false := by simp; omega
  have dz : ¬ ((d : Int) = 0) := by omega
  clear hl hn hN hz
  go_enter Try.func59, Try.ntmps59
  go_wp2_with fail
  refine (HZ.out _).mono ?_
  rintro e _ ⟨rfl, rfl⟩
  clear hm0
  have q1 : Hid ((bvs l).length = n * 1) := by show _ = _; rw [bvs_length, HL.out]; omega
  have q2 : 0 + n ≤ maxLen := by unfold maxLen; omega
  have q3 : (0 + n) * 1 ≤ 140737488355328 := by omega
  have q4 : n + d * ck ≤ maxLen := by unfold maxLen; omega
  have q5 : (n + d * ck) * 1 ≤ 140737488355328 := by omega
  go_upto_region 5 with (at_builtin; refine wpList_append_Own _ rfl (.const (.slice none 0 0)) (.tmp 49) 22 rfl w.heap.size 5 i0 _ 1 1 Try.underlying22 hi0 hz0 hz1 hz2 rfl none 0 0 [] rfl (Own.none_ _ _ _ _) A n c (bvs l) rfl q1.out ha (bvs_one _) q2 q3 (Nat.le_refl _) ?_; intro A3 c3 w3 hO3 hg3 hor3)
  rw [Nat.zero_add, List.nil_append] at hO3
  have hb3 := below_of_grown hg3
  have lt3 := hO3.lt
  clear hg3 hor3 hq0
  have hdk : 0 < d * ck := Nat.mul_pos (by omega) (by omega)
  go_upto_region 6 with (at_builtin; refine wpList_append_zeros _ rfl (.tmp 51) (.tmp 54) 22 3 rfl w.heap.size 5 i0 _ 1 Try.underlying22 hu3 hi0 hz0 hz1 hz2 rfl rfl A3 n c3 (bvs l) (by simp [Act.eval, Act.put]) hO3 (d * ck) ((d : Int) * (ck : Int)) (by simp [Act.eval, Act.put]) (Int.natCast_mul d ck).symm hdk q4 q5 hb3.size ?_; intro A4 c4 w4 hO4 hg4 hor4)
  rw [← HNN.out] at hO4
  rw [← HNN.out]
  have hO4' : Own w4 w.heap.size 5 1 A4 N c4 (bvs (refW l d k ck 0)) := by
    show Own _ _ _ _ _ _ _ (bvs (l ++ List.replicate (d * ck) 0))
    rw [bvs_append, show bvs (List.replicate (d * ck) 0) = List.replicate (d * ck) (Value.int .u8 0) from by simp [bvs, bv]]
    exact hO4
  have hB4 : Below w.heap.size w w4 := hb3.grown hg4 hb3.size (fun q hq => (lt3 q hq).1)
  obtain ⟨b4, o4, rfl, hb4, hb4l⟩ := hO4.form (by have := hO4.le; have := HNN.out; omega)
  clear hO4 hg4 hor4 hO3 hb3 lt3 q1 q2 q3 q4 q5
  go_wp2_with fail
  go_loopw [10] (fun jv wr => ∃ J : Nat, J ≤ d ∧ jv = .int .i64 (J : Int) ∧ Own wr w.heap.size 5 1 (some ⟨b4, o4, none⟩) N c4 (bvs (refW l d k ck J)) ∧ Below w.heap.size w wr ∧ w4.heap.size ≤ wr.heap.size) (fun jv _ => d - (intOf jv).toNat)
  case atStart => exact ⟨0, Nat.zero_le _, rfl, hO4', hB4, Nat.le_refl _⟩
  case round =>
    obtain ⟨J, hJ, rfl, hO, hB, hz⟩ := hrel
    clear hO4' hB4
    by_cases hlt : J < d
    · have hlti : (J : Int) < (d : Int) := by omega
      have HS : Hid (refW l d k ck (J + 1) = colTo (encL (rowL l d J k) ck) d J k (refW l d k ck J) ck) := Lib.hid rfl
      have HWL := Lib.hid (encL_len (rowL l d J k) (c := ck) (by omega))
      rw [rowL_len] at HWL
      obtain ⟨wo, rfl⟩ : ∃ wo : World, wo = wr := ⟨_, rfl⟩
      have hbk := hB.size
      go_wp2_with fail
      go_loopw [11, 12] (fun v iv wr => ∃ (i : Nat) (A1 : Option Addr) (c1 : Nat), i ≤ k ∧ iv = .int .i64 (i : Int) ∧ v = .slice A1 i c1 ∧ Own wr wo.heap.size 5 1 A1 i c1 (bvs (rowL l d J i)) ∧ Below wo.heap.size wo wr) (fun _ iv _ => k - (intOf iv).toNat)
      case atStart => exact ⟨0, none, 0, Nat.zero_le _, rfl, rfl, Own.none_ _ _ _ _, Below.refl _ _⟩
      case round =>
        obtain ⟨i, A1, c1, hi, rfl, rfl, hR, hBx⟩ := hrel
        have hBw := nextB hB hbk hBx
        by_cases h6 : i < k
        · have h6i : (i : Int) < (k : Int) := by omega
          obtain ⟨p, hp⟩ : ∃ p, p = i * d := ⟨_, rfl⟩
          have hpi : (i : Int) * (d : Int) = (p : Int) := by rw [hp, Int.natCast_mul]
          have hpJ : p + J < n := by rw [HN.out, hp]; exact place_lt hlt h6
          obtain ⟨b, o, rfl, hc⟩ := (ha.below hBw).byteD (k := p + J) (by rw [HL.out]; exact hpJ)
          have HR : Hid (rowL l d J (i + 1) = rowL l d J i ++ [l.getD (p + J) 0]) := by show _ = _; rw [rowL_next, hp]
          generalize l.getD (p + J) 0 = z at *
          have hpn : (p : Int) + (J : Int) < (n : Int) := by omega
          have q2 : i + 1 ≤ maxLen := by unfold maxLen; omega
          have q3 : (i + 1) * 1 ≤ 140737488355328 := by omega
          have hRn := hR.alloc (.cells #[.int .u8 (z.toNat : Int)] 5)
          have hR1 := Rd_one wr (.int .u8 (z.toNat : Int)) 5
          have hbs : wo.heap.size ≤ (wr.alloc (.cells #[.int .u8 (z.toNat : Int)] 5)).heap.size := by have := hBx.size; simp; omega
          clear hp
          go_wp2_with (at_builtin; refine wpList_append_Own _ rfl (.tmp 66) (.tmp 75) 22 rfl wo.heap.size 5 i0 _ 1 1 Try.underlying22 hi0 hz0 hz1 hz2 rfl A1 i c1 (bvs (rowL l d J i)) (by simp [Act.eval, Act.put]) hRn (some ⟨wr.heap.size, 0, none⟩) 1 1 [.int .u8 (z.toNat : Int)] (by simp [Act.eval, Act.put]) rfl hR1 (fun u hu => by simp at hu; subst hu; rfl) q2 q3 hbs ?_; intro A2 c2 w2 hO2 hg2 hor2)
          rw [show [Value.int .u8 (z.toNat : Int)] = bvs [z] from rfl, ← bvs_append] at hO2
          go_roundw
          case rel => exact ⟨i + 1, A2, c2, by omega, by go_num, rfl, by rw [HR.out]; exact hO2, (hBx.alloc hBx.size _).grown hg2 hbs (fun q hq => (hR.lt q hq).1)⟩
          case measure => simp [intOf]; omega
        · obtain rfl : i = k := by omega
          replace hO := hO.step hBx
          have hEF : encF (rowL l d J i) (ck : Int) = (encL (rowL l d J i) ck, 0) := by
            unfold encF
            rw [if_neg, Int.toNat_natCast]
            rw [rowL_len]
            rintro (h | h)
            · have := rowL_len l d J i; rw [h] at this; simp at this; omega
            · rw [sizedB_yes ⟨by omega, by omega, by omega, by omega⟩] at h; cases h
          have HEF := Lib.hid hEF
          clear hEF
          have h6f : decide (i < i) = false := by simp
          go_wp2_with fail
          refine (renc_any A1 (rowL l d J i) i c1 (ck : Int) wr (rowL_len _ _ _ _) hR.rd (by omega)).mono ?_
          rw [HEF.out]
          intro e w5 h5
          obtain ⟨A5, c5, rfl, hO5, hb5⟩ := h5.use
          dsimp only at hO5
          simp only [HWL.out] at hO5 ⊢
          have lt5 := hO5.lt
          replace hO := hO.step hb5
          have hB5 := nextB hBw hBw.size hb5
          have s5 := hb5.size
          have sx := hBx.size
          obtain ⟨b5, o5, rfl, _, _⟩ := hO5.form (by have := hO5.le; omega)
          have hne : ¬ b5 = b4 := by have := lt5 b5 rfl; omega
          replace hO5 := hO5.rd
          generalize encL (rowL l d J i) ck = ws at *
          generalize hP : refW l d i ck J = P at *
          have HPe := Lib.hid hP
          clear hP hb5 hR lt5 HEF
          go_wp2_with fail
          obtain ⟨wi, rfl⟩ : ∃ wi : World, wi = wr := ⟨_, rfl⟩
          go_loopw [15] (fun iv wr => ∃ t I : Nat, t ≤ ck ∧ Hid (I = i + t) ∧ I ≤ i + ck ∧ iv = .int .i64 (I : Int) ∧ Own wr w.heap.size 5 1 (some ⟨b4, o4, none⟩) N c4 (bvs (colTo ws d J i P t)) ∧ Rd wr (some ⟨b5, o5, none⟩) (bvs ws) ∧ Below w.heap.size w wr ∧ w4.heap.size ≤ wr.heap.size) (fun iv _ => i + ck - (intOf iv).toNat)
          case atStart => exact ⟨0, i, Nat.zero_le _, by show _ = _; omega, by omega, rfl, hO, hO5, hB5, by omega⟩
          case round =>
            obtain ⟨t, I, ht, HI, hI, rfl, hO', hR', hB', hz'⟩ := hrel
            clear hO hO5 hB5
            by_cases h7 : t < ck
            · have hIk : I < i + ck := by have := HI.out; omega
              have h7i : (I : Int) < (i : Int) + (ck : Int) := by omega
              obtain ⟨p, hp⟩ : ∃ p, p = I * d := ⟨_, rfl⟩
              have hpi : (I : Int) * (d : Int) = (p : Int) := by rw [hp, Int.natCast_mul]
              have hpJ : p + J < N := by rw [hNd.out, hp]; exact place_lt hlt hIk
              have hcr := hR'.byteE (k := I) (by rw [HWL.out]; exact hIk)
              obtain ⟨y, hy, hcw⟩ := hO'.byteAt (k := p + J) hpJ
              have hfw := hO'.frozen (o4 + (p + J))
              have HC : Hid (colTo ws d J i P (t + 1) = (colTo ws d J i P t).set (p + J) (ws.getD I 0)) := by show (colTo ws d J i P t).set ((i + t) * d + J) (ws.getD (i + t) 0) = _; rw [← HI.out, hp]
              generalize ws.getD I 0 = z at *
              have hpN : (p : Int) + (J : Int) < (N : Int) := by omega
              have gz := byte_lt z
              have hne' : ¬ b4 = b5 := fun e => hne e.symm
              clear hy hp
              go_wp2
              go_roundw
              case rel => exact ⟨t + 1, I + 1, by omega, by have := HI.out; show _ = _; omega, by omega, by go_num, by (
                rw [HC.out]
                exact hO'.setB (k := p + J) hpJ z), hR'.setCell (fun e => hne (blk_lit e).symm) _, hB'.setCell hb4 _, by simpa using hz'⟩
              case measure => simp [intOf]; omega
            · obtain rfl : t = ck := by omega
              rw [← HS.out] at hO'
              have hIe : I = i + t := HI.out
              have h7f : decide ((I : Int) < (i : Int) + (t : Int)) = false := by simp; omega
              go_wp2_with fail
              go_roundw
              case rel => exact ⟨J + 1, by omega, by go_num, hO', hB', hz'⟩
              case measure => simp [intOf]; omega
    · obtain rfl : J = d := by omega
      have hpl : Hid ((refW l J k ck J).length = N) := by show _ = _; rw [refW_len _ _ _ _ _ (by rw [HL.out, HN.out]), hNd.out]
      go_wp2
      go_ret2
      refine ⟨some ⟨b4, o4, none⟩, c4, ?_, ?_, hB⟩
      · show _ = Ending.returned (.tuple #[.slice _ (refW l J k ck J).length _, _])
        rw [hpl.out]
        rfl
      · show Own _ _ _ _ _ (refW l J k ck J).length _ _
        rw [hpl.out]
        exact hO
end Go.Proofs.Ytolcaolmdfbfhaa
