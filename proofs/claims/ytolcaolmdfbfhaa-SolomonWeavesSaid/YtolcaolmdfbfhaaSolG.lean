/-
  The program's product of code words.
-/
import Derived.Test.YtolcaolmdfbfhaaSolM
import Derived.Test.YtolcaolmdfbfhaaClone
import Derived.Deep.RegionLaw
namespace Go.Proofs.Ytolcaolmdfbfhaa
set_option linter.unusedSimpArgs false
set_option linter.unusedVariables false
open Go.RowKit

theorem mulB_q (x y : Int) (a b : UInt8) (w : World) (hx : x = (a.toNat : Int)) (hy : y = (b.toNat : Int)) :
    Calls Try.prog 94 #[.int .u8 x, .int .u8 y] w fun e w' => e = .returned (.int .u8 ((mulB a b).toNat : Int)) ∧ w = w' := by
  rw [mulB_nat]
  exact mul_i x y _ _ w hx hy a.toNat_lt b.toNat_lt

set_option maxHeartbeats 6400000 in
set_option maxRecDepth 100000 in
theorem product_any (ck : Nat) (w : World) (h1 : 1 ≤ ck) (h64 : ck ≤ 64) :
    Calls Try.prog 117 #[.int .i64 (ck : Int)] w fun e w' => ∃ b o c, e = .returned (.slice (some ⟨b, o, none⟩) ck c) ∧ Rd w' (some ⟨b, o, none⟩) (bvs (prodP ck).tail) ∧ w.heap.size ≤ b ∧ b < w'.heap.size ∧ ck ≤ c ∧ Below w.heap.size w w' := by
  obtain ⟨i0, hi0, hz0, hz1, hz2⟩ := info_parts u8info
  go_enter Try.func117, Try.ntmps117
  go_wp2_with fail
  have hO1 : Own (w.alloc (.cells #[.int .u8 1] 5)) w.heap.size 5 1 (some ⟨w.heap.size, 0, none⟩) 1 1 (bvs (prodP 0)) := Own.of_block (heap_alloc_new w _) (Nat.le_refl _) rfl (Nat.le_refl _) (by unfold maxLen; omega) (by simp) (fun i u h => by simpa [prodP, bvs, bv] using h)
  go_loopw [3, 10] (fun gv jv wr => ∃ (j : Nat) (A1 : Option Addr) (c1 : Nat), j ≤ ck ∧ jv = .int .i64 (j : Int) ∧ gv = .slice A1 (j + 1) c1 ∧ Own wr w.heap.size 5 1 A1 (j + 1) c1 (bvs (prodP j)) ∧ Below w.heap.size w wr) (fun _ jv _ => ck - (intOf jv).toNat)
  case atStart => exact ⟨0, _, _, by omega, rfl, rfl, hO1, (Below.refl _ _).alloc (Nat.le_refl _) _⟩
  case round =>
    obtain ⟨j, A1, c1, hj, rfl, rfl, hO, hB⟩ := hrel
    clear hO1
    obtain ⟨b1, o1, rfl, hb1, hb1l⟩ := hO.form (by have := hO.le; omega)
    by_cases hlt : j < ck
    · have hlti : (j : Int) < (ck : Int) := by omega
      have HPL := Lib.hid (prodP_len j)
      have HPN : Hid (prodP (j + 1) = addTo (prodP j ++ [0]) (prodP j) (pwB (j + 1)) 1 (j + 1)) := Lib.hid rfl
      have hp := Lib.hid (fun w => power_o ((j : Int) + 1) (j + 1) w (by omega))
      generalize hPNe : prodP (j + 1) = PN at *
      have HPE := Lib.hid hPNe
      clear hPNe
      generalize pwB (j + 1) = a at *
      generalize prodP j = P at *
      go_wp2_with fail
      refine (clone_n _ P (j + 1) c1 wr HPL.out hO.rd (by omega)).mono ?_
      rintro e w2 ⟨A2, c2, rfl, hO2, hb2⟩
      have lt2 := hO2.lt
      replace hO := hO.step hb2
      replace hB := nextB hB hB.size hb2
      have s2 := hb2.size
      have q2 : j + 1 + 1 ≤ maxLen := by unfold maxLen; omega
      have q3 : (j + 1 + 1) * 1 ≤ 140737488355328 := by omega
      have hO2n := hO2.alloc (.cells #[.int .u8 0] 5)
      have hRn := Rd_one w2 (.int .u8 0) 5
      have hbs : wr.heap.size ≤ (w2.alloc (.cells #[.int .u8 0] 5)).heap.size := by simp; omega
      go_upto_region 6 with (at_builtin; refine wpList_append_Own _ rfl (.tmp 14) (.tmp 15) 22 rfl wr.heap.size 5 i0 _ 1 1 Try.underlying22 hi0 hz0 hz1 hz2 rfl A2 (j + 1) c2 (bvs P) (by simp [Act.eval, Act.put]) hO2n (some ⟨w2.heap.size, 0, none⟩) 1 1 [.int .u8 0] (by simp [Act.eval, Act.put]) rfl hRn (fun u hu => by simp at hu; subst hu; rfl) q2 q3 hbs ?_; intro A3 c3 w3 hO3 hg3 hor3)
      have hb3 : Below wr.heap.size wr w3 := (hb2.alloc s2 _).grown hg3 hbs (fun q hq => (lt2 q hq).1)
      have hO1' := (hO.alloc (.cells #[.int .u8 0] 5)).grown hg3 (fun q hq e => by have := lt2 q hq; have := blk_lit e; omega)
      have lt3 := hO3.lt
      replace hB := (hB.alloc (by have := hB.size; omega) (.cells #[.int .u8 0] 5)).grown hg3 (by have := hB.size; simp; omega) (fun q hq => by have := lt2 q hq; omega)
      obtain ⟨b3, o3, rfl, hb3b, hb3l⟩ := hO3.form (by have := hO3.le; omega)
      rw [show bvs P ++ [Value.int .u8 0] = bvs (P ++ [0]) from by simp [bvs, bv]] at hO3
      have hne : ¬ b1 = b3 := fun e => by omega
      have hPl2 : Hid ((P ++ [0]).length = j + 2) := by show _ = _; rw [List.length_append, HPL.out]; rfl
      replace hO3 := hO3.mono (base' := w.heap.size) (by omega)
      clear hO2 hO2n hRn hg3 hor3 hO hb3 hb2 lt3 hbs
      go_wp2_with fail
      go_loopw [19] (fun iv wr => ∃ i : Nat, i ≤ j + 1 ∧ iv = .int .i64 i ∧ Own wr w.heap.size 5 1 (some ⟨b3, o3, none⟩) (j + 1 + 1) c3 (bvs (addTo (P ++ [0]) P a 1 i)) ∧ Own wr w.heap.size 5 1 (some ⟨b1, o1, none⟩) (j + 1) c1 (bvs P) ∧ Below w.heap.size w wr) (fun iv _ => j + 1 - (intOf iv).toNat)
      case atStart => exact ⟨0, Nat.zero_le _, rfl, hO3, hO1', hB⟩
      case round =>
        obtain ⟨i, hi, rfl, hQ, hP, hB'⟩ := hrel
        clear hO3 hO1' hB
        by_cases h6 : i < j + 1
        · have h6i : (i : Int) < (j : Int) + 1 := by omega
          have hcp := hP.rd.byteE (k := i) (by rw [HPL.out]; exact h6)
          obtain ⟨v, hv, hcq⟩ := hQ.byteAt (k := 1 + i) (by omega)
          have hfq := hQ.frozen (o3 + (1 + i))
          have HV : Hid ((addTo (P ++ [0]) P a 1 i).getD (1 + i) 0 = v) := by show _ = _; simp [List.getD, hv]
          have HA : Hid (addTo (P ++ [0]) P a 1 (i + 1) = (addTo (P ++ [0]) P a 1 i).set (1 + i) (v ^^^ mulB (P.getD i 0) a)) := by show (addTo (P ++ [0]) P a 1 i).set (1 + i) (_ ^^^ _) = _; rw [HV.out, mulB_comm]
          generalize P.getD i 0 = z at *
          have ex := xor_u8 v (mulB z a)
          have gz := byte_lt z
          have gv := byte_lt v
          have ga := byte_lt a
          have hne' : ¬ b3 = b1 := fun e => hne e.symm
          rw [Nat.add_comm 1 i] at hcq hfq
          clear hv HV
          go_upto_region 9 with fail
          have w0 : IntKind.i64.wrap ((i : Int) + 1) = (i : Int) + 1 := IntWalk.i64_in _ (by omega)
          have w1' : IntKind.i64.wrap ((j : Int) + 1) = (j : Int) + 1 := IntWalk.i64_in _ (by omega)
          have t0 : ((i : Int) + 1).toNat = i + 1 := by omega
          have p0 : (0 : Int) ≤ (i : Int) + 1 := by omega
          have p1 : (i : Int) + 1 < (j : Int) + 1 + 1 := by omega
          go_region_law (first
            | (go_simp; go_at_call 140; refine (hp.out _).mono ?_; rintro e w' ⟨rfl, rfl⟩)
            | (go_simp; go_at_call 94; refine (mulB_q _ _ z a _ rfl rfl).mono ?_; rintro e w' ⟨rfl, rfl⟩))
          all_goals clear w0 w1' t0 p0 p1 ex
          all_goals go_wp2
          all_goals go_roundw
          all_goals first
            | (simp [intOf]; omega)
            | (refine ⟨i + 1, by omega, by go_num, ?_, (hP.setFar (fun e => hne (blk_lit e).symm) _).drew, (hB'.setCell (p := ⟨b3, _, none⟩) (show w.heap.size ≤ b3 from (hQ.lt b3 rfl).1) _).drew⟩
               rw [HA.out, ← UInt8.toNat_xor]
               have := hQ.setB (k := 1 + i) (by omega) (v ^^^ mulB z a)
               rw [Nat.add_comm 1 i] at this ⊢
               exact this.drew)
        · obtain rfl : i = j + 1 := by omega
          rw [← HPN.out] at hQ
          have h6f : decide ((j : Int) + 1 < (j : Int) + 1) = false := by simp
          go_wp2_with fail
          go_roundw
          case rel => exact ⟨j + 1, _, _, by omega, by go_num, rfl, by rw [HPE.out]; exact hQ, hB'⟩
          case measure => simp [intOf]; omega
    · obtain rfl : j = ck := by omega
      have hle := hO.le
      have c1' : ¬ c1 = 1 := by omega
      have l1 : (1 : Int) ≤ (j : Int) + 1 := by omega
      have l2 : ((j : Int) + 1) ≤ (c1 : Int) := by omega
      have HR : Rd wr (some ⟨b1, o1 + 1, none⟩) (bvs (prodP j).tail) := by
        have := hO.rd.drop_lit 1
        rwa [show (bvs (prodP j)).drop 1 = bvs (prodP j).tail from by simp [bvs, List.map_drop]] at this
      go_wp2
      go_ret
      exact ⟨b1, o1 + 1, c1 - 1, rfl, HR, hb1, hb1l, by omega, hB⟩
end Go.Proofs.Ytolcaolmdfbfhaa
