/-
  The document's Through: sizes, and points that stand twice.
-/
import Derived.Test.YtclcgfngolfmlaaThruQ
import Derived.Test.YtclcgfngolfmlaaSumR
namespace Go.Proofs.Ytclcgfngolfmlaa
set_option linter.unusedSimpArgs false
set_option linter.unusedVariables false
open Go.RowKit

set_option maxHeartbeats 1600000 in
set_option maxRecDepth 100000 in
theorem rthru_size (A B : Option Addr) (n m c d : Nat) (w : World) (h : n ≠ m ∨ 255 < n) :
    Calls Try.prog 42 #[.slice A n c, .slice B m d] w fun e w' => BytesRes w w' ([], 1) e := by
  by_cases h1 : n = m
  · subst h1
    have d1 : ((n : Int) != (n : Int)) = false := by rw [bne_eq_false_iff_eq]
    have d2 : decide ((255 : Int) < (n : Int)) = true := decide_eq_true (by omega)
    clear h
    go_enter Try.func42, Try.ntmps42
    go_wp2
    go_ret2
    exact BytesRes.none_ (Below.refl _ _)
  · have d1 : ((n : Int) != (m : Int)) = true := by rw [bne_iff_ne]; omega
    clear h
    go_enter Try.func42, Try.ntmps42
    go_wp2
    go_ret2
    exact BytesRes.none_ (Below.refl _ _)

theorem rev_any (A : Option Addr) (l : List UInt8) (n c : Nat) (x : UInt8) (w : World) (hl : l.length = n) (ha : Rd w A (bvs l)) (hn : n ≤ 140737488351300) :
    Calls Try.prog 87 #[.slice A n c, .int .u8 (x.toNat : Int)] w fun e w' => e = .returned (.int .u8 ((ev x l).toNat : Int)) ∧ ∃ m, w' = w.drewN m := by
  rw [← atF_ev]
  exact rat_any A l n c x w hl ha hn
def okB (b : UInt8) : Bool := decide (b ≠ 0)
theorem rdivU_o (x y : Int) (a b : UInt8) (w : World) (hx : x = (a.toNat : Int)) (hy : y = (b.toNat : Int)) :
    Calls Try.prog 86 #[.int .u8 x, .int .u8 y] w fun e w' => e = .returned (.tuple #[.int .u8 ((divU a b).toNat : Int), .bool (okB b)]) ∧ w' = w :=
  (rdivB_o x y a b w hx hy).mono fun _ _ ⟨h1, h2⟩ => ⟨h1, h2.symm⟩

set_option maxHeartbeats 3200000 in
set_option maxRecDepth 100000 in
theorem rthru_good (A B : Option Addr) (p q : List UInt8) (n c d : Nat) (w : World) (hp : p.length = n) (hq : q.length = n) (ra : Rd w A (bvs p)) (rb : Rd w B (bvs q)) (hn : n ≤ 255) :
    Calls Try.prog 42 #[.slice A n c, .slice B n d] w fun e w' => BytesRes w w' (thruF p q) e := by
  obtain ⟨i0, hi0, hz0, hz1, hz2⟩ := info_parts u8info
  have HP := Lib.hid hp
  have HQ := Lib.hid hq
  have d1 : ((n : Int) != (n : Int)) = false := by rw [bne_eq_false_iff_eq]
  have d2 : decide ((255 : Int) < (n : Int)) = false := decide_eq_false (by omega)
  have HT := Lib.hid (fun (h : ¬ p.Nodup) => thruF_twice (hp.trans hq.symm) (by omega) h)
  have HG := Lib.hid (fun (h : p.Nodup) => thruF_good (hp.trans hq.symm) (by omega) h)
  generalize thruF p q = R at *
  clear hp hq
  go_enter Try.func42, Try.ntmps42
  go_wp2_with fail
  go_loopw [6] (fun i wr => ∃ k : Nat, k ≤ n ∧ i = .int .i64 k ∧ (∃ mm, wr = w.drewN mm) ∧ Hid (∀ a b, a < b → b < k → p.getD a 0 ≠ p.getD b 0)) (fun i _ => n - (intOf i).toNat)
  case atStart => exact ⟨0, by omega, by simp, ⟨0, rfl⟩, Lib.hid (fun a b _ h => by omega)⟩
  case round =>
    obtain ⟨k, hk, rfl, ⟨mm, rfl⟩, HD⟩ := hrel
    by_cases h5 : k < n
    · have h5i : (k : Int) < (n : Int) := by omega
      go_wp2_with fail
      go_loopw [7] (fun j wr => ∃ t : Nat, t ≤ k ∧ j = .int .i64 t ∧ (∃ mm, wr = w.drewN mm) ∧ Hid (∀ a, a < t → p.getD a 0 ≠ p.getD k 0)) (fun j _ => k - (intOf j).toNat)
      case atStart => exact ⟨0, by omega, by simp, ⟨mm, rfl⟩, Lib.hid (fun a h => by omega)⟩
      case round =>
        obtain ⟨t, ht, rfl, ⟨m2, rfl⟩, HK⟩ := hrel
        by_cases h6 : t < k
        · have h6i : (t : Int) < (k : Int) := by omega
          have i1 : (0 : Int) ≤ (k : Int) := by omega
          have i2 : (0 : Int) ≤ (t : Int) := by omega
          have i3 : (t : Int) < (n : Int) := by omega
          obtain ⟨b, o, rfl, hc1⟩ := ra.byteD (k := k) (by rw [HP.out]; omega)
          have hc2 := ra.byteE (k := t) (by rw [HP.out]; omega)
          by_cases he : p.getD k 0 = p.getD t 0
          · have HR := Lib.hid (HT.out (not_nodup h6 (by rw [HP.out]; omega) he))
            rw [he] at hc1
            generalize p.getD t 0 = z at *
            go_wp2_with fail
            go_quiet (fail)
            go_wp2
            go_ret2
            rw [HR.out]
            exact BytesRes.none_ (below_drewN (below_drewN (Below.refl _ _) _) _)
          · have HK2 : Hid (∀ a, a < t + 1 → p.getD a 0 ≠ p.getD k 0) := Lib.hid (fun a ha => by
              by_cases e : a = t
              · rw [e]; exact fun e2 => he e2.symm
              · exact HK.out a (by omega))
            have hne : (((p.getD k 0).toNat : Int) == ((p.getD t 0).toNat : Int)) = false := by
              rw [beq_eq_false_iff_ne]
              exact fun e => he (UInt8.toNat_inj.1 (by omega))
            clear he
            generalize p.getD k 0 = y at *
            generalize p.getD t 0 = z at *
            go_wp2_with fail
            go_quiet (fail)
            go_wp2
            go_roundw
            case rel => exact ⟨t + 1, by omega, by go_num, ⟨_, rfl⟩, HK2⟩
            case measure => simp [intOf] <;> omega
        · obtain rfl : t = k := by omega
          have HD2 : Hid (∀ a b, a < b → b < t + 1 → p.getD a 0 ≠ p.getD b 0) := Lib.hid (fun a b h1 h2 => by
            by_cases e : b = t
            · rw [e]; exact HK.out a (by omega)
            · exact HD.out a b h1 (by omega))
          go_wp2
          go_roundw
          case rel => exact ⟨t + 1, by omega, by go_num, ⟨m2, rfl⟩, HD2⟩
          case measure => simp [intOf] <;> omega
    · obtain rfl : k = n := by omega
      have HR := Lib.hid (HG.out (nodup_of (by rw [HP.out]; exact HD.out)))
      go_wp2_with fail
      obtain ⟨W1, hW1⟩ : ∃ W : World, W = (w.drewN mm).alloc (.cells #[.int .u8 1] 5) := ⟨_, rfl⟩
      have hS1 : Own W1 w.heap.size 5 1 (some ⟨w.heap.size, 0, none⟩) 1 1 (bvs [1]) := by
        rw [hW1]
        exact Own.of_block (heap_alloc_new (w.drewN mm) _) (Nat.le_refl _) (by simp [bvs]) (Nat.le_refl _) (by unfold maxLen; omega) (by simp) (fun i u h => by simpa [bvs, bv] using h)
      have hB1 : Below w.heap.size w W1 := by rw [hW1]; exact (below_drewN (Below.refl _ _) mm).alloc (by simp) _
      try rw [← hW1]
      clear hW1 HT HG HD
      go_wp2_with fail
      go_loopw [8, 9, 10] (fun pv bv iv wr => ∃ (i lp nb : Nat) (P bs : List UInt8) (A1 A2 : Option Addr) (c1 c2 : Nat), i ≤ k ∧ iv = .int .i64 i ∧ pv = .slice A1 lp c1 ∧ bv = .slice A2 nb c2 ∧ nb = i + 1 ∧ bs.length = nb ∧ P.length = lp ∧ lp ≤ i ∧ Own wr w.heap.size 5 1 A1 lp c1 (bvs P) ∧ Own wr w.heap.size 5 1 A2 nb c2 (bvs bs) ∧ Below w.heap.size w wr ∧ Hid (refT (p.drop i) (q.drop i) P bs = refT p q [] [1])) (fun _ _ iv _ => k - (intOf iv).toNat)
      case atStart => exact ⟨0, 0, 1, [], [1], none, _, 0, 1, Nat.zero_le _, by simp, by simp, by simp, rfl, rfl, rfl, Nat.le_refl _, Own.none_ _ _ _ _, hS1, hB1, Lib.hid rfl⟩
      case round =>
        obtain ⟨i, lp, nb, P, bs, A1, A2, c1, c2, hi, rfl, rfl, rfl, hnb, hbl, hpl, hlp, hP, hS, hB, HF⟩ := hrel
        clear hS1 hB1
        have HBL := Lib.hid hbl
        have HPL := Lib.hid hpl
        have HNB := Lib.hid hnb
        have hnb2 : nb ≤ 256 := by omega
        clear hnb
        by_cases h5 : i < k
        · have h5i : (i : Int) < (k : Int) := by omega
          have HN : Hid (refT (p.drop (i + 1)) (q.drop (i + 1)) (sumF P (moreOf (divU (q.getD i 0 ^^^ ev (p.getD i 0) P) (ev (p.getD i 0) bs)) bs)) (nextP (p.getD i 0) bs) = refT p q [] [1]) := Lib.hid ((refT_next p q P bs (by rw [HP.out]; exact h5) (by rw [HQ.out]; exact h5)).symm.trans HF.out)
          clear HF hbl hpl
          have raw := ra.below hB
          have rbw := rb.below hB
          obtain ⟨b, o, rfl, hc1⟩ := raw.byteD (k := i) (by rw [HP.out]; omega)
          obtain ⟨b2, o2, rfl, hc2⟩ := rbw.byteD (k := i) (by rw [HQ.out]; omega)
          have i1 : (0 : Int) ≤ (i : Int) := by omega
          generalize p.getD i 0 = x at *
          generalize q.getD i 0 = y at *
          go_wp2_with fail
          go_quiet (first
            | (go_at_call 87; with_reducible exact Calls.quiet_of (rev_any A1 P lp c1 x _ HPL.out (hP.rd.drewN _) (by omega)))
            | (go_at_call 87; with_reducible exact Calls.quiet_of (rev_any A2 bs nb c2 x _ HBL.out (hS.rd.drewN _) (by omega)))
            | (go_at_call 86; with_reducible exact Calls.quiet_of_same (rdivU_o _ _ (y ^^^ ev x P) (ev x bs) _ (xor_u8 _ _) rfl)))
          generalize divU (y ^^^ ev x P) (ev x bs) = kk at *
          generalize okB (ev x bs) = ok at *
          have hmk := run_make_rowN (P := Try.prog) 22 5 i0 (.int .u8 0) Try.underlying22 hi0 hz0 .i64 .i64 nb nb (Nat.le_refl _) (by rw [hz2]; omega) (by omega)
          have hmk2 := run_make_rowN (P := Try.prog) 22 5 i0 (.int .u8 0) Try.underlying22 hi0 hz0 .i64 .i64 (nb + 1) (nb + 1) (Nat.le_refl _) (by rw [hz2]; omega) (by omega)
          rw [show ((nb + 1 : Nat) : Int) = (nb : Int) + 1 from by omega] at hmk2
          go_wp2_with fail
          obtain ⟨wo, rfl⟩ : ∃ wo : World, wo = wr := ⟨_, rfl⟩
          obtain ⟨W2, hW2⟩ : ∃ W : World, W = ((wo.drewN nq).alloc (.cells (madeCells #[.int .u8 0] nb) 5)).alloc (.cells (madeCells #[.int .u8 0] (nb + 1)) 5) := ⟨_, rfl⟩
          have z0 := hB.size
          have lP := hP.lt
          have lS := hS.lt
          have hb2 : Below wo.heap.size wo W2 := by rw [hW2]; exact ((below_drewN (Below.refl _ _) nq).alloc (by simp) _).alloc (by simp) _
          have hM2 : Own W2 wo.heap.size 5 1 (some ⟨wo.heap.size, 0, none⟩) nb nb (bvs (moL kk bs 0)) := by
            rw [hW2, moL_zero, HBL.out]
            exact (Own.made8 (wo.drewN nq) nb nb (Nat.le_refl _) (by unfold maxLen; omega)).alloc _
          have hX2 : Own W2 wo.heap.size 5 1 (some ⟨wo.heap.size + 1, 0, none⟩) (nb + 1) (nb + 1) (bvs (nxL x bs 0)) := by
            rw [hW2, nxL_zero, HBL.out]
            have := Own.made8 ((wo.drewN nq).alloc (.cells (madeCells #[.int .u8 0] nb) 5)) (nb + 1) (nb + 1) (Nat.le_refl _) (by unfold maxLen; omega)
            rw [show ((wo.drewN nq).alloc (.cells (madeCells #[.int .u8 0] nb) 5)).heap.size = wo.heap.size + 1 from by simp] at this
            exact this.mono (by omega)
          rw [← hW2]
          clear hW2 hmk hmk2 raw rbw hc2
          have hblt := World.block_lt_of_cell? _ _ hc1
          have hblt' : b < wo.heap.size := hblt
          go_loopw [15] (fun jv wr => ∃ j : Nat, j ≤ nb ∧ jv = .int .i64 j ∧ Own wr wo.heap.size 5 1 (some ⟨wo.heap.size, 0, none⟩) nb nb (bvs (moL kk bs j)) ∧ Own wr wo.heap.size 5 1 (some ⟨wo.heap.size + 1, 0, none⟩) (nb + 1) (nb + 1) (bvs (nxL x bs j)) ∧ Below wo.heap.size wo wr) (fun jv _ => nb - (intOf jv).toNat)
          case atStart => exact ⟨0, Nat.zero_le _, by simp, hM2, hX2, hb2⟩
          case round =>
            obtain ⟨j, hj, rfl, hM, hX, hb⟩ := hrel
            clear hM2 hX2 hb2
            have hSw := hS.below hb
            by_cases h6 : j < nb
            · have h6i : (j : Int) < (nb : Int) := by omega
              have j1 : (0 : Int) ≤ (j : Int) := by omega
              obtain ⟨b3, o3, rfl, hcs⟩ := hSw.rd.byteD (k := j) (by rw [HBL.out]; exact h6)
              have hb3 : b3 < wo.heap.size := (lS b3 rfl).2
              have HMo := Lib.hid (moL_next kk bs (j := j) (by rw [HBL.out]; exact h6))
              have HXo := Lib.hid (nxL_next x bs (j := j) (by rw [HBL.out]; exact h6))
              have HX1 := Lib.hid (nxL_at x bs (j := j) (by rw [HBL.out]; exact h6))
              have HX2 := Lib.hid (fun v => nxL_at2 x v bs (j := j) (by rw [HBL.out]; exact h6))
              have HXl := Lib.hid (nxL_len x bs j)
              have hfM := hM.frozen (0 + j)
              rw [Nat.zero_add] at hfM
              obtain ⟨yM, hyM, hcM⟩ := hM.byteAt (k := j) h6
              rw [Nat.zero_add] at hcM
              clear hyM
              have hcs0 := hS.rd.byteE (k := j) (by rw [HBL.out]; exact h6)
              generalize bs.getD j 0 = z at *
              go_wp2_with fail
              refine (rmulB_o _ _ kk z _ rfl rfl).mono ?_
              rintro e _ ⟨rfl, rfl⟩
              go_upto_region 23 with fail
              obtain ⟨W5, hW5⟩ : ∃ W : World, W = wr.setCell ⟨wo.heap.size, j, none⟩ (.int .u8 ((mulB kk z).toNat : Int)) := ⟨_, rfl⟩
              rw [← hW5]
              have hM5 : Own W5 wo.heap.size 5 1 (some ⟨wo.heap.size, 0, none⟩) nb nb (bvs (moL kk bs (j + 1))) := by
                rw [hW5, HMo.out]
                have := hM.setB (k := j) h6 (mulB kk z)
                rwa [Nat.zero_add] at this
              have hX5 : Own W5 wo.heap.size 5 1 (some ⟨wo.heap.size + 1, 0, none⟩) (nb + 1) (nb + 1) (bvs (nxL x bs j)) := by rw [hW5]; exact hX.setFar (p := ⟨wo.heap.size, j, none⟩) (blk_lit_ne (Nat.ne_of_gt (Nat.lt_succ_self _))) _
              have hb5 : Below wo.heap.size wo W5 := by rw [hW5]; exact hb.setCell (p := ⟨wo.heap.size, j, none⟩) (Nat.le_refl _) _
              clear hW5 hM hX hb hcM hfM hcs hSw
              have hcs5 : W5.cell? ⟨b3, o3 + j, none⟩ = _ := (hb5.cell (p := ⟨b3, o3 + j, none⟩) hb3).trans hcs0
              have hcp5 : W5.cell? ⟨b, o + i, none⟩ = _ := (hb5.cell (p := ⟨b, o + i, none⟩) hblt').trans hc1
              have hcx := hX5.rd.byteE (k := j) (by rw [HXl.out, HBL.out]; omega)
              rw [HX1.out, Nat.zero_add] at hcx
              have hfX := hX5.frozen (0 + j)
              rw [Nat.zero_add] at hfX
              have HX0 := HX1
              clear HX1
              generalize nxF x bs j j = v at *
              have ex := xor_u8 v (mulB z x)
              have gz := byte_lt z
              have gv := byte_lt v
              have gx := byte_lt x
              have j2 : (j : Int) < (nb : Int) + 1 := by omega
              go_cut [109] (fun _ wx => ∃ W : World, W = wx ∧ Own W wo.heap.size 5 1 (some ⟨wo.heap.size, 0, none⟩) nb nb (bvs (moL kk bs (j + 1))) ∧ Own W wo.heap.size 5 1 (some ⟨wo.heap.size + 1, 0, none⟩) (nb + 1) (nb + 1) (bvs ((nxL x bs j).set j (v ^^^ mulB z x))) ∧ Below wo.heap.size wo W)
              case first =>
                go_region_law (first | (go_simp; go_at_call 88; refine (rmulB_o _ _ z x _ rfl rfl).mono ?_; rintro e w' ⟨rfl, rfl⟩))
                all_goals
                  go_wp2_with fail
                  go_meet
                  refine ⟨_, rfl, (hM5.setFar (p := ⟨wo.heap.size + 1, j, none⟩) (blk_lit_ne (Nat.ne_of_lt (Nat.lt_succ_self _))) _).drew, ?_, (hb5.setCell (p := ⟨wo.heap.size + 1, j, none⟩) (Nat.le_succ _) _).drew⟩
                  rw [← UInt8.toNat_xor]
                  have := (hX5.setB (k := j) (by omega) (v ^^^ mulB z x)).drew
                  rwa [Nat.zero_add] at this
              clear hM5 hX5 hb5 hcs5 hcp5 hcx hfX ex
              obtain ⟨W6, rfl, hM6, hX6, hb6⟩ := hcut
              have hcs6 : W6.cell? ⟨b3, o3 + j, none⟩ = _ := (hb6.cell (p := ⟨b3, o3 + j, none⟩) hb3).trans hcs0
              have hcx := hX6.rd.byteE (k := j + 1) (by rw [List.length_set, HXl.out, HBL.out]; omega)
              rw [HX2.out, Nat.zero_add] at hcx
              have hfX := hX6.frozen (0 + (j + 1))
              rw [Nat.zero_add] at hfX
              rw [show (((0 : UInt8).toNat : Nat) : Int) = 0 from rfl] at hcx
              have ex : bits .xor .u8 0 (z.toNat : Int) = (z.toNat : Int) := by
                have := xor_u8 0 z
                rw [UInt8.zero_xor] at this
                exact this
              have HXz : Hid (nxL x bs (j + 1) = ((nxL x bs j).set j (v ^^^ mulB z x)).set (j + 1) z) := by
                show _ = _
                rw [HXo.out, UInt8.zero_xor]
              have t3 : ((j : Int) + 1).toNat = j + 1 := by omega
              have t4 : (0 : Int) ≤ (j : Int) + 1 := by omega
              have t5 : (j : Int) + 1 < (nb : Int) + 1 := by omega
              go_wp2_with fail
              go_region
              all_goals go_wp2
              all_goals go_roundw
              all_goals first
                | (simp [intOf] <;> omega)
                | (refine ⟨j + 1, by omega, by go_num, (hM6.setFar (p := ⟨wo.heap.size + 1, j + 1, none⟩) (blk_lit_ne (Nat.ne_of_lt (Nat.lt_succ_self _))) _).drew, ?_, (hb6.setCell (p := ⟨wo.heap.size + 1, j + 1, none⟩) (Nat.le_succ _) _).drew⟩
                   rw [HXz.out]
                   have := (hX6.setB (k := j + 1) (by omega) z).drew
                   rwa [Nat.zero_add] at this)
            · obtain rfl : j = nb := by omega
              have hPw := hP.below hb
              have z1 := hb.size
              have lM := hM.lt
              have HMa : Hid (moL kk bs j = moreOf kk bs) := by show _ = _; rw [← HBL.out]; exact moL_all kk bs
              have HXa : Hid (nxL x bs j = nextP x bs) := by show _ = _; rw [← HBL.out]; exact nxL_all x bs
              have HML : Hid ((moreOf kk bs).length = j) := by show _ = _; rw [moreOf, List.length_map, HBL.out]
              have HXL : Hid ((nextP x bs).length = j + 1) := by show _ = _; rw [nextP_len, HBL.out]
              have HSL := Lib.hid (sumF_len P (moreOf kk bs))
              rw [HMa.out] at hM
              rw [HXa.out] at hX
              clear HMa HXa
              generalize moreOf kk bs = mr at *
              generalize nextP x bs = nx at *
              go_wp2_with fail
              refine (sum_ref_any A1 (some ⟨wo.heap.size, 0, none⟩) P mr lp j c1 j wr HPL.out HML.out hPw.rd hM.rd (by omega) (by omega)).mono ?_
              rintro e w7 ⟨A7, c7, rfl, hO7, hb7⟩
              have hX7 := hX.below hb7
              have hB7 : Below w.heap.size w w7 := nextB (nextB hB z0 hb) (Nat.le_trans z0 z1) hb7
              have hsl : (sumF P mr).length ≤ i + 1 := by
                have := HSL.out
                have := HPL.out
                have := HML.out
                have := HNB.out
                omega
              have hO8 := hO7.mono (base' := w.heap.size) (by omega)
              have hX8 := hX7.mono (base' := w.heap.size) (by omega)
              have HNB2 : Hid (j + 1 = (i + 1) + 1) := Lib.hid (by have := HNB.out; omega)
              have HN2 := HN
              generalize sumF P mr = sm at *
              go_wp2_with fail
              go_roundw
              case rel => exact ⟨i + 1, sm.length, j + 1, sm, nx, A7, _, c7, _, by omega, by go_num, rfl, rfl, HNB2.out, HXL.out, rfl, hsl, hO8, hX8, hB7, HN2⟩
              case measure => simp [intOf] <;> omega
        · obtain rfl : i = k := by omega
          have HE : Hid (P = refT p q [] [1]) := Lib.hid ((refT_end p q P bs (by rw [HP.out]; exact Nat.le_refl _)).symm.trans HF.out)
          go_wp2
          go_ret2
          rw [HR.out, ← HE.out]
          exact ⟨A1, c1, by simp [HPL.out], by rw [HPL.out]; exact hP, hB⟩
theorem rthru_any (A B : Option Addr) (p q : List UInt8) (n m c d : Nat) (w : World) (hp : p.length = n) (hq : q.length = m) (ra : Rd w A (bvs p)) (rb : Rd w B (bvs q)) :
    Calls Try.prog 42 #[.slice A n c, .slice B m d] w fun e w' => BytesRes w w' (thruF p q) e := by
  by_cases h : n ≠ m ∨ 255 < n
  · rw [thruF_size (by rw [hp, hq]; exact h)]
    exact rthru_size A B n m c d w h
  · obtain rfl : n = m := by omega
    exact rthru_good A B p q n c d w hp hq ra rb (by omega)
end Go.Proofs.Ytclcgfngolfmlaa
