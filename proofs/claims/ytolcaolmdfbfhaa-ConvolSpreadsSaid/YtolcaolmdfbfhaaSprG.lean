/-
  The program's Spread.
-/
import Derived.Test.YtolcaolmdfbfhaaPick2
import Derived.Test.YtolcaolmdfbfhaaSprR
namespace Go.Proofs.Ytolcaolmdfbfhaa
set_option linter.unusedSimpArgs false
set_option linter.unusedVariables false
open Go.RowKit

theorem pair_at (v : Int) (b s : Nat) (w : World) (hv : v = (b : Int)) (hb : b ≤ 1) (hs : s < 64) :
    Calls Try.prog 81 #[.int .i64 v, .int .i64 (s : Int)] w fun e w' => e = .returned (.tuple #[.int .i64 (symA (s * 2 + b) : Nat), .int .i64 (symB (s * 2 + b) : Nat)]) ∧ w = w' := by
  subst hv
  exact pair_any b s w hb hs
theorem at_letter (r : Nat) (i : Nat) (k1 k2 : Bool) (pp qq : ByteArray) (w : World) (hp : patV r = .agg #[.string pp, .string qq]) (h1 : 1 ≤ r) (h5 : r ≤ 5) (hi : i ≤ 4611686018427387904) (e1 : keptP r i false = k1) (e2 : keptP r i true = k2) :
    Calls Try.prog 82 #[.agg #[.string pp, .string qq], .int .i64 (i : Int)] w fun e w' => e = .returned (.tuple #[.bool k1, .bool k2]) ∧ Below w.heap.size w w' := by
  subst e1 e2
  rw [← hp]
  exact at_any r i w h1 h5 hi
theorem pat_form {r : Nat} (h1 : 1 ≤ r) (h5 : r ≤ 5) : ∃ pp qq, patV r = .agg #[.string pp, .string qq] := by
  rcases (by omega : r = 1 ∨ r = 2 ∨ r = 3 ∨ r = 4 ∨ r = 5) with rfl | rfl | rfl | rfl | rfl <;> exact ⟨_, _, rfl⟩

set_option maxHeartbeats 6400000 in
set_option maxRecDepth 100000 in
theorem pspread_good (A : Option Addr) (l : List UInt8) (r n c : Nat) (w : World) (hl : l.length = n) (ha : Rd w A (bvs l)) (hn : n ≤ 16384) (h1 : 1 ≤ r) (h5 : r ≤ 5) :
    Calls Try.prog 27 #[.slice A n c, .int .i64 (r : Int)] w fun e w' => BytesRes w w' (sprOk l r n) e := by
  obtain ⟨i0, hi0, hz0, hz1, hz2⟩ := info_parts u8info
  have HL := Lib.hid hl
  clear hl
  obtain ⟨R, HR⟩ : ∃ R, Hid (sprOk l r n = R) := ⟨_, rfl⟩
  obtain ⟨pp, qq, hpq⟩ := pat_form h1 h5
  have HP := Lib.hid hpq
  have hPk := Lib.hid (fun w => hpq ▸ pick_yes r w h1 h5)
  clear hpq
  have dn : decide ((16384 : Int) < (n : Int)) = false := by simp; omega
  rw [HR.out]
  go_enter Try.func27, Try.ntmps27
  go_wp2_with fail
  refine (hPk.out _).mono ?_
  rintro e w1 ⟨rfl, hb⟩
  go_upto_region 2 with fail
  obtain ⟨W1, hW1⟩ : ∃ W : World, W = w1.alloc (.cells #[.string pp, .string qq] 112) := ⟨_, rfl⟩
  rw [← hW1]
  have hBw1 : Below w.heap.size w W1 := by rw [hW1]; exact hb.alloc hb.size _
  have hK1 : Blk W1 w1.heap.size 112 #[.string pp, .string qq] := by rw [hW1]; exact Blk.new _ _ _
  have zw := hb.size
  clear hW1 hb
  replace ha := ha.below hBw1
  go_wp2_with fail
  refine (contains_any A l n c W1 HL.out ha hn).mono ?_
  rintro e w2 ⟨rfl, rfl⟩
  by_cases hall : bitsOnly l
  rotate_left
  · have eR : R = ([], 2) := by rw [← HR.out, sprOk, if_neg hall]
    subst eR
    have ec : (!decide (bitsOnly l)) = true := by simp [hall]
    rw [ec]
    go_wp2
    go_ret2
    exact BytesRes.none_ hBw1
  have eR : R = (sprN l r (n + 6), 0) := by rw [← HR.out, sprOk, if_pos hall]
  subst eR
  have ec : (!decide (bitsOnly l)) = false := by simp [hall]
  rw [ec]
  clear HR ec dn
  go_wp2_with fail
  go_loopw [8, 9, 34] (fun o s i wr => ∃ (j : Nat) (A1 : Option Addr) (c1 : Nat), j ≤ n + 6 ∧ o = .slice A1 (sprN l r j).length c1 ∧ s = .int .i64 (stN l j : Nat) ∧ i = .int .i64 j ∧ Own wr W1.heap.size 5 1 A1 (sprN l r j).length c1 (bvs (sprN l r j)) ∧ Below W1.heap.size W1 wr) (fun _ _ i _ => n + 6 - (intOf i).toNat)
  case atStart => exact ⟨0, none, 0, by omega, by simp [sprN], by simp [stN], by simp, Own.none_ _ _ _ _, Below.refl _ _⟩
  case round =>
        obtain ⟨j, A1, c1, hj, rfl, rfl, rfl, hO, hB⟩ := hrel
        by_cases h6 : j < n + 6
        · have h6i : (j : Int) < (n : Int) + 6 := by omega
          have HN := Lib.hid (sprN_succ l r j)
          have HS := Lib.hid (stN_succ l j)
          have lS := stN_lt l j
          have lB := bitI_lt hall j
          have lN := sprN_len l r j
          obtain ⟨F, HF⟩ : ∃ F, Hid (stN l j * 2 + bitI l j = F) := ⟨_, rfl⟩
          have lF : F < 128 := by rw [← HF.out]; omega
          have lA1 := symA_lt F
          have lA2 := symB_lt F
          obtain ⟨a1, HA1⟩ : ∃ a1, Hid (symA F = a1) := ⟨_, rfl⟩
          obtain ⟨a2, HA2⟩ : ∃ a2, Hid (symB F = a2) := ⟨_, rfl⟩
          rw [HA1.out] at lA1
          rw [HA2.out] at lA2
          obtain ⟨k1, HK1⟩ : ∃ k1, Hid (keptP r j false = k1) := ⟨_, rfl⟩
          obtain ⟨k2, HK2⟩ : ∃ k2, Hid (keptP r j true = k2) := ⟨_, rfl⟩
          have HO := Lib.hid (out_at l r j F a1 a2 k1 k2 HF.out HA1.out HA2.out HK1.out HK2.out)
          obtain ⟨s, Hs⟩ : ∃ s, Hid (stN l j = s) := ⟨_, rfl⟩
          obtain ⟨bt, Hb⟩ : ∃ bt, Hid (bitI l j = bt) := ⟨_, rfl⟩
          rw [Hs.out, Hb.out] at HF
          rw [Hs.out, Hb.out, HF.out] at HS
          rw [Hs.out] at lS ⊢
          rw [Hb.out] at lB
          have hJ := join_bit (s := s) lB lS
          rw [HF.out] at hJ
          generalize sprN l r j = L at *
          have hKr := hK1.below' hB
          obtain ⟨x0, x1, xf⟩ := hKr.two
          by_cases hjk : j < n
          · have hjki : (j : Int) < (n : Int) := by omega
            obtain ⟨b, off, rfl, hc⟩ := (ha.below hB).byteD (k := j) (by rw [HL.out]; omega)
            obtain ⟨x, HX⟩ : ∃ x, Hid (l.getD j 0 = x) := ⟨_, rfl⟩
            rw [HX.out] at hc
            have HB : Hid (wrap64 (x.toNat : Int) = (bt : Int)) := by have := byte_lt x; show _ = _; rw [IntWalk.wrap64_in _ (by omega), ← Hb.out, ← HX.out]; rfl
            go_upto_region 16 with fail
            rw [HB.out]
            have q2 : L.length + 1 ≤ maxLen := by unfold maxLen; omega
            have q3 : (L.length + 1) * 1 ≤ 140737488355328 := by omega
            have q4 : L.length + 1 + 1 ≤ maxLen := by unfold maxLen; omega
            have q5 : (L.length + 1 + 1) * 1 ≤ 140737488355328 := by omega
            cases k1 <;> cases k2
            · have eL : Hid ((outAt l r j).length = 0) := by have := congrArg List.length HO.out; show _ = _; simpa [bvs_length] using this
              have eB := HO
              simp only [Bool.false_eq_true, if_false, if_true, List.nil_append, List.append_nil] at eB
              go_wp2_with (first
                | (go_at_call 81; refine (pair_at _ bt s _ rfl lB lS).mono ?_; rintro e w1 ⟨rfl, rfl⟩; rw [HF.out, HA1.out, HA2.out])
                | (go_at_call 82; (with_reducible refine (at_letter r j _ _ pp qq _ HP.out h1 h5 (by omega) HK1.out HK2.out).mono ?_); rintro e wa ⟨rfl, hBa⟩; have hOa := hO.below hBa; have hBw := nextB hB hB.size hBa)
                | (at_builtin; refine wpList_append_Own _ rfl (.tmp 59) (.tmp 62) 22 rfl W1.heap.size 5 i0 _ 1 1 Try.underlying22 hi0 hz0 hz1 hz2 rfl A1 L.length c1 (bvs L) rfl (hOa.alloc _) (some ⟨wa.heap.size, 0, none⟩) 1 1 [.int .u8 (a1 : Int)] rfl rfl (one_rd wa a1) (one_ok a1) q2 q3 (Nat.le_trans hBw.size (le_alloc1 _ _)) ?_; intro A2 c2 w2 hO2 hg2 hor2)
                | (at_builtin; refine wpList_append_Own _ rfl (.tmp 65) (.tmp 68) 22 rfl W1.heap.size 5 i0 _ 1 1 Try.underlying22 hi0 hz0 hz1 hz2 rfl A1 L.length c1 (bvs L) rfl (hOa.alloc _) (some ⟨wa.heap.size, 0, none⟩) 1 1 [.int .u8 (a2 : Int)] rfl rfl (one_rd wa a2) (one_ok a2) q2 q3 (Nat.le_trans hBw.size (le_alloc1 _ _)) ?_; intro A2 c2 w2 hO2 hg2 hor2)
                | (at_builtin; have hB2 := (hBw.alloc hBw.size (.cells #[.int .u8 (a1 : Int)] 5)).grown hg2 (Nat.le_trans hBw.size (le_alloc1 _ _)) (fun q hq => (hOa.lt q hq).1); refine wpList_append_Own _ rfl (.tmp 65) (.tmp 68) 22 rfl W1.heap.size 5 i0 _ 1 1 Try.underlying22 hi0 hz0 hz1 hz2 rfl A2 (L.length + 1) c2 _ rfl (hO2.alloc _) (some ⟨w2.heap.size, 0, none⟩) 1 1 [.int .u8 (a2 : Int)] rfl rfl (one_rd w2 a2) (one_ok a2) q4 q5 (Nat.le_trans hB2.size (le_alloc1 _ _)) ?_; intro A3 c3 w3 hO3 hg3 hor3)
                )
              go_roundw
              case rel =>
                refine ⟨j + 1, A1, c1, by omega, by rw [HN.out, List.length_append, eL.out, Nat.add_zero], by rw [HS.out]; go_num, by go_num, ?_, hBw⟩
                rw [HN.out, List.length_append, eL.out, bvs_append, eB.out, Nat.add_zero]
                rw [List.append_nil]
                exact hOa
              case measure => simp [intOf]; omega
            · have eL : Hid ((outAt l r j).length = 1) := by have := congrArg List.length HO.out; show _ = _; simpa [bvs_length] using this
              have eB := HO
              simp only [Bool.false_eq_true, if_false, if_true, List.nil_append, List.append_nil] at eB
              go_wp2_with (first
                | (go_at_call 81; refine (pair_at _ bt s _ rfl lB lS).mono ?_; rintro e w1 ⟨rfl, rfl⟩; rw [HF.out, HA1.out, HA2.out])
                | (go_at_call 82; (with_reducible refine (at_letter r j _ _ pp qq _ HP.out h1 h5 (by omega) HK1.out HK2.out).mono ?_); rintro e wa ⟨rfl, hBa⟩; have hOa := hO.below hBa; have hBw := nextB hB hB.size hBa)
                | (at_builtin; refine wpList_append_Own _ rfl (.tmp 59) (.tmp 62) 22 rfl W1.heap.size 5 i0 _ 1 1 Try.underlying22 hi0 hz0 hz1 hz2 rfl A1 L.length c1 (bvs L) rfl (hOa.alloc _) (some ⟨wa.heap.size, 0, none⟩) 1 1 [.int .u8 (a1 : Int)] rfl rfl (one_rd wa a1) (one_ok a1) q2 q3 (Nat.le_trans hBw.size (le_alloc1 _ _)) ?_; intro A2 c2 w2 hO2 hg2 hor2)
                | (at_builtin; refine wpList_append_Own _ rfl (.tmp 65) (.tmp 68) 22 rfl W1.heap.size 5 i0 _ 1 1 Try.underlying22 hi0 hz0 hz1 hz2 rfl A1 L.length c1 (bvs L) rfl (hOa.alloc _) (some ⟨wa.heap.size, 0, none⟩) 1 1 [.int .u8 (a2 : Int)] rfl rfl (one_rd wa a2) (one_ok a2) q2 q3 (Nat.le_trans hBw.size (le_alloc1 _ _)) ?_; intro A2 c2 w2 hO2 hg2 hor2)
                | (at_builtin; have hB2 := (hBw.alloc hBw.size (.cells #[.int .u8 (a1 : Int)] 5)).grown hg2 (Nat.le_trans hBw.size (le_alloc1 _ _)) (fun q hq => (hOa.lt q hq).1); refine wpList_append_Own _ rfl (.tmp 65) (.tmp 68) 22 rfl W1.heap.size 5 i0 _ 1 1 Try.underlying22 hi0 hz0 hz1 hz2 rfl A2 (L.length + 1) c2 _ rfl (hO2.alloc _) (some ⟨w2.heap.size, 0, none⟩) 1 1 [.int .u8 (a2 : Int)] rfl rfl (one_rd w2 a2) (one_ok a2) q4 q5 (Nat.le_trans hB2.size (le_alloc1 _ _)) ?_; intro A3 c3 w3 hO3 hg3 hor3)
                )
              go_roundw
              case rel =>
                refine ⟨j + 1, A2, c2, by omega, by rw [HN.out, List.length_append, eL.out], by rw [HS.out]; go_num, by go_num, ?_, (hBw.alloc hBw.size (.cells #[.int .u8 (a2 : Int)] 5)).grown hg2 (Nat.le_trans hBw.size (le_alloc1 _ _)) (fun q hq => (hOa.lt q hq).1)⟩
                rw [HN.out, List.length_append, eL.out, bvs_append, eB.out]
                exact hO2
              case measure => simp [intOf]; omega
            · have eL : Hid ((outAt l r j).length = 1) := by have := congrArg List.length HO.out; show _ = _; simpa [bvs_length] using this
              have eB := HO
              simp only [Bool.false_eq_true, if_false, if_true, List.nil_append, List.append_nil] at eB
              go_wp2_with (first
                | (go_at_call 81; refine (pair_at _ bt s _ rfl lB lS).mono ?_; rintro e w1 ⟨rfl, rfl⟩; rw [HF.out, HA1.out, HA2.out])
                | (go_at_call 82; (with_reducible refine (at_letter r j _ _ pp qq _ HP.out h1 h5 (by omega) HK1.out HK2.out).mono ?_); rintro e wa ⟨rfl, hBa⟩; have hOa := hO.below hBa; have hBw := nextB hB hB.size hBa)
                | (at_builtin; refine wpList_append_Own _ rfl (.tmp 59) (.tmp 62) 22 rfl W1.heap.size 5 i0 _ 1 1 Try.underlying22 hi0 hz0 hz1 hz2 rfl A1 L.length c1 (bvs L) rfl (hOa.alloc _) (some ⟨wa.heap.size, 0, none⟩) 1 1 [.int .u8 (a1 : Int)] rfl rfl (one_rd wa a1) (one_ok a1) q2 q3 (Nat.le_trans hBw.size (le_alloc1 _ _)) ?_; intro A2 c2 w2 hO2 hg2 hor2)
                | (at_builtin; refine wpList_append_Own _ rfl (.tmp 65) (.tmp 68) 22 rfl W1.heap.size 5 i0 _ 1 1 Try.underlying22 hi0 hz0 hz1 hz2 rfl A1 L.length c1 (bvs L) rfl (hOa.alloc _) (some ⟨wa.heap.size, 0, none⟩) 1 1 [.int .u8 (a2 : Int)] rfl rfl (one_rd wa a2) (one_ok a2) q2 q3 (Nat.le_trans hBw.size (le_alloc1 _ _)) ?_; intro A2 c2 w2 hO2 hg2 hor2)
                | (at_builtin; have hB2 := (hBw.alloc hBw.size (.cells #[.int .u8 (a1 : Int)] 5)).grown hg2 (Nat.le_trans hBw.size (le_alloc1 _ _)) (fun q hq => (hOa.lt q hq).1); refine wpList_append_Own _ rfl (.tmp 65) (.tmp 68) 22 rfl W1.heap.size 5 i0 _ 1 1 Try.underlying22 hi0 hz0 hz1 hz2 rfl A2 (L.length + 1) c2 _ rfl (hO2.alloc _) (some ⟨w2.heap.size, 0, none⟩) 1 1 [.int .u8 (a2 : Int)] rfl rfl (one_rd w2 a2) (one_ok a2) q4 q5 (Nat.le_trans hB2.size (le_alloc1 _ _)) ?_; intro A3 c3 w3 hO3 hg3 hor3)
                )
              go_roundw
              case rel =>
                refine ⟨j + 1, A2, c2, by omega, by rw [HN.out, List.length_append, eL.out], by rw [HS.out]; go_num, by go_num, ?_, (hBw.alloc hBw.size (.cells #[.int .u8 (a1 : Int)] 5)).grown hg2 (Nat.le_trans hBw.size (le_alloc1 _ _)) (fun q hq => (hOa.lt q hq).1)⟩
                rw [HN.out, List.length_append, eL.out, bvs_append, eB.out]
                exact hO2
              case measure => simp [intOf]; omega
            · have eL : Hid ((outAt l r j).length = 2) := by have := congrArg List.length HO.out; show _ = _; simpa [bvs_length] using this
              have eB := HO
              simp only [Bool.false_eq_true, if_false, if_true, List.nil_append, List.append_nil] at eB
              go_wp2_with (first
                | (go_at_call 81; refine (pair_at _ bt s _ rfl lB lS).mono ?_; rintro e w1 ⟨rfl, rfl⟩; rw [HF.out, HA1.out, HA2.out])
                | (go_at_call 82; (with_reducible refine (at_letter r j _ _ pp qq _ HP.out h1 h5 (by omega) HK1.out HK2.out).mono ?_); rintro e wa ⟨rfl, hBa⟩; have hOa := hO.below hBa; have hBw := nextB hB hB.size hBa)
                | (at_builtin; refine wpList_append_Own _ rfl (.tmp 59) (.tmp 62) 22 rfl W1.heap.size 5 i0 _ 1 1 Try.underlying22 hi0 hz0 hz1 hz2 rfl A1 L.length c1 (bvs L) rfl (hOa.alloc _) (some ⟨wa.heap.size, 0, none⟩) 1 1 [.int .u8 (a1 : Int)] rfl rfl (one_rd wa a1) (one_ok a1) q2 q3 (Nat.le_trans hBw.size (le_alloc1 _ _)) ?_; intro A2 c2 w2 hO2 hg2 hor2)
                | (at_builtin; refine wpList_append_Own _ rfl (.tmp 65) (.tmp 68) 22 rfl W1.heap.size 5 i0 _ 1 1 Try.underlying22 hi0 hz0 hz1 hz2 rfl A1 L.length c1 (bvs L) rfl (hOa.alloc _) (some ⟨wa.heap.size, 0, none⟩) 1 1 [.int .u8 (a2 : Int)] rfl rfl (one_rd wa a2) (one_ok a2) q2 q3 (Nat.le_trans hBw.size (le_alloc1 _ _)) ?_; intro A2 c2 w2 hO2 hg2 hor2)
                | (at_builtin; have hB2 := (hBw.alloc hBw.size (.cells #[.int .u8 (a1 : Int)] 5)).grown hg2 (Nat.le_trans hBw.size (le_alloc1 _ _)) (fun q hq => (hOa.lt q hq).1); refine wpList_append_Own _ rfl (.tmp 65) (.tmp 68) 22 rfl W1.heap.size 5 i0 _ 1 1 Try.underlying22 hi0 hz0 hz1 hz2 rfl A2 (L.length + 1) c2 _ rfl (hO2.alloc _) (some ⟨w2.heap.size, 0, none⟩) 1 1 [.int .u8 (a2 : Int)] rfl rfl (one_rd w2 a2) (one_ok a2) q4 q5 (Nat.le_trans hB2.size (le_alloc1 _ _)) ?_; intro A3 c3 w3 hO3 hg3 hor3)
                )
              go_roundw
              case rel =>
                have hB2 := (hBw.alloc hBw.size (.cells #[.int .u8 (a1 : Int)] 5)).grown hg2 (Nat.le_trans hBw.size (le_alloc1 _ _)) (fun q hq => (hOa.lt q hq).1)
                refine ⟨j + 1, A3, c3, by omega, by rw [HN.out, List.length_append, eL.out], by rw [HS.out]; go_num, by go_num, ?_, (hB2.alloc hB2.size (.cells #[.int .u8 (a2 : Int)] 5)).grown hg3 (Nat.le_trans hB2.size (le_alloc1 _ _)) (fun q hq => (hO2.lt q hq).1)⟩
                rw [HN.out, List.length_append, eL.out, bvs_append, eB.out]
                rw [← List.append_assoc]
                exact hO3
              case measure => simp [intOf]; omega
          · have hjki : ¬ (j : Int) < (n : Int) := by omega
            have hb0 : bt = 0 := by rw [← Hb.out]; exact bitI_end (by rw [HL.out]; omega)
            subst hb0
            replace hJ : bits .or .i64 ((s : Int) * 2) 0 = (F : Int) := hJ
            go_upto_region 16 with fail
            have q2 : L.length + 1 ≤ maxLen := by unfold maxLen; omega
            have q3 : (L.length + 1) * 1 ≤ 140737488355328 := by omega
            have q4 : L.length + 1 + 1 ≤ maxLen := by unfold maxLen; omega
            have q5 : (L.length + 1 + 1) * 1 ≤ 140737488355328 := by omega
            cases k1 <;> cases k2
            · have eL : Hid ((outAt l r j).length = 0) := by have := congrArg List.length HO.out; show _ = _; simpa [bvs_length] using this
              have eB := HO
              simp only [Bool.false_eq_true, if_false, if_true, List.nil_append, List.append_nil] at eB
              go_wp2_with (first
                | (go_at_call 81; refine (pair_at _ 0 s _ rfl lB lS).mono ?_; rintro e w1 ⟨rfl, rfl⟩; rw [HF.out, HA1.out, HA2.out])
                | (go_at_call 82; (with_reducible refine (at_letter r j _ _ pp qq _ HP.out h1 h5 (by omega) HK1.out HK2.out).mono ?_); rintro e wa ⟨rfl, hBa⟩; have hOa := hO.below hBa; have hBw := nextB hB hB.size hBa)
                | (at_builtin; refine wpList_append_Own _ rfl (.tmp 59) (.tmp 62) 22 rfl W1.heap.size 5 i0 _ 1 1 Try.underlying22 hi0 hz0 hz1 hz2 rfl A1 L.length c1 (bvs L) rfl (hOa.alloc _) (some ⟨wa.heap.size, 0, none⟩) 1 1 [.int .u8 (a1 : Int)] rfl rfl (one_rd wa a1) (one_ok a1) q2 q3 (Nat.le_trans hBw.size (le_alloc1 _ _)) ?_; intro A2 c2 w2 hO2 hg2 hor2)
                | (at_builtin; refine wpList_append_Own _ rfl (.tmp 65) (.tmp 68) 22 rfl W1.heap.size 5 i0 _ 1 1 Try.underlying22 hi0 hz0 hz1 hz2 rfl A1 L.length c1 (bvs L) rfl (hOa.alloc _) (some ⟨wa.heap.size, 0, none⟩) 1 1 [.int .u8 (a2 : Int)] rfl rfl (one_rd wa a2) (one_ok a2) q2 q3 (Nat.le_trans hBw.size (le_alloc1 _ _)) ?_; intro A2 c2 w2 hO2 hg2 hor2)
                | (at_builtin; have hB2 := (hBw.alloc hBw.size (.cells #[.int .u8 (a1 : Int)] 5)).grown hg2 (Nat.le_trans hBw.size (le_alloc1 _ _)) (fun q hq => (hOa.lt q hq).1); refine wpList_append_Own _ rfl (.tmp 65) (.tmp 68) 22 rfl W1.heap.size 5 i0 _ 1 1 Try.underlying22 hi0 hz0 hz1 hz2 rfl A2 (L.length + 1) c2 _ rfl (hO2.alloc _) (some ⟨w2.heap.size, 0, none⟩) 1 1 [.int .u8 (a2 : Int)] rfl rfl (one_rd w2 a2) (one_ok a2) q4 q5 (Nat.le_trans hB2.size (le_alloc1 _ _)) ?_; intro A3 c3 w3 hO3 hg3 hor3)
                )
              go_roundw
              case rel =>
                refine ⟨j + 1, A1, c1, by omega, by rw [HN.out, List.length_append, eL.out, Nat.add_zero], by rw [HS.out]; go_num, by go_num, ?_, hBw⟩
                rw [HN.out, List.length_append, eL.out, bvs_append, eB.out, Nat.add_zero]
                rw [List.append_nil]
                exact hOa
              case measure => simp [intOf]; omega
            · have eL : Hid ((outAt l r j).length = 1) := by have := congrArg List.length HO.out; show _ = _; simpa [bvs_length] using this
              have eB := HO
              simp only [Bool.false_eq_true, if_false, if_true, List.nil_append, List.append_nil] at eB
              go_wp2_with (first
                | (go_at_call 81; refine (pair_at _ 0 s _ rfl lB lS).mono ?_; rintro e w1 ⟨rfl, rfl⟩; rw [HF.out, HA1.out, HA2.out])
                | (go_at_call 82; (with_reducible refine (at_letter r j _ _ pp qq _ HP.out h1 h5 (by omega) HK1.out HK2.out).mono ?_); rintro e wa ⟨rfl, hBa⟩; have hOa := hO.below hBa; have hBw := nextB hB hB.size hBa)
                | (at_builtin; refine wpList_append_Own _ rfl (.tmp 59) (.tmp 62) 22 rfl W1.heap.size 5 i0 _ 1 1 Try.underlying22 hi0 hz0 hz1 hz2 rfl A1 L.length c1 (bvs L) rfl (hOa.alloc _) (some ⟨wa.heap.size, 0, none⟩) 1 1 [.int .u8 (a1 : Int)] rfl rfl (one_rd wa a1) (one_ok a1) q2 q3 (Nat.le_trans hBw.size (le_alloc1 _ _)) ?_; intro A2 c2 w2 hO2 hg2 hor2)
                | (at_builtin; refine wpList_append_Own _ rfl (.tmp 65) (.tmp 68) 22 rfl W1.heap.size 5 i0 _ 1 1 Try.underlying22 hi0 hz0 hz1 hz2 rfl A1 L.length c1 (bvs L) rfl (hOa.alloc _) (some ⟨wa.heap.size, 0, none⟩) 1 1 [.int .u8 (a2 : Int)] rfl rfl (one_rd wa a2) (one_ok a2) q2 q3 (Nat.le_trans hBw.size (le_alloc1 _ _)) ?_; intro A2 c2 w2 hO2 hg2 hor2)
                | (at_builtin; have hB2 := (hBw.alloc hBw.size (.cells #[.int .u8 (a1 : Int)] 5)).grown hg2 (Nat.le_trans hBw.size (le_alloc1 _ _)) (fun q hq => (hOa.lt q hq).1); refine wpList_append_Own _ rfl (.tmp 65) (.tmp 68) 22 rfl W1.heap.size 5 i0 _ 1 1 Try.underlying22 hi0 hz0 hz1 hz2 rfl A2 (L.length + 1) c2 _ rfl (hO2.alloc _) (some ⟨w2.heap.size, 0, none⟩) 1 1 [.int .u8 (a2 : Int)] rfl rfl (one_rd w2 a2) (one_ok a2) q4 q5 (Nat.le_trans hB2.size (le_alloc1 _ _)) ?_; intro A3 c3 w3 hO3 hg3 hor3)
                )
              go_roundw
              case rel =>
                refine ⟨j + 1, A2, c2, by omega, by rw [HN.out, List.length_append, eL.out], by rw [HS.out]; go_num, by go_num, ?_, (hBw.alloc hBw.size (.cells #[.int .u8 (a2 : Int)] 5)).grown hg2 (Nat.le_trans hBw.size (le_alloc1 _ _)) (fun q hq => (hOa.lt q hq).1)⟩
                rw [HN.out, List.length_append, eL.out, bvs_append, eB.out]
                exact hO2
              case measure => simp [intOf]; omega
            · have eL : Hid ((outAt l r j).length = 1) := by have := congrArg List.length HO.out; show _ = _; simpa [bvs_length] using this
              have eB := HO
              simp only [Bool.false_eq_true, if_false, if_true, List.nil_append, List.append_nil] at eB
              go_wp2_with (first
                | (go_at_call 81; refine (pair_at _ 0 s _ rfl lB lS).mono ?_; rintro e w1 ⟨rfl, rfl⟩; rw [HF.out, HA1.out, HA2.out])
                | (go_at_call 82; (with_reducible refine (at_letter r j _ _ pp qq _ HP.out h1 h5 (by omega) HK1.out HK2.out).mono ?_); rintro e wa ⟨rfl, hBa⟩; have hOa := hO.below hBa; have hBw := nextB hB hB.size hBa)
                | (at_builtin; refine wpList_append_Own _ rfl (.tmp 59) (.tmp 62) 22 rfl W1.heap.size 5 i0 _ 1 1 Try.underlying22 hi0 hz0 hz1 hz2 rfl A1 L.length c1 (bvs L) rfl (hOa.alloc _) (some ⟨wa.heap.size, 0, none⟩) 1 1 [.int .u8 (a1 : Int)] rfl rfl (one_rd wa a1) (one_ok a1) q2 q3 (Nat.le_trans hBw.size (le_alloc1 _ _)) ?_; intro A2 c2 w2 hO2 hg2 hor2)
                | (at_builtin; refine wpList_append_Own _ rfl (.tmp 65) (.tmp 68) 22 rfl W1.heap.size 5 i0 _ 1 1 Try.underlying22 hi0 hz0 hz1 hz2 rfl A1 L.length c1 (bvs L) rfl (hOa.alloc _) (some ⟨wa.heap.size, 0, none⟩) 1 1 [.int .u8 (a2 : Int)] rfl rfl (one_rd wa a2) (one_ok a2) q2 q3 (Nat.le_trans hBw.size (le_alloc1 _ _)) ?_; intro A2 c2 w2 hO2 hg2 hor2)
                | (at_builtin; have hB2 := (hBw.alloc hBw.size (.cells #[.int .u8 (a1 : Int)] 5)).grown hg2 (Nat.le_trans hBw.size (le_alloc1 _ _)) (fun q hq => (hOa.lt q hq).1); refine wpList_append_Own _ rfl (.tmp 65) (.tmp 68) 22 rfl W1.heap.size 5 i0 _ 1 1 Try.underlying22 hi0 hz0 hz1 hz2 rfl A2 (L.length + 1) c2 _ rfl (hO2.alloc _) (some ⟨w2.heap.size, 0, none⟩) 1 1 [.int .u8 (a2 : Int)] rfl rfl (one_rd w2 a2) (one_ok a2) q4 q5 (Nat.le_trans hB2.size (le_alloc1 _ _)) ?_; intro A3 c3 w3 hO3 hg3 hor3)
                )
              go_roundw
              case rel =>
                refine ⟨j + 1, A2, c2, by omega, by rw [HN.out, List.length_append, eL.out], by rw [HS.out]; go_num, by go_num, ?_, (hBw.alloc hBw.size (.cells #[.int .u8 (a1 : Int)] 5)).grown hg2 (Nat.le_trans hBw.size (le_alloc1 _ _)) (fun q hq => (hOa.lt q hq).1)⟩
                rw [HN.out, List.length_append, eL.out, bvs_append, eB.out]
                exact hO2
              case measure => simp [intOf]; omega
            · have eL : Hid ((outAt l r j).length = 2) := by have := congrArg List.length HO.out; show _ = _; simpa [bvs_length] using this
              have eB := HO
              simp only [Bool.false_eq_true, if_false, if_true, List.nil_append, List.append_nil] at eB
              go_wp2_with (first
                | (go_at_call 81; refine (pair_at _ 0 s _ rfl lB lS).mono ?_; rintro e w1 ⟨rfl, rfl⟩; rw [HF.out, HA1.out, HA2.out])
                | (go_at_call 82; (with_reducible refine (at_letter r j _ _ pp qq _ HP.out h1 h5 (by omega) HK1.out HK2.out).mono ?_); rintro e wa ⟨rfl, hBa⟩; have hOa := hO.below hBa; have hBw := nextB hB hB.size hBa)
                | (at_builtin; refine wpList_append_Own _ rfl (.tmp 59) (.tmp 62) 22 rfl W1.heap.size 5 i0 _ 1 1 Try.underlying22 hi0 hz0 hz1 hz2 rfl A1 L.length c1 (bvs L) rfl (hOa.alloc _) (some ⟨wa.heap.size, 0, none⟩) 1 1 [.int .u8 (a1 : Int)] rfl rfl (one_rd wa a1) (one_ok a1) q2 q3 (Nat.le_trans hBw.size (le_alloc1 _ _)) ?_; intro A2 c2 w2 hO2 hg2 hor2)
                | (at_builtin; refine wpList_append_Own _ rfl (.tmp 65) (.tmp 68) 22 rfl W1.heap.size 5 i0 _ 1 1 Try.underlying22 hi0 hz0 hz1 hz2 rfl A1 L.length c1 (bvs L) rfl (hOa.alloc _) (some ⟨wa.heap.size, 0, none⟩) 1 1 [.int .u8 (a2 : Int)] rfl rfl (one_rd wa a2) (one_ok a2) q2 q3 (Nat.le_trans hBw.size (le_alloc1 _ _)) ?_; intro A2 c2 w2 hO2 hg2 hor2)
                | (at_builtin; have hB2 := (hBw.alloc hBw.size (.cells #[.int .u8 (a1 : Int)] 5)).grown hg2 (Nat.le_trans hBw.size (le_alloc1 _ _)) (fun q hq => (hOa.lt q hq).1); refine wpList_append_Own _ rfl (.tmp 65) (.tmp 68) 22 rfl W1.heap.size 5 i0 _ 1 1 Try.underlying22 hi0 hz0 hz1 hz2 rfl A2 (L.length + 1) c2 _ rfl (hO2.alloc _) (some ⟨w2.heap.size, 0, none⟩) 1 1 [.int .u8 (a2 : Int)] rfl rfl (one_rd w2 a2) (one_ok a2) q4 q5 (Nat.le_trans hB2.size (le_alloc1 _ _)) ?_; intro A3 c3 w3 hO3 hg3 hor3)
                )
              go_roundw
              case rel =>
                have hB2 := (hBw.alloc hBw.size (.cells #[.int .u8 (a1 : Int)] 5)).grown hg2 (Nat.le_trans hBw.size (le_alloc1 _ _)) (fun q hq => (hOa.lt q hq).1)
                refine ⟨j + 1, A3, c3, by omega, by rw [HN.out, List.length_append, eL.out], by rw [HS.out]; go_num, by go_num, ?_, (hB2.alloc hB2.size (.cells #[.int .u8 (a2 : Int)] 5)).grown hg3 (Nat.le_trans hB2.size (le_alloc1 _ _)) (fun q hq => (hO2.lt q hq).1)⟩
                rw [HN.out, List.length_append, eL.out, bvs_append, eB.out]
                rw [← List.append_assoc]
                exact hO3
              case measure => simp [intOf]; omega
        · obtain rfl : j = n + 6 := by omega
          go_wp2
          go_ret2
          exact ⟨A1, c1, rfl, hO.mono hBw1.size, hBw1.trans (hB.mono hBw1.size)⟩
end Go.Proofs.Ytolcaolmdfbfhaa
