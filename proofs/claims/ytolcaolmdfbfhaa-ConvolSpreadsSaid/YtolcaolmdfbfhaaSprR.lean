/-
  The document's Spread.
-/
import Derived.Test.YtolcaolmdfbfhaaKept
import Derived.Test.YtolcaolmdfbfhaaOnly
import Derived.Test.YtolcaolmdfbfhaaRes
import Derived.Deep.DeepCutAuto
namespace Go.Proofs.Ytolcaolmdfbfhaa
set_option linter.unusedSimpArgs false
set_option linter.unusedVariables false
open Go.RowKit

theorem symbols_at (v : Int) (b s : Nat) (w : World) (hv : v = (b : Int)) (hb : b ≤ 1) (hs : s < 64) :
    Calls Try.prog 76 #[.int .i64 v, .int .i64 (s : Int)] w fun e w' => e = .returned (.tuple #[.int .i64 (symA (s * 2 + b) : Nat), .int .i64 (symB (s * 2 + b) : Nat)]) ∧ w = w' := by
  subst hv
  exact symbols_any b s w hb hs
theorem kept_letter (r : Nat) (i : Nat) (s k : Bool) (w : World) (h1 : 1 ≤ r) (h5 : r ≤ 5) (hi : i ≤ 4611686018427387904) (hk : keptP r i s = k) :
    Calls Try.prog 77 #[.int .i64 (r : Int), .int .i64 (i : Int), .bool s] w fun e w' => e = .returned (.bool k) ∧ w = w' := by
  subst hk
  exact kept_any r i s w h1 h5 hi
theorem one_rd (w : World) (a : Nat) : Rd (w.alloc (.cells #[.int .u8 (a : Int)] 5)) (some ⟨w.heap.size, 0, none⟩) [.int .u8 (a : Int)] := Rd.of_block (heap_alloc_new w _) (fun i u h => by simpa using h)
theorem le_alloc1 (w : World) (o : Obj) : w.heap.size ≤ (w.alloc o).heap.size := by
  rw [World.alloc, Array.size_push]; omega
theorem one_ok (a : Nat) : ∀ u ∈ [Value.int .u8 (a : Int)], u.oneCell' = true := fun u hu => by simp at hu; subst hu; rfl
theorem out_at (l : List UInt8) (r k F a1 a2 : Nat) (k1 k2 : Bool) (hF : stN l k * 2 + bitI l k = F) (h1 : symA F = a1) (h2 : symB F = a2) (e1 : keptP r k false = k1) (e2 : keptP r k true = k2) :
    bvs (outAt l r k) = (if k1 then [.int .u8 (a1 : Int)] else []) ++ (if k2 then [.int .u8 (a2 : Int)] else []) := by
  subst hF h1 h2 e1 e2
  unfold outAt
  rw [bvs_append]
  congr 1
  · split
    · simp [bvs, bv_small (symA_lt _)]
    · rfl
  · split
    · simp [bvs, bv_small (symB_lt _)]
    · rfl

def sprOk (l : List UInt8) (r n : Nat) : List UInt8 × Int := if bitsOnly l then (sprN l r (n + 6), 0) else ([], 2)

set_option maxHeartbeats 6400000 in
set_option maxRecDepth 100000 in
theorem rspread_good (A : Option Addr) (l : List UInt8) (r n c : Nat) (w : World) (hl : l.length = n) (ha : Rd w A (bvs l)) (hn : n ≤ 16384) (h1 : 1 ≤ r) (h5 : r ≤ 5) :
    Calls Try.prog 26 #[.slice A n c, .int .i64 (r : Int)] w fun e w' => BytesRes w w' (sprOk l r n) e := by
  obtain ⟨i0, hi0, hz0, hz1, hz2⟩ := info_parts u8info
  have HL := Lib.hid hl
  clear hl
  have d1 : decide ((r : Int) < 1) = false := by simp; omega
  have d2 : decide ((5 : Int) < (r : Int)) = false := by simp; omega
  obtain ⟨R, HR⟩ : ∃ R, Hid (sprOk l r n = R) := ⟨_, rfl⟩
  rw [HR.out]
  go_enter Try.func26, Try.ntmps26
  go_wp2_with fail
  clear d1 d2
  go_loop [6] (fun i => ∃ k : Nat, k ≤ n ∧ i = .int .i64 k ∧ ∀ j, j < k → (l.getD j 0).toNat ≤ 1) (fun i => n - (intOf i).toNat)
  case atStart => exact ⟨0, by omega, by simp, fun j hj => by omega⟩
  case round =>
    obtain ⟨k, hk, rfl, hA⟩ := hrel
    have HA := Lib.hid hA
    clear hA
    by_cases hkn : k < n
    · have hkni : (k : Int) < (n : Int) := by omega
      obtain ⟨b, off, rfl, hc⟩ := ha.byteD (k := k) (by rw [HL.out]; omega)
      obtain ⟨x, HX⟩ : ∃ x, Hid (l.getD k 0 = x) := ⟨_, rfl⟩
      rw [HX.out] at hc
      by_cases hx : 1 < (x.toNat : Int)
      · have hx2 : decide (1 < (x.toNat : Int)) = true := by simpa using hx
        have hno : ¬ bitsOnly l := fun h => by
          have := bits_get h k
          rw [HX.out] at this
          omega
        have eR : R = ([], 2) := by rw [← HR.out, sprOk, if_neg hno]
        subst eR
        go_wp2
        go_ret2
        exact BytesRes.none_ (Below.refl _ _)
      · have hx2 : decide (1 < (x.toNat : Int)) = false := by simpa using hx
        go_wp2
        go_round
        case rel =>
          refine ⟨k + 1, by omega, by go_num, fun j hj => ?_⟩
          by_cases hjk : j < k
          · exact HA.out j hjk
          · obtain rfl : j = k := by omega
            rw [HX.out]
            omega
        case measure => simp [intOf]; omega
    · obtain rfl : k = n := by omega
      have hall : bitsOnly l := bits_all (by rw [HL.out]; exact HA.out)
      have eR : R = (sprN l r (k + 6), 0) := by rw [← HR.out, sprOk, if_pos hall]
      subst eR
      clear HA HR
      go_wp2_with fail
      go_loopw [7, 8, 9] (fun o s i wr => ∃ (j : Nat) (A1 : Option Addr) (c1 : Nat), j ≤ k + 6 ∧ o = .slice A1 (sprN l r j).length c1 ∧ s = .int .i64 (stN l j : Nat) ∧ i = .int .i64 j ∧ Own wr w.heap.size 5 1 A1 (sprN l r j).length c1 (bvs (sprN l r j)) ∧ Below w.heap.size w wr) (fun _ _ i _ => k + 6 - (intOf i).toNat)
      case atStart => exact ⟨0, none, 0, by omega, by simp [sprN], by simp [stN], by simp, Own.none_ _ _ _ _, Below.refl _ _⟩
      case round =>
        obtain ⟨j, A1, c1, hj, rfl, rfl, rfl, hO, hB⟩ := hrel
        by_cases h6 : j < k + 6
        · have h6i : (j : Int) < (k : Int) + 6 := by omega
          have HN := Lib.hid (sprN_succ l r j)
          have HS := Lib.hid (stN_succ l j)
          have lS := stN_lt l j
          have lB := bitI_lt hall j
          have lN := sprN_len l r j
          obtain ⟨F, HF⟩ : ∃ F, Hid (stN l j * 2 + bitI l j = F) := ⟨_, rfl⟩
          have lF : F < 128 := by rw [← HF.out]; omega
          have lA1 := symA_lt F
          have lA2 := symB_lt F
          obtain ⟨a1, HA1⟩ : ∃ a1, Hid (symA F = a1) := ⟨_, rfl⟩
          obtain ⟨a2, HA2⟩ : ∃ a2, Hid (symB F = a2) := ⟨_, rfl⟩
          rw [HA1.out] at lA1
          rw [HA2.out] at lA2
          obtain ⟨k1, HK1⟩ : ∃ k1, Hid (keptP r j false = k1) := ⟨_, rfl⟩
          obtain ⟨k2, HK2⟩ : ∃ k2, Hid (keptP r j true = k2) := ⟨_, rfl⟩
          have HO := Lib.hid (out_at l r j F a1 a2 k1 k2 HF.out HA1.out HA2.out HK1.out HK2.out)
          obtain ⟨s, Hs⟩ : ∃ s, Hid (stN l j = s) := ⟨_, rfl⟩
          obtain ⟨bt, Hb⟩ : ∃ bt, Hid (bitI l j = bt) := ⟨_, rfl⟩
          rw [Hs.out, Hb.out] at HF
          rw [Hs.out, Hb.out, HF.out] at HS
          rw [Hs.out] at lS ⊢
          rw [Hb.out] at lB
          have HJ := Lib.hid (join_bit (s := s) lB lS)
          rw [HF.out] at HJ
          have HM : Hid (bits .and .i64 (F : Int) 63 = ((F % 64 : Nat) : Int)) := and_mask 6 (x := F) (by omega) (by decide)
          generalize sprN l r j = L at *
          by_cases hjk : j < k
          · have hjki : (j : Int) < (k : Int) := by omega
            obtain ⟨b, off, rfl, hc⟩ := (ha.below hB).byteD (k := j) (by rw [HL.out]; omega)
            obtain ⟨x, HX⟩ : ∃ x, Hid (l.getD j 0 = x) := ⟨_, rfl⟩
            rw [HX.out] at hc
            have HB : Hid (wrap64 (x.toNat : Int) = (bt : Int)) := by have := byte_lt x; show _ = _; rw [IntWalk.wrap64_in _ (by omega), ← Hb.out, ← HX.out]; rfl
            go_upto_region 18 with fail
            rw [HB.out]
            have q2 : L.length + 1 ≤ maxLen := by unfold maxLen; omega
            have q3 : (L.length + 1) * 1 ≤ 140737488355328 := by omega
            have q4 : L.length + 1 + 1 ≤ maxLen := by unfold maxLen; omega
            have q5 : (L.length + 1 + 1) * 1 ≤ 140737488355328 := by omega
            cases k1 <;> cases k2
            · have eL : Hid ((outAt l r j).length = 0) := by have := congrArg List.length HO.out; show _ = _; simpa [bvs_length] using this
              have eB := HO
              simp only [Bool.false_eq_true, if_false, if_true, List.nil_append, List.append_nil] at eB
              go_wp2_with (first
                | (go_at_call 76; refine (symbols_at _ bt s _ rfl lB lS).mono ?_; rintro e w1 ⟨rfl, rfl⟩; rw [HF.out, HA1.out, HA2.out])
                | (go_at_call 77; (with_reducible refine (kept_letter r j false _ _ h1 h5 (by omega) HK1.out).mono ?_); rintro e w1 ⟨rfl, rfl⟩)
                | (go_at_call 77; (with_reducible refine (kept_letter r j true _ _ h1 h5 (by omega) HK2.out).mono ?_); rintro e w1 ⟨rfl, rfl⟩)
                | (at_builtin; refine wpList_append_Own _ rfl (.tmp 58) (.tmp 61) 22 rfl w.heap.size 5 i0 _ 1 1 Try.underlying22 hi0 hz0 hz1 hz2 rfl A1 L.length c1 (bvs L) rfl (hO.alloc _) (some ⟨wr.heap.size, 0, none⟩) 1 1 [.int .u8 (a1 : Int)] rfl rfl (one_rd wr a1) (one_ok a1) q2 q3 (Nat.le_trans hB.size (le_alloc1 _ _)) ?_; intro A2 c2 w2 hO2 hg2 hor2)
                | (at_builtin; refine wpList_append_Own _ rfl (.tmp 66) (.tmp 69) 22 rfl w.heap.size 5 i0 _ 1 1 Try.underlying22 hi0 hz0 hz1 hz2 rfl A1 L.length c1 (bvs L) rfl (hO.alloc _) (some ⟨wr.heap.size, 0, none⟩) 1 1 [.int .u8 (a2 : Int)] rfl rfl (one_rd wr a2) (one_ok a2) q2 q3 (Nat.le_trans hB.size (le_alloc1 _ _)) ?_; intro A2 c2 w2 hO2 hg2 hor2)
                | (at_builtin; have hB2 := (hB.alloc hB.size (.cells #[.int .u8 (a1 : Int)] 5)).grown hg2 (Nat.le_trans hB.size (le_alloc1 _ _)) (fun q hq => (hO.lt q hq).1); refine wpList_append_Own _ rfl (.tmp 66) (.tmp 69) 22 rfl w.heap.size 5 i0 _ 1 1 Try.underlying22 hi0 hz0 hz1 hz2 rfl A2 (L.length + 1) c2 _ rfl (hO2.alloc _) (some ⟨w2.heap.size, 0, none⟩) 1 1 [.int .u8 (a2 : Int)] rfl rfl (one_rd w2 a2) (one_ok a2) q4 q5 (Nat.le_trans hB2.size (le_alloc1 _ _)) ?_; intro A3 c3 w3 hO3 hg3 hor3)
                )
              go_roundw
              case rel =>
                refine ⟨j + 1, A1, c1, by omega, by rw [HN.out, List.length_append, eL.out, Nat.add_zero], by rw [HS.out]; show _ = Value.int .i64 ((F % 64 : Nat) : Int); rw [← HM.out, ← HJ.out], by go_num, ?_, hB⟩
                rw [HN.out, List.length_append, eL.out, bvs_append, eB.out, Nat.add_zero]
                rw [List.append_nil]
                exact hO
              case measure => simp [intOf]; omega
            · have eL : Hid ((outAt l r j).length = 1) := by have := congrArg List.length HO.out; show _ = _; simpa [bvs_length] using this
              have eB := HO
              simp only [Bool.false_eq_true, if_false, if_true, List.nil_append, List.append_nil] at eB
              go_wp2_with (first
                | (go_at_call 76; refine (symbols_at _ bt s _ rfl lB lS).mono ?_; rintro e w1 ⟨rfl, rfl⟩; rw [HF.out, HA1.out, HA2.out])
                | (go_at_call 77; (with_reducible refine (kept_letter r j false _ _ h1 h5 (by omega) HK1.out).mono ?_); rintro e w1 ⟨rfl, rfl⟩)
                | (go_at_call 77; (with_reducible refine (kept_letter r j true _ _ h1 h5 (by omega) HK2.out).mono ?_); rintro e w1 ⟨rfl, rfl⟩)
                | (at_builtin; refine wpList_append_Own _ rfl (.tmp 58) (.tmp 61) 22 rfl w.heap.size 5 i0 _ 1 1 Try.underlying22 hi0 hz0 hz1 hz2 rfl A1 L.length c1 (bvs L) rfl (hO.alloc _) (some ⟨wr.heap.size, 0, none⟩) 1 1 [.int .u8 (a1 : Int)] rfl rfl (one_rd wr a1) (one_ok a1) q2 q3 (Nat.le_trans hB.size (le_alloc1 _ _)) ?_; intro A2 c2 w2 hO2 hg2 hor2)
                | (at_builtin; refine wpList_append_Own _ rfl (.tmp 66) (.tmp 69) 22 rfl w.heap.size 5 i0 _ 1 1 Try.underlying22 hi0 hz0 hz1 hz2 rfl A1 L.length c1 (bvs L) rfl (hO.alloc _) (some ⟨wr.heap.size, 0, none⟩) 1 1 [.int .u8 (a2 : Int)] rfl rfl (one_rd wr a2) (one_ok a2) q2 q3 (Nat.le_trans hB.size (le_alloc1 _ _)) ?_; intro A2 c2 w2 hO2 hg2 hor2)
                | (at_builtin; have hB2 := (hB.alloc hB.size (.cells #[.int .u8 (a1 : Int)] 5)).grown hg2 (Nat.le_trans hB.size (le_alloc1 _ _)) (fun q hq => (hO.lt q hq).1); refine wpList_append_Own _ rfl (.tmp 66) (.tmp 69) 22 rfl w.heap.size 5 i0 _ 1 1 Try.underlying22 hi0 hz0 hz1 hz2 rfl A2 (L.length + 1) c2 _ rfl (hO2.alloc _) (some ⟨w2.heap.size, 0, none⟩) 1 1 [.int .u8 (a2 : Int)] rfl rfl (one_rd w2 a2) (one_ok a2) q4 q5 (Nat.le_trans hB2.size (le_alloc1 _ _)) ?_; intro A3 c3 w3 hO3 hg3 hor3)
                )
              go_roundw
              case rel =>
                refine ⟨j + 1, A2, c2, by omega, by rw [HN.out, List.length_append, eL.out], by rw [HS.out]; show _ = Value.int .i64 ((F % 64 : Nat) : Int); rw [← HM.out, ← HJ.out], by go_num, ?_, (hB.alloc hB.size (.cells #[.int .u8 (a2 : Int)] 5)).grown hg2 (Nat.le_trans hB.size (le_alloc1 _ _)) (fun q hq => (hO.lt q hq).1)⟩
                rw [HN.out, List.length_append, eL.out, bvs_append, eB.out]
                exact hO2
              case measure => simp [intOf]; omega
            · have eL : Hid ((outAt l r j).length = 1) := by have := congrArg List.length HO.out; show _ = _; simpa [bvs_length] using this
              have eB := HO
              simp only [Bool.false_eq_true, if_false, if_true, List.nil_append, List.append_nil] at eB
              go_wp2_with (first
                | (go_at_call 76; refine (symbols_at _ bt s _ rfl lB lS).mono ?_; rintro e w1 ⟨rfl, rfl⟩; rw [HF.out, HA1.out, HA2.out])
                | (go_at_call 77; (with_reducible refine (kept_letter r j false _ _ h1 h5 (by omega) HK1.out).mono ?_); rintro e w1 ⟨rfl, rfl⟩)
                | (go_at_call 77; (with_reducible refine (kept_letter r j true _ _ h1 h5 (by omega) HK2.out).mono ?_); rintro e w1 ⟨rfl, rfl⟩)
                | (at_builtin; refine wpList_append_Own _ rfl (.tmp 58) (.tmp 61) 22 rfl w.heap.size 5 i0 _ 1 1 Try.underlying22 hi0 hz0 hz1 hz2 rfl A1 L.length c1 (bvs L) rfl (hO.alloc _) (some ⟨wr.heap.size, 0, none⟩) 1 1 [.int .u8 (a1 : Int)] rfl rfl (one_rd wr a1) (one_ok a1) q2 q3 (Nat.le_trans hB.size (le_alloc1 _ _)) ?_; intro A2 c2 w2 hO2 hg2 hor2)
                | (at_builtin; refine wpList_append_Own _ rfl (.tmp 66) (.tmp 69) 22 rfl w.heap.size 5 i0 _ 1 1 Try.underlying22 hi0 hz0 hz1 hz2 rfl A1 L.length c1 (bvs L) rfl (hO.alloc _) (some ⟨wr.heap.size, 0, none⟩) 1 1 [.int .u8 (a2 : Int)] rfl rfl (one_rd wr a2) (one_ok a2) q2 q3 (Nat.le_trans hB.size (le_alloc1 _ _)) ?_; intro A2 c2 w2 hO2 hg2 hor2)
                | (at_builtin; have hB2 := (hB.alloc hB.size (.cells #[.int .u8 (a1 : Int)] 5)).grown hg2 (Nat.le_trans hB.size (le_alloc1 _ _)) (fun q hq => (hO.lt q hq).1); refine wpList_append_Own _ rfl (.tmp 66) (.tmp 69) 22 rfl w.heap.size 5 i0 _ 1 1 Try.underlying22 hi0 hz0 hz1 hz2 rfl A2 (L.length + 1) c2 _ rfl (hO2.alloc _) (some ⟨w2.heap.size, 0, none⟩) 1 1 [.int .u8 (a2 : Int)] rfl rfl (one_rd w2 a2) (one_ok a2) q4 q5 (Nat.le_trans hB2.size (le_alloc1 _ _)) ?_; intro A3 c3 w3 hO3 hg3 hor3)
                )
              go_roundw
              case rel =>
                refine ⟨j + 1, A2, c2, by omega, by rw [HN.out, List.length_append, eL.out], by rw [HS.out]; show _ = Value.int .i64 ((F % 64 : Nat) : Int); rw [← HM.out, ← HJ.out], by go_num, ?_, (hB.alloc hB.size (.cells #[.int .u8 (a1 : Int)] 5)).grown hg2 (Nat.le_trans hB.size (le_alloc1 _ _)) (fun q hq => (hO.lt q hq).1)⟩
                rw [HN.out, List.length_append, eL.out, bvs_append, eB.out]
                exact hO2
              case measure => simp [intOf]; omega
            · have eL : Hid ((outAt l r j).length = 2) := by have := congrArg List.length HO.out; show _ = _; simpa [bvs_length] using this
              have eB := HO
              simp only [Bool.false_eq_true, if_false, if_true, List.nil_append, List.append_nil] at eB
              go_wp2_with (first
                | (go_at_call 76; refine (symbols_at _ bt s _ rfl lB lS).mono ?_; rintro e w1 ⟨rfl, rfl⟩; rw [HF.out, HA1.out, HA2.out])
                | (go_at_call 77; (with_reducible refine (kept_letter r j false _ _ h1 h5 (by omega) HK1.out).mono ?_); rintro e w1 ⟨rfl, rfl⟩)
                | (go_at_call 77; (with_reducible refine (kept_letter r j true _ _ h1 h5 (by omega) HK2.out).mono ?_); rintro e w1 ⟨rfl, rfl⟩)
                | (at_builtin; refine wpList_append_Own _ rfl (.tmp 58) (.tmp 61) 22 rfl w.heap.size 5 i0 _ 1 1 Try.underlying22 hi0 hz0 hz1 hz2 rfl A1 L.length c1 (bvs L) rfl (hO.alloc _) (some ⟨wr.heap.size, 0, none⟩) 1 1 [.int .u8 (a1 : Int)] rfl rfl (one_rd wr a1) (one_ok a1) q2 q3 (Nat.le_trans hB.size (le_alloc1 _ _)) ?_; intro A2 c2 w2 hO2 hg2 hor2)
                | (at_builtin; refine wpList_append_Own _ rfl (.tmp 66) (.tmp 69) 22 rfl w.heap.size 5 i0 _ 1 1 Try.underlying22 hi0 hz0 hz1 hz2 rfl A1 L.length c1 (bvs L) rfl (hO.alloc _) (some ⟨wr.heap.size, 0, none⟩) 1 1 [.int .u8 (a2 : Int)] rfl rfl (one_rd wr a2) (one_ok a2) q2 q3 (Nat.le_trans hB.size (le_alloc1 _ _)) ?_; intro A2 c2 w2 hO2 hg2 hor2)
                | (at_builtin; have hB2 := (hB.alloc hB.size (.cells #[.int .u8 (a1 : Int)] 5)).grown hg2 (Nat.le_trans hB.size (le_alloc1 _ _)) (fun q hq => (hO.lt q hq).1); refine wpList_append_Own _ rfl (.tmp 66) (.tmp 69) 22 rfl w.heap.size 5 i0 _ 1 1 Try.underlying22 hi0 hz0 hz1 hz2 rfl A2 (L.length + 1) c2 _ rfl (hO2.alloc _) (some ⟨w2.heap.size, 0, none⟩) 1 1 [.int .u8 (a2 : Int)] rfl rfl (one_rd w2 a2) (one_ok a2) q4 q5 (Nat.le_trans hB2.size (le_alloc1 _ _)) ?_; intro A3 c3 w3 hO3 hg3 hor3)
                )
              go_roundw
              case rel =>
                have hB2 := (hB.alloc hB.size (.cells #[.int .u8 (a1 : Int)] 5)).grown hg2 (Nat.le_trans hB.size (le_alloc1 _ _)) (fun q hq => (hO.lt q hq).1)
                refine ⟨j + 1, A3, c3, by omega, by rw [HN.out, List.length_append, eL.out], by rw [HS.out]; show _ = Value.int .i64 ((F % 64 : Nat) : Int); rw [← HM.out, ← HJ.out], by go_num, ?_, (hB2.alloc hB2.size (.cells #[.int .u8 (a2 : Int)] 5)).grown hg3 (Nat.le_trans hB2.size (le_alloc1 _ _)) (fun q hq => (hO2.lt q hq).1)⟩
                rw [HN.out, List.length_append, eL.out, bvs_append, eB.out]
                rw [← List.append_assoc]
                exact hO3
              case measure => simp [intOf]; omega
          · have hjki : ¬ (j : Int) < (k : Int) := by omega
            have hb0 : bt = 0 := by rw [← Hb.out]; exact bitI_end (by rw [HL.out]; omega)
            subst hb0
            replace HJ : Hid (bits .or .i64 ((s : Int) * 2) 0 = (F : Int)) := HJ
            go_upto_region 18 with fail
            have q2 : L.length + 1 ≤ maxLen := by unfold maxLen; omega
            have q3 : (L.length + 1) * 1 ≤ 140737488355328 := by omega
            have q4 : L.length + 1 + 1 ≤ maxLen := by unfold maxLen; omega
            have q5 : (L.length + 1 + 1) * 1 ≤ 140737488355328 := by omega
            cases k1 <;> cases k2
            · have eL : Hid ((outAt l r j).length = 0) := by have := congrArg List.length HO.out; show _ = _; simpa [bvs_length] using this
              have eB := HO
              simp only [Bool.false_eq_true, if_false, if_true, List.nil_append, List.append_nil] at eB
              go_wp2_with (first
                | (go_at_call 76; refine (symbols_at _ 0 s _ rfl lB lS).mono ?_; rintro e w1 ⟨rfl, rfl⟩; rw [HF.out, HA1.out, HA2.out])
                | (go_at_call 77; (with_reducible refine (kept_letter r j false _ _ h1 h5 (by omega) HK1.out).mono ?_); rintro e w1 ⟨rfl, rfl⟩)
                | (go_at_call 77; (with_reducible refine (kept_letter r j true _ _ h1 h5 (by omega) HK2.out).mono ?_); rintro e w1 ⟨rfl, rfl⟩)
                | (at_builtin; refine wpList_append_Own _ rfl (.tmp 58) (.tmp 61) 22 rfl w.heap.size 5 i0 _ 1 1 Try.underlying22 hi0 hz0 hz1 hz2 rfl A1 L.length c1 (bvs L) rfl (hO.alloc _) (some ⟨wr.heap.size, 0, none⟩) 1 1 [.int .u8 (a1 : Int)] rfl rfl (one_rd wr a1) (one_ok a1) q2 q3 (Nat.le_trans hB.size (le_alloc1 _ _)) ?_; intro A2 c2 w2 hO2 hg2 hor2)
                | (at_builtin; refine wpList_append_Own _ rfl (.tmp 66) (.tmp 69) 22 rfl w.heap.size 5 i0 _ 1 1 Try.underlying22 hi0 hz0 hz1 hz2 rfl A1 L.length c1 (bvs L) rfl (hO.alloc _) (some ⟨wr.heap.size, 0, none⟩) 1 1 [.int .u8 (a2 : Int)] rfl rfl (one_rd wr a2) (one_ok a2) q2 q3 (Nat.le_trans hB.size (le_alloc1 _ _)) ?_; intro A2 c2 w2 hO2 hg2 hor2)
                | (at_builtin; have hB2 := (hB.alloc hB.size (.cells #[.int .u8 (a1 : Int)] 5)).grown hg2 (Nat.le_trans hB.size (le_alloc1 _ _)) (fun q hq => (hO.lt q hq).1); refine wpList_append_Own _ rfl (.tmp 66) (.tmp 69) 22 rfl w.heap.size 5 i0 _ 1 1 Try.underlying22 hi0 hz0 hz1 hz2 rfl A2 (L.length + 1) c2 _ rfl (hO2.alloc _) (some ⟨w2.heap.size, 0, none⟩) 1 1 [.int .u8 (a2 : Int)] rfl rfl (one_rd w2 a2) (one_ok a2) q4 q5 (Nat.le_trans hB2.size (le_alloc1 _ _)) ?_; intro A3 c3 w3 hO3 hg3 hor3)
                )
              go_roundw
              case rel =>
                refine ⟨j + 1, A1, c1, by omega, by rw [HN.out, List.length_append, eL.out, Nat.add_zero], by rw [HS.out]; show _ = Value.int .i64 ((F % 64 : Nat) : Int); rw [← HM.out, ← HJ.out], by go_num, ?_, hB⟩
                rw [HN.out, List.length_append, eL.out, bvs_append, eB.out, Nat.add_zero]
                rw [List.append_nil]
                exact hO
              case measure => simp [intOf]; omega
            · have eL : Hid ((outAt l r j).length = 1) := by have := congrArg List.length HO.out; show _ = _; simpa [bvs_length] using this
              have eB := HO
              simp only [Bool.false_eq_true, if_false, if_true, List.nil_append, List.append_nil] at eB
              go_wp2_with (first
                | (go_at_call 76; refine (symbols_at _ 0 s _ rfl lB lS).mono ?_; rintro e w1 ⟨rfl, rfl⟩; rw [HF.out, HA1.out, HA2.out])
                | (go_at_call 77; (with_reducible refine (kept_letter r j false _ _ h1 h5 (by omega) HK1.out).mono ?_); rintro e w1 ⟨rfl, rfl⟩)
                | (go_at_call 77; (with_reducible refine (kept_letter r j true _ _ h1 h5 (by omega) HK2.out).mono ?_); rintro e w1 ⟨rfl, rfl⟩)
                | (at_builtin; refine wpList_append_Own _ rfl (.tmp 58) (.tmp 61) 22 rfl w.heap.size 5 i0 _ 1 1 Try.underlying22 hi0 hz0 hz1 hz2 rfl A1 L.length c1 (bvs L) rfl (hO.alloc _) (some ⟨wr.heap.size, 0, none⟩) 1 1 [.int .u8 (a1 : Int)] rfl rfl (one_rd wr a1) (one_ok a1) q2 q3 (Nat.le_trans hB.size (le_alloc1 _ _)) ?_; intro A2 c2 w2 hO2 hg2 hor2)
                | (at_builtin; refine wpList_append_Own _ rfl (.tmp 66) (.tmp 69) 22 rfl w.heap.size 5 i0 _ 1 1 Try.underlying22 hi0 hz0 hz1 hz2 rfl A1 L.length c1 (bvs L) rfl (hO.alloc _) (some ⟨wr.heap.size, 0, none⟩) 1 1 [.int .u8 (a2 : Int)] rfl rfl (one_rd wr a2) (one_ok a2) q2 q3 (Nat.le_trans hB.size (le_alloc1 _ _)) ?_; intro A2 c2 w2 hO2 hg2 hor2)
                | (at_builtin; have hB2 := (hB.alloc hB.size (.cells #[.int .u8 (a1 : Int)] 5)).grown hg2 (Nat.le_trans hB.size (le_alloc1 _ _)) (fun q hq => (hO.lt q hq).1); refine wpList_append_Own _ rfl (.tmp 66) (.tmp 69) 22 rfl w.heap.size 5 i0 _ 1 1 Try.underlying22 hi0 hz0 hz1 hz2 rfl A2 (L.length + 1) c2 _ rfl (hO2.alloc _) (some ⟨w2.heap.size, 0, none⟩) 1 1 [.int .u8 (a2 : Int)] rfl rfl (one_rd w2 a2) (one_ok a2) q4 q5 (Nat.le_trans hB2.size (le_alloc1 _ _)) ?_; intro A3 c3 w3 hO3 hg3 hor3)
                )
              go_roundw
              case rel =>
                refine ⟨j + 1, A2, c2, by omega, by rw [HN.out, List.length_append, eL.out], by rw [HS.out]; show _ = Value.int .i64 ((F % 64 : Nat) : Int); rw [← HM.out, ← HJ.out], by go_num, ?_, (hB.alloc hB.size (.cells #[.int .u8 (a2 : Int)] 5)).grown hg2 (Nat.le_trans hB.size (le_alloc1 _ _)) (fun q hq => (hO.lt q hq).1)⟩
                rw [HN.out, List.length_append, eL.out, bvs_append, eB.out]
                exact hO2
              case measure => simp [intOf]; omega
            · have eL : Hid ((outAt l r j).length = 1) := by have := congrArg List.length HO.out; show _ = _; simpa [bvs_length] using this
              have eB := HO
              simp only [Bool.false_eq_true, if_false, if_true, List.nil_append, List.append_nil] at eB
              go_wp2_with (first
                | (go_at_call 76; refine (symbols_at _ 0 s _ rfl lB lS).mono ?_; rintro e w1 ⟨rfl, rfl⟩; rw [HF.out, HA1.out, HA2.out])
                | (go_at_call 77; (with_reducible refine (kept_letter r j false _ _ h1 h5 (by omega) HK1.out).mono ?_); rintro e w1 ⟨rfl, rfl⟩)
                | (go_at_call 77; (with_reducible refine (kept_letter r j true _ _ h1 h5 (by omega) HK2.out).mono ?_); rintro e w1 ⟨rfl, rfl⟩)
                | (at_builtin; refine wpList_append_Own _ rfl (.tmp 58) (.tmp 61) 22 rfl w.heap.size 5 i0 _ 1 1 Try.underlying22 hi0 hz0 hz1 hz2 rfl A1 L.length c1 (bvs L) rfl (hO.alloc _) (some ⟨wr.heap.size, 0, none⟩) 1 1 [.int .u8 (a1 : Int)] rfl rfl (one_rd wr a1) (one_ok a1) q2 q3 (Nat.le_trans hB.size (le_alloc1 _ _)) ?_; intro A2 c2 w2 hO2 hg2 hor2)
                | (at_builtin; refine wpList_append_Own _ rfl (.tmp 66) (.tmp 69) 22 rfl w.heap.size 5 i0 _ 1 1 Try.underlying22 hi0 hz0 hz1 hz2 rfl A1 L.length c1 (bvs L) rfl (hO.alloc _) (some ⟨wr.heap.size, 0, none⟩) 1 1 [.int .u8 (a2 : Int)] rfl rfl (one_rd wr a2) (one_ok a2) q2 q3 (Nat.le_trans hB.size (le_alloc1 _ _)) ?_; intro A2 c2 w2 hO2 hg2 hor2)
                | (at_builtin; have hB2 := (hB.alloc hB.size (.cells #[.int .u8 (a1 : Int)] 5)).grown hg2 (Nat.le_trans hB.size (le_alloc1 _ _)) (fun q hq => (hO.lt q hq).1); refine wpList_append_Own _ rfl (.tmp 66) (.tmp 69) 22 rfl w.heap.size 5 i0 _ 1 1 Try.underlying22 hi0 hz0 hz1 hz2 rfl A2 (L.length + 1) c2 _ rfl (hO2.alloc _) (some ⟨w2.heap.size, 0, none⟩) 1 1 [.int .u8 (a2 : Int)] rfl rfl (one_rd w2 a2) (one_ok a2) q4 q5 (Nat.le_trans hB2.size (le_alloc1 _ _)) ?_; intro A3 c3 w3 hO3 hg3 hor3)
                )
              go_roundw
              case rel =>
                refine ⟨j + 1, A2, c2, by omega, by rw [HN.out, List.length_append, eL.out], by rw [HS.out]; show _ = Value.int .i64 ((F % 64 : Nat) : Int); rw [← HM.out, ← HJ.out], by go_num, ?_, (hB.alloc hB.size (.cells #[.int .u8 (a1 : Int)] 5)).grown hg2 (Nat.le_trans hB.size (le_alloc1 _ _)) (fun q hq => (hO.lt q hq).1)⟩
                rw [HN.out, List.length_append, eL.out, bvs_append, eB.out]
                exact hO2
              case measure => simp [intOf]; omega
            · have eL : Hid ((outAt l r j).length = 2) := by have := congrArg List.length HO.out; show _ = _; simpa [bvs_length] using this
              have eB := HO
              simp only [Bool.false_eq_true, if_false, if_true, List.nil_append, List.append_nil] at eB
              go_wp2_with (first
                | (go_at_call 76; refine (symbols_at _ 0 s _ rfl lB lS).mono ?_; rintro e w1 ⟨rfl, rfl⟩; rw [HF.out, HA1.out, HA2.out])
                | (go_at_call 77; (with_reducible refine (kept_letter r j false _ _ h1 h5 (by omega) HK1.out).mono ?_); rintro e w1 ⟨rfl, rfl⟩)
                | (go_at_call 77; (with_reducible refine (kept_letter r j true _ _ h1 h5 (by omega) HK2.out).mono ?_); rintro e w1 ⟨rfl, rfl⟩)
                | (at_builtin; refine wpList_append_Own _ rfl (.tmp 58) (.tmp 61) 22 rfl w.heap.size 5 i0 _ 1 1 Try.underlying22 hi0 hz0 hz1 hz2 rfl A1 L.length c1 (bvs L) rfl (hO.alloc _) (some ⟨wr.heap.size, 0, none⟩) 1 1 [.int .u8 (a1 : Int)] rfl rfl (one_rd wr a1) (one_ok a1) q2 q3 (Nat.le_trans hB.size (le_alloc1 _ _)) ?_; intro A2 c2 w2 hO2 hg2 hor2)
                | (at_builtin; refine wpList_append_Own _ rfl (.tmp 66) (.tmp 69) 22 rfl w.heap.size 5 i0 _ 1 1 Try.underlying22 hi0 hz0 hz1 hz2 rfl A1 L.length c1 (bvs L) rfl (hO.alloc _) (some ⟨wr.heap.size, 0, none⟩) 1 1 [.int .u8 (a2 : Int)] rfl rfl (one_rd wr a2) (one_ok a2) q2 q3 (Nat.le_trans hB.size (le_alloc1 _ _)) ?_; intro A2 c2 w2 hO2 hg2 hor2)
                | (at_builtin; have hB2 := (hB.alloc hB.size (.cells #[.int .u8 (a1 : Int)] 5)).grown hg2 (Nat.le_trans hB.size (le_alloc1 _ _)) (fun q hq => (hO.lt q hq).1); refine wpList_append_Own _ rfl (.tmp 66) (.tmp 69) 22 rfl w.heap.size 5 i0 _ 1 1 Try.underlying22 hi0 hz0 hz1 hz2 rfl A2 (L.length + 1) c2 _ rfl (hO2.alloc _) (some ⟨w2.heap.size, 0, none⟩) 1 1 [.int .u8 (a2 : Int)] rfl rfl (one_rd w2 a2) (one_ok a2) q4 q5 (Nat.le_trans hB2.size (le_alloc1 _ _)) ?_; intro A3 c3 w3 hO3 hg3 hor3)
                )
              go_roundw
              case rel =>
                have hB2 := (hB.alloc hB.size (.cells #[.int .u8 (a1 : Int)] 5)).grown hg2 (Nat.le_trans hB.size (le_alloc1 _ _)) (fun q hq => (hO.lt q hq).1)
                refine ⟨j + 1, A3, c3, by omega, by rw [HN.out, List.length_append, eL.out], by rw [HS.out]; show _ = Value.int .i64 ((F % 64 : Nat) : Int); rw [← HM.out, ← HJ.out], by go_num, ?_, (hB2.alloc hB2.size (.cells #[.int .u8 (a2 : Int)] 5)).grown hg3 (Nat.le_trans hB2.size (le_alloc1 _ _)) (fun q hq => (hO2.lt q hq).1)⟩
                rw [HN.out, List.length_append, eL.out, bvs_append, eB.out]
                rw [← List.append_assoc]
                exact hO3
              case measure => simp [intOf]; omega
        · obtain rfl : j = k + 6 := by omega
          go_wp2
          go_ret2
          exact ⟨A1, c1, rfl, hO, hB⟩

/-- The document's Spread, of any bits and any rate. -/
theorem rspread_any (A : Option Addr) (l : List UInt8) (r : Int) (n c : Nat) (w : World) (hl : l.length = n) (ha : Rd w A (bvs l)) :
    Calls Try.prog 26 #[.slice A n c, .int .i64 r] w fun e w' => BytesRes w w' (spread l r) e := by
  by_cases hr : 1 ≤ r ∧ r ≤ 5
  · have d1 : decide (r < 1) = false := by simp; omega
    have d2 : decide (5 < r) = false := by simp; omega
    by_cases hn : n ≤ 16384
    · obtain ⟨rn, rfl⟩ := Int.eq_ofNat_of_zero_le (show 0 ≤ r by omega)
      have e : spread l (rn : Int) = sprOk l rn n := by
        unfold spread sprOk
        rw [if_pos hr, if_pos (by omega), hl, Int.toNat_natCast]
      rw [e]
      exact rspread_good A l rn n c w hl ha hn (by omega) (by omega)
    · have e : spread l r = ([], 1) := by unfold spread; rw [if_pos hr, if_neg (by omega)]
      rw [e]
      have hn2 : (16384 : Int) < (n : Int) := by omega
      clear hr e ha hl
      go_enter Try.func26, Try.ntmps26
      go_wp2
      go_ret2
      exact BytesRes.none_ (Below.refl _ _)
  · have e : spread l r = ([], 6) := by unfold spread; rw [if_neg hr]
    rw [e]
    by_cases h1 : r < 1
    · have d1 : decide (r < 1) = true := by simp; omega
      clear hr e ha hl
      go_enter Try.func26, Try.ntmps26
      go_wp2
      go_ret2
      exact BytesRes.none_ (Below.refl _ _)
    · have d1 : decide (r < 1) = false := by simp; omega
      have d2 : decide (5 < r) = true := by simp; omega
      clear hr e ha hl
      go_enter Try.func26, Try.ntmps26
      go_wp2
      go_ret2
      exact BytesRes.none_ (Below.refl _ _)
end Go.Proofs.Ytolcaolmdfbfhaa
