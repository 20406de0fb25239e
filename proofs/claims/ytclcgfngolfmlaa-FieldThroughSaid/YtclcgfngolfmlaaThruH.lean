/-
  The program's Through: the product over all points.
-/
import Derived.Test.YtclcgfngolfmlaaThruO
import Derived.Test.YtclcgfngolfmlaaBackP
import Derived.Test.YtclcgfngolfmlaaMarks
import Derived.Test.YtclcgfngolfmlaaThruR
import Derived.Deep.RegionHeld3
import Derived.Test.YtclcgfngolfmlaaAt
namespace Go.Proofs.Ytclcgfngolfmlaa
set_option linter.unusedSimpArgs false
set_option linter.unusedVariables false
open Go.RowKit Go.Shelf
attribute [local go_sem] Oper.semAt_some

theorem pdivU_o (x y : Int) (a b : UInt8) (w : World) (hx : x = (a.toNat : Int)) (hy : y = (b.toNat : Int)) :
    Calls Try.prog 93 #[.int .u8 x, .int .u8 y] w fun e w' => e = .returned (.tuple #[.int .u8 ((divU a b).toNat : Int), .bool (okB b)]) ∧ w = w' := pdivB_o x y a b w hx hy
/-- Five blocks, one behind the other. -/
theorem chain5 (w : World) (a0 a1 a2 a3 a4 : Array Value) (t0 t1 t2 t3 t4 : TypeId) : (Blk (((((w.alloc (.cells a0 t0)).alloc (.cells a1 t1)).alloc (.cells a2 t2)).alloc (.cells a3 t3)).alloc (.cells a4 t4)) (w.heap.size) t0 a0 ∧ Blk (((((w.alloc (.cells a0 t0)).alloc (.cells a1 t1)).alloc (.cells a2 t2)).alloc (.cells a3 t3)).alloc (.cells a4 t4)) (w.heap.size + 1) t1 a1 ∧ Blk (((((w.alloc (.cells a0 t0)).alloc (.cells a1 t1)).alloc (.cells a2 t2)).alloc (.cells a3 t3)).alloc (.cells a4 t4)) (w.heap.size + 1 + 1) t2 a2 ∧ Blk (((((w.alloc (.cells a0 t0)).alloc (.cells a1 t1)).alloc (.cells a2 t2)).alloc (.cells a3 t3)).alloc (.cells a4 t4)) (w.heap.size + 1 + 1 + 1) t3 a3 ∧ Blk (((((w.alloc (.cells a0 t0)).alloc (.cells a1 t1)).alloc (.cells a2 t2)).alloc (.cells a3 t3)).alloc (.cells a4 t4)) (w.heap.size + 1 + 1 + 1 + 1) t4 a4) ∧ Below w.heap.size w (((((w.alloc (.cells a0 t0)).alloc (.cells a1 t1)).alloc (.cells a2 t2)).alloc (.cells a3 t3)).alloc (.cells a4 t4)) ∧ (((((w.alloc (.cells a0 t0)).alloc (.cells a1 t1)).alloc (.cells a2 t2)).alloc (.cells a3 t3)).alloc (.cells a4 t4)).heap.size = w.heap.size + 5 := by
  refine ⟨⟨?_, ?_, ?_, ?_, ?_⟩, ?_, by simp⟩
  · have := ((((Blk.new w t0 a0).alloc (.cells a1 t1)).alloc (.cells a2 t2)).alloc (.cells a3 t3)).alloc (.cells a4 t4)
    simpa using this
  · have := (((Blk.new (w.alloc (.cells a0 t0)) t1 a1).alloc (.cells a2 t2)).alloc (.cells a3 t3)).alloc (.cells a4 t4)
    simpa using this
  · have := ((Blk.new ((w.alloc (.cells a0 t0)).alloc (.cells a1 t1)) t2 a2).alloc (.cells a3 t3)).alloc (.cells a4 t4)
    simpa using this
  · have := (Blk.new (((w.alloc (.cells a0 t0)).alloc (.cells a1 t1)).alloc (.cells a2 t2)) t3 a3).alloc (.cells a4 t4)
    simpa using this
  · have := Blk.new ((((w.alloc (.cells a0 t0)).alloc (.cells a1 t1)).alloc (.cells a2 t2)).alloc (.cells a3 t3)) t4 a4
    simpa using this
  · exact (((((Below.refl _ _).alloc (Nat.le_refl _) _).alloc (by simp) _).alloc (by simp; omega) _).alloc (by simp; omega) _).alloc (by simp; omega) _

set_option maxHeartbeats 3200000 in
set_option maxRecDepth 100000 in
theorem pthru_good (A B : Option Addr) (p q : List UInt8) (n c d : Nat) (w : World) (hp : p.length = n) (hq : q.length = n) (ra : Rd w A (bvs p)) (rb : Rd w B (bvs q)) (hn : n ≤ 255) :
    Calls Try.prog 43 #[.slice A n c, .slice B n d] w fun e w' => BytesRes w w' (thruF p q) e := by
  obtain ⟨i0, hi0, hz0, hz1, hz2⟩ := info_parts u8info
  have HP := Lib.hid hp
  have HQ := Lib.hid hq
  have d1 : ((n : Int) != (n : Int)) = false := by rw [bne_eq_false_iff_eq]
  have d2 : decide ((255 : Int) < (n : Int)) = false := decide_eq_false (by omega)
  have HT := Lib.hid (fun (h : ¬ p.Nodup) => thruF_twice (hp.trans hq.symm) (by omega) h)
  have HG := Lib.hid (fun (h : p.Nodup) => thruF_good (hp.trans hq.symm) (by omega) h)
  generalize thruF p q = R at *
  clear hp hq
  refine (callsIn_wide (n := 3)).1 ?_
  have h1 : 1 ≤ 3 := by omega
  refine callsIn_of_wp_marks Try.func43 rfl trivial ?_ rfl
  simp only [Try.ntmps43, List.size_toArray, List.length_cons, List.length_nil, Nat.reduceAdd, Nat.reduceSub, Array.replicate_succ, Array.replicate_zero, List.push_toArray, List.append_toArray, List.nil_append, List.cons_append]
  gi_wp2_with fail
  have e0 : Blk ((w.alloc (.cells Try.zeroCells128 128)).alloc (.cells #[.int .u8 1] 5)) w.heap.size 128 (seenC p 0) := by
    rw [← seenC_zero]
    exact (Blk.new w 128 Try.zeroCells128).alloc _
  have hS1 : Own ((w.alloc (.cells Try.zeroCells128 128)).alloc (.cells #[.int .u8 1] 5)) (w.heap.size + 1) 5 1 (some ⟨w.heap.size + 1, 0, none⟩) 1 1 (bvs [1]) := by
    have h := heap_alloc_new (w.alloc (.cells Try.zeroCells128 128)) (.cells #[.int .u8 1] 5)
    rw [show (w.alloc (.cells Try.zeroCells128 128)).heap.size = w.heap.size + 1 from by simp] at h
    exact Own.of_block h (Nat.le_refl _) (by simp [bvs]) (Nat.le_refl _) (by unfold maxLen; omega) (by simp) (fun i u h => by simpa [bvs, bv] using h)
  have hB1 : Below w.heap.size w ((w.alloc (.cells Try.zeroCells128 128)).alloc (.cells #[.int .u8 1] 5)) := ((Below.refl _ _).alloc (Nat.le_refl _) _).alloc (by simp) _
  gi_loopw [7, 33] (fun av iv wr => ∃ (k g1 : Nat), k ≤ n ∧ av = .slice (some ⟨g1, 0, none⟩) (k + 1) (k + 1) ∧ iv = .int .i64 k ∧ Blk wr w.heap.size 128 (seenC p k) ∧ Own wr (w.heap.size + 1) 5 1 (some ⟨g1, 0, none⟩) (k + 1) (k + 1) (bvs (baseOf (p.take k))) ∧ Below w.heap.size w wr ∧ Hid (∀ a b, a < b → b < k → p.getD a 0 ≠ p.getD b 0)) (fun _ iv _ => n - (intOf iv).toNat)
  case atStart => exact ⟨0, w.heap.size + 1, Nat.zero_le _, rfl, rfl, e0, hS1, hB1, Lib.hid (fun a b _ h => by omega)⟩
  case round =>
    obtain ⟨k, g1, hk, rfl, rfl, hK, hS, hB, HD⟩ := hrel
    clear e0 hS1 hB1
    by_cases h5 : k < n
    · have h5i : (k : Int) < (n : Int) := by omega
      have i1 : (0 : Int) ≤ (k : Int) := by omega
      have raw := ra.below hB
      obtain ⟨b, o, rfl, hc1⟩ := raw.byteD (k := k) (by rw [HP.out]; omega)
      have hcs := hK.cell' (seenC_get p k (byte_lt (p.getD k 0)))
      have hfs := hK.frozen (p.getD k 0).toNat
      cases hsv : seenF p k (p.getD k 0).toNat
      · rw [hsv] at hcs
        have HN := Lib.hid (seenC_next p k)
        have HBT := Lib.hid (baseOf_take p (k := k) (by rw [HP.out]; exact h5))
        have HD2 : Hid (∀ a b, a < b → b < k + 1 → p.getD a 0 ≠ p.getD b 0) := Lib.hid (fun a b h1 h2 => by
          by_cases e : b = k
          · rw [e]
            exact fun e2 => seenF_false hsv a (by omega) (by rw [e2])
          · exact HD.out a b h1 (by omega))
        clear hsv
        generalize p.getD k 0 = x at *
        have gx := byte_lt x
        have hmk := run_make_rowN (P := Try.prog) 129 5 i0 (.int .u8 0) Try.underlying129 hi0 hz0 .i64 .i64 (k + 1 + 1) (k + 1 + 1) (Nat.le_refl _) (by rw [hz2]; omega) (by omega)
        rw [show ((k + 1 + 1 : Nat) : Int) = (k : Int) + 1 + 1 from by omega] at hmk
        gi_wp2_with fail
        have lS := hS.lt g1 rfl
        have zB := hB.size
        have hlb : (baseOf (p.take k)).length = k + 1 := by rw [baseOf_len, List.length_take, HP.out]; omega
        have hne1 : blk (some ⟨g1, 0, none⟩) ≠ some w.heap.size := blk_lit_ne (by omega)
        obtain ⟨W2, hW2⟩ : ∃ W : World, W = (wr.setCell ⟨w.heap.size, x.toNat, none⟩ (.bool true)).alloc (.cells (madeCells #[.int .u8 0] (k + 1 + 1)) 5) := ⟨_, rfl⟩
        have hK2 : Blk W2 w.heap.size 128 (seenC p (k + 1)) := by rw [hW2, HN.out]; exact (hK.set_ x.toNat (.bool true)).alloc _
        have hN2 : Own W2 (w.heap.size + 1) 5 1 (some ⟨wr.heap.size, 0, none⟩) (k + 1 + 1) (k + 1 + 1) (bvs (List.replicate (k + 1 + 1) 0)) := by
          have h := Own.made8 (wr.setCell ⟨w.heap.size, x.toNat, none⟩ (.bool true)) (k + 1 + 1) (k + 1 + 1) (Nat.le_refl _) (by unfold maxLen; omega)
          rw [show (wr.setCell ⟨w.heap.size, x.toNat, none⟩ (.bool true)).heap.size = wr.heap.size from by simp] at h
          rw [hW2]
          exact h.mono (by omega)
        have hS2 : Own W2 (w.heap.size + 1) 5 1 (some ⟨g1, 0, none⟩) (k + 1) (k + 1) (bvs (baseOf (p.take k))) := by rw [hW2]; exact (hS.setFar (p := ⟨w.heap.size, x.toNat, none⟩) hne1 _).alloc _
        have hB2 : Below w.heap.size w W2 := by rw [hW2]; exact (hB.setCell (p := ⟨w.heap.size, x.toNat, none⟩) (Nat.le_refl _) _).alloc (by simp; omega) _
        have lN := hN2.lt wr.heap.size rfl
        rw [← hW2]
        clear hW2 hmk hK hS hB hcs hfs hc1 raw
        have hng : blk (some ⟨g1, 0, none⟩) ≠ some wr.heap.size := blk_lit_ne (by omega)
        refine ⟨trivial, (callsIn_wide.2 (add_any (w.heap.size + 1) wr.heap.size 0 (k + 1 + 1) (k + 1 + 1) (k + 1) (k + 1) 0 (some ⟨g1, 0, none⟩) (List.replicate (k + 1 + 1) 0) (baseOf (p.take k)) x _ _ W2 hN2 hS2.rd hlb hng (by omega) (by omega) rfl rfl)).mono ?_⟩
        rintro e w3 ⟨rfl, hN3, hg3⟩
        have hK3 := hK2.grown hg3 (fun e => by simp at e; omega)
        have hS3 := hS2.over hg3 (fun q hq => by injection hq with hq; rw [← hq]; exact hng)
        have hB3 : Below w.heap.size w w3 := hB2.grown hg3 hB2.size (fun q hq => by injection hq with hq; omega)
        gi_wp2_with fail
        refine ⟨trivial, (callsIn_wide.2 (add_any (w.heap.size + 1) wr.heap.size 0 (k + 1 + 1) (k + 1 + 1) (k + 1) (k + 1) 1 (some ⟨g1, 0, none⟩) _ (baseOf (p.take k)) 1 _ _ w3 hN3 hS3.rd hlb hng (by omega) (by omega) rfl rfl)).mono ?_⟩
        rintro e w4 ⟨rfl, hN4, hg4⟩
        have hK4 := hK3.grown hg4 (fun e => by simp at e; omega)
        have hB4 : Below w.heap.size w w4 := hB3.grown hg4 hB3.size (fun q hq => by injection hq with hq; omega)
        have hNx : nextP x (baseOf (p.take k)) = addTo (addTo (List.replicate (k + 1 + 1) 0) (baseOf (p.take k)) x 0 (k + 1)) (baseOf (p.take k)) 1 1 (k + 1) := by unfold nextP; rw [hlb]
        rw [← hNx, ← HBT.out] at hN4
        gi_wp2_with fail
        go_roundw
        case rel => exact ⟨k + 1, wr.heap.size, by omega, rfl, by go_num, hK4, hN4, hB4, HD2⟩
        case measure => simp [intOf] <;> omega
      · rw [hsv] at hcs
        have HR := Lib.hid (HT.out (by
          obtain ⟨a, ha, hv⟩ := seenF_true hsv
          exact not_nodup ha (by rw [HP.out]; exact h5) (UInt8.toNat_inj.1 hv.symm)))
        clear hsv
        generalize p.getD k 0 = x at *
        have gx := byte_lt x
        gi_wp2_with fail
        rw [HR.out]
        first
          | (refine ⟨.tuple #[.slice none 0 0, .int .i64 4], by simp [results, Try.results43, go_sem], ?_⟩; exact BytesRes.none_ hB)
          | (refine ⟨by simp, ?_⟩; trace_state; trace "THREE"; fail)
          | (unfold bodyPostM LeavesInM; trace_state; trace "THREE"; fail)
    · obtain rfl : k = n := by omega
      have hnd : p.Nodup := nodup_of (by rw [HP.out]; exact HD.out)
      have HR := Lib.hid (HG.out hnd)
      have HL := Lib.hid (thru_prog p q (by rw [HP.out, HQ.out]) hnd)
      rw [HP.out] at HL
      clear hnd
      have hlb : (baseOf p).length = k + 1 := by rw [baseOf_len, HP.out]
      rw [show p.take k = p from List.take_of_length_le (by rw [HP.out]; exact Nat.le_refl _)] at hS
      have hmk := run_make_rowN (P := Try.prog) 129 5 i0 (.int .u8 0) Try.underlying129 hi0 hz0 .i64 .i64 k k (Nat.le_refl _) (by rw [hz2]; omega) (by omega)
      clear HT HG HD
      gi_wp2_with fail
      obtain ⟨wo, rfl⟩ : ∃ wo : World, wo = wr := ⟨_, rfl⟩
      have zB := hB.size
      obtain ⟨W2, hW2⟩ : ∃ W : World, W = wo.alloc (.cells (madeCells #[.int .u8 0] k) 5) := ⟨_, rfl⟩
      have hM2 : Own W2 wo.heap.size 5 1 (some ⟨wo.heap.size, 0, none⟩) k k (bvs (List.replicate k 0)) := by rw [hW2]; exact Own.made8 wo k k (Nat.le_refl _) (by unfold maxLen; omega)
      have hb2 : Below wo.heap.size wo W2 := by rw [hW2]; exact (Below.refl _ _).alloc (Nat.le_refl _) _
      rw [← hW2]
      clear hW2 hmk
      refine wpIn_loop (fun a wr => ∃ (u12 u13 u14 u15 u16 u17 u18 u19 u60 u61 u62 u63 u64 u65 u66 u67 u68 u69 u70 u71 u72 u73 u74 u75 u76 u77 u78 u79 u80 u81 u82 u83 u84 u85 u86 u87 u88 u89 u90 u91 u92 u93 u94 u95 u96 u97 : Value) (i : Nat) (S : List UInt8) (Ds : List Nat), (i ≤ k ∧ u60 = .int .i64 i ∧ S.length = k ∧ Own wr wo.heap.size 5 1 (some ⟨wo.heap.size, 0, none⟩) k k (bvs S) ∧ Below wo.heap.size wo wr ∧ Marks wo.heap.size Ds wr ∧ Hid (trimL (lagr (baseOf p) k (p.drop i) (q.drop i) S) = refT p q [] [1])) ∧ a = { tmps := #[.slice A k c, .slice B k d, undef, undef, u4, u5, .pointer (some ⟨w.heap.size, 0, none⟩), .slice (some ⟨g1, 0, none⟩) (k + 1) (k + 1), undef, u9, u10, .slice (some ⟨wo.heap.size, 0, none⟩) k k, u12, u13, u14, u15, u16, u17, u18, u19, .slice A k c, .int .i64 (k : Int), .slice B k d, .int .i64 (k : Int), .bool false, .bool false, .slice A k c, .int .i64 (k : Int), .bool false, .bool false, .slice (some ⟨w.heap.size + 1, 0, none⟩) 1 1, .slice A k c, .int .i64 (k : Int), .int .i64 (k : Int), .bool false, u35, u36, u37, u38, u39, u40, u41, u42, u43, u44, u45, u46, u47, u48, u49, u50, u51, u52, u53, u54, .slice A k c, .int .i64 (k : Int), .slice (some ⟨wo.heap.size, 0, none⟩) k k, .slice A k c, .int .i64 (k : Int), u60, u61, u62, u63, u64, u65, u66, u67, u68, u69, u70, u71, u72, u73, u74, u75, u76, u77, u78, u79, u80, u81, u82, u83, u84, u85, u86, u87, u88, u89, u90, u91, u92, u93, u94, u95, u96, u97, undef, undef], defers := marksOf Ds }) (fun a _ => k - (intOf (a.tmps.getD 60 undef)).toNat) ?start ?round2
      case start =>
        repeat apply Exists.intro
        exact ⟨⟨Nat.zero_le _, rfl, by simp, hM2, hb2, Marks.nil _ _, HL⟩, rfl⟩
      case round2 =>
        rintro a wr ⟨u12, u13, u14, u15, u16, u17, u18, u19, u60, u61, u62, u63, u64, u65, u66, u67, u68, u69, u70, u71, u72, u73, u74, u75, u76, u77, u78, u79, u80, u81, u82, u83, u84, u85, u86, u87, u88, u89, u90, u91, u92, u93, u94, u95, u96, u97, i, S, Ds, ⟨hi, rfl, hSl, hM, hb, hMk, HF⟩, rfl⟩
        clear hM2 hb2
        by_cases h5 : i < k
        · have h5i : (i : Int) < (k : Int) := by omega
          have i1 : (0 : Int) ≤ (i : Int) := by omega
          have zb := hb.size
          have hSw := hS.below hb
          have HN := Lib.hid ((lagr_next (baseOf p) p q S k (by rw [HP.out]; exact h5) (by rw [HQ.out]; exact h5)))
          obtain ⟨b, o, rfl, hc1⟩ := (ra.below (nextB hB zB hb)).byteD (k := i) (by rw [HP.out]; omega)
          obtain ⟨b2, o2, rfl, hc2⟩ := (rb.below (nextB hB zB hb)).byteD (k := i) (by rw [HQ.out]; omega)
          generalize p.getD i 0 = x at *
          generalize q.getD i 0 = y at *
          have hmk := run_make_rowN (P := Try.prog) 129 5 i0 (.int .u8 0) Try.underlying129 hi0 hz0 .i64 .i64 k k (Nat.le_refl _) (by rw [hz2]; omega) (by omega)
          have k1 : (1 : Int) ≤ (k : Int) + 1 := by omega
          gi_wp2_with fail
          refine ⟨trivial, (backp_in Fence.wide 2 trivial rfl _ _ _ _).mono ?_⟩
          rintro e w' ⟨rfl, rfl⟩
          obtain ⟨W0, hW0⟩ : ∃ W : World, W = ((((wr.alloc (.cells #[.int .u8 (x.toNat : Int)] 5)).alloc (.cells (madeCells #[.int .u8 0] k) 5)).alloc (.cells #[.slice (some ⟨wr.heap.size + 1, 0, none⟩) k k] 129)).alloc (.cells #[.int .u8 0] 5)).alloc (.cells #[.slice (some ⟨g1, 1, none⟩) k k] 129) := ⟨_, rfl⟩
          obtain ⟨⟨v0, v1, v2, v3, v4⟩, hb0, hz0'⟩ := chain5 wr #[.int .u8 (x.toNat : Int)] (madeCells #[.int .u8 0] k) #[.slice (some ⟨wr.heap.size + 1, 0, none⟩) k k] #[.int .u8 0] #[.slice (some ⟨g1, 1, none⟩) k k] 5 5 129 5 129
          rw [← hW0] at v0 v1 v2 v3 v4 hb0 hz0'
          gi_wp2_with fail
          rw [← hW0]
          clear hW0 hmk
          have bX : Boxed W0 wr.heap.size 5 (.int .u8 (x.toNat : Int)) := v0
          have hOn : Own W0 wr.heap.size 5 1 (some ⟨wr.heap.size + 1, 0, none⟩) k k (bvs (foldO (baseOf p) x k []).2) := by
            rw [foldO_nil]
            exact Own.of_block v1 (by omega) (by simp [bvs]) (Nat.le_refl _) (by unfold maxLen; omega) (by simp [size_madeCells]) (fun i u h => by
              have h2 : i < k := by
                rcases Nat.lt_or_ge i k with h' | h'
                · exact h'
                · rw [List.getElem?_eq_none (by simp [bvs]; omega)] at h; cases h
              have := made_get (.int .u8 0) rfl k i h2
              rw [this]
              simpa [bvs, bv, h2] using h)
          have bO : Boxed W0 (wr.heap.size + 1 + 1) 129 (.slice (some ⟨wr.heap.size + 1, 0, none⟩) k k) := v2
          have bC : Boxed W0 (wr.heap.size + 1 + 1 + 1) 5 (.int .u8 ((foldO (baseOf p) x k []).1.toNat : Int)) := v3
          have bS : Boxed W0 (wr.heap.size + 1 + 1 + 1 + 1) 129 (.slice (some ⟨g1, 1, none⟩) k k) := v4
          clear v0 v1 v2 v3 v4
          have hS0 := hSw.below hb0
          have hI : Rd W0 (some ⟨g1, 1, none⟩) (bvs ((baseOf p).drop 1)) := by
            have := hS0.rd.drop_lit 1
            rw [Nat.zero_add] at this
            simpa [bvs, List.map_drop] using this
          have lg := hSw.lt g1 rfl
          have hl1 : ((baseOf p).drop 1).length = k := by rw [List.length_drop, hlb]; omega
          have HB := Lib.hid hlb
          clear hlb
          refine wpIn_rangeFunc_ownF rfl h1 (gf := 158) (lb := #[.pointer (some ⟨wr.heap.size + 1 + 1 + 1 + 1, 0, none⟩)]) rfl trivial (enters_of Try.func158 (by kernel_rfl) rfl)
            (backp_stops Fence.wide 2 trivial rfl (by omega) (wr.heap.size + 1 + 1 + 1 + 1) wr.heap.size (some ⟨g1, 1, none⟩) k k ((baseOf p).drop 1) hl1 (by omega) W0 (by omega) (by omega) bS.cell (fun a e => by injection e with e; subst e; exact lg.2) hI) KeepB.trans (keepB_b (by omega)) (Below.refl _ _) (fun _ => rfl)
            (fun pre W => ((Boxed W wr.heap.size 5 (.int .u8 (x.toNat : Int)) ∧ Boxed W (wr.heap.size + 1 + 1) 129 (.slice (some ⟨wr.heap.size + 1, 0, none⟩) k k)) ∧ Boxed W (wr.heap.size + 1 + 1 + 1) 5 (.int .u8 ((foldO (baseOf p) x k (pre.map Fin.val)).1.toNat : Int)) ∧ Own W wr.heap.size 5 1 (some ⟨wr.heap.size + 1, 0, none⟩) k k (bvs (foldO (baseOf p) x k (pre.map Fin.val)).2)) ∧ Below wr.heap.size wr W)
            (fun _ _ _ => False)
            (OwnFrom.and (Own.from (fun s A B row hs hg hr => ⟨⟨boxed_kept hs.1.1 hg hr, boxed_kept hs.1.2 hg hr⟩, boxed_kept hs.2.1 hg hr, hs.2.2.kept_in hg hr⟩) _) (ownFrom_below (by omega) (by omega)))
            (fun _ _ _ _ _ hs _ _ => hs)
            ⟨⟨⟨bX, bO⟩, bC, hOn⟩, hb0⟩
            (fun y => { tmps := #[.slice (some ⟨b, o, none⟩) k c, .slice (some ⟨b2, o2, none⟩) k d, undef, undef, u4, u5, .pointer (some ⟨w.heap.size, 0, none⟩), .slice (some ⟨g1, 0, none⟩) (k + 1) (k + 1), undef, u9, u10, .slice (some ⟨wo.heap.size, 0, none⟩) k k, .int .i64 (i : Int), .pointer (some ⟨wr.heap.size, 0, none⟩), .pointer (some ⟨wr.heap.size + 1 + 1, 0, none⟩), .pointer (some ⟨wr.heap.size + 1 + 1 + 1, 0, none⟩), .int .i64 (y.val : Int), .int .u8 ((((baseOf p).drop 1).getD y.val 0).toNat : Int), u18, u19, .slice (some ⟨b, o, none⟩) k c, .int .i64 (k : Int), .slice (some ⟨b2, o2, none⟩) k d, .int .i64 (k : Int), .bool false, .bool false, .slice (some ⟨b, o, none⟩) k c, .int .i64 (k : Int), .bool false, .bool false, .slice (some ⟨w.heap.size + 1, 0, none⟩) 1 1, .slice (some ⟨b, o, none⟩) k c, .int .i64 (k : Int), .int .i64 (k : Int), .bool false, u35, u36, u37, u38, u39, u40, u41, u42, u43, u44, u45, u46, u47, u48, u49, u50, u51, u52, u53, u54, .slice (some ⟨b, o, none⟩) k c, .int .i64 (k : Int), .slice (some ⟨wo.heap.size, 0, none⟩) k k, .slice (some ⟨b, o, none⟩) k c, .int .i64 (k : Int), .int .i64 (i : Int), .bool true, .int .i64 (i : Int), .pointer (some ⟨b, o + i, none⟩), .int .u8 (x.toNat : Int), .slice (some ⟨b, o, none⟩) k c, .int .i64 (k : Int), .slice (some ⟨wr.heap.size + 1, 0, none⟩) k k, .slice (some ⟨g1, 0, none⟩) (k + 1) (k + 1), .slice (some ⟨g1, 1, none⟩) k k, .func (.func 158) #[] #[.pointer (some ⟨wr.heap.size + 1 + 1 + 1 + 1, 0, none⟩)], .int .i64 (y.val : Int), .int .u8 ((((baseOf p).drop 1).getD y.val 0).toNat : Int), u73, u74, u75, u76, u77, u78, u79, u80, u81, u82, u83, u84, u85, u86, u87, u88, u89, u90, u91, u92, u93, u94, u95, u96, u97, undef, undef], defers := [] }) ?assign ?body ?done ?stop
          case assign =>
            intro l y W K hK
            dsimp only at hK ⊢
            generalize ((baseOf p).drop 1).getD y.val 0 = z at hK ⊢
            gi_wp2
            exact hK
          case body =>
            rintro l0 pre y W ⟨⟨⟨bX, bO⟩, bC, hOn⟩, hB3⟩ _
            have cX := bX.cell
            have cO := bO.cell
            have cC := bC.cell
            have fC := bC.frozen
            have fO : ∀ i, W.frozen? ⟨wr.heap.size + 1, i, none⟩ = false := hOn.frozen
            obtain ⟨y, hy⟩ := y
            have hyi : (y : Int) < (k : Int) := by omega
            have y1 : (0 : Int) ≤ (y : Int) := by omega
            have HS : Hid (foldO (baseOf p) x k ((pre ++ [(⟨y, hy⟩ : Fin k)]).map Fin.val) = stepO (baseOf p) x (foldO (baseOf p) x k (pre.map Fin.val)) y) := by show _ = _; rw [List.map_append]; exact foldO_snoc _ _ _ _ _
            have HA : Hid (((baseOf p).drop 1).getD y 0 = (baseOf p).getD (y + 1) 0) := by show _ = _; simp [List.getD, Nat.add_comm]
            dsimp only
            rw [HA.out]
            generalize foldO (baseOf p) x k (pre.map Fin.val) = s at *
            obtain ⟨u, L⟩ := s
            unfold stepO at HS
            simp only at HS cC bC hOn
            generalize (baseOf p).getD (y + 1) 0 = a at *
            have hcy := hOn.byteAt hy
            obtain ⟨xo, _, hco⟩ := hcy
            rw [Nat.zero_add] at hco
            gi_wp2_with (refine ⟨trivial, ?_⟩; gi_at_call 92; refine (CallsIn.inRound l0 (callsIn_wide.2 (mulB_i _ _ u x _ rfl rfl))).mono ?_; rintro e w' ⟨rfl, rfl⟩)
            rw [xor_u8]
            have hO3 := (hOn.setFar (p := ⟨wr.heap.size + 1 + 1 + 1, 0, none⟩) (blk_lit_ne (by show wr.heap.size + 1 ≠ wr.heap.size + 1 + 1 + 1; omega)) (.int .u8 ((a ^^^ mulB u x).toNat : Int))).setB hy (a ^^^ mulB u x)
            rw [Nat.zero_add] at hO3
            have gO : ∀ (V : World) (v : Value), V.grownBy (V.setCell ⟨wr.heap.size + 1, y, none⟩ v) (some (wr.heap.size + 1)) := fun V v => grown_setCell (grownBy_below (Below.refl _ _) _) (.inl rfl) v
            refine ⟨(KeepsOthers.setCell _ _ _).trans (KeepsOthers.setCell _ _ _), (KeepB.set _ (by omega) (by omega) _ _).trans (KeepB.set _ (by omega) (by omega) _ _), ⟨⟨⟨(bX.kept (grownBy_setCell' _ _ _) (by simp <;> omega)).kept (gO _ _) (by simp <;> omega), (bO.kept (grownBy_setCell' _ _ _) (by simp <;> omega)).kept (gO _ _) (by simp <;> omega)⟩, ?_, ?_⟩, (hB3.setCell (p := ⟨wr.heap.size + 1 + 1 + 1, 0, none⟩) (by simp <;> omega) _).setCell (p := ⟨wr.heap.size + 1, y, none⟩) (by simp) _⟩⟩
            · rw [HS.out]
              exact (bC.set _).kept (gO _ _) (by simp <;> omega)
            · rw [HS.out]
              exact hO3
          case done =>
            rintro D ys W hD hys ⟨⟨⟨bX, bO⟩, bC, hOn⟩, hB3⟩ hK3
            have hFA := foldO_all (baseOf p) x HB.out
            rw [← hys] at hFA
            rw [hFA] at hOn
            have cX := bX.cell
            have cO := bO.cell
            have zb3 := hB3.size
            have hc3 := (hB3.cell (p := ⟨b2, o2 + i, none⟩) (World.block_lt_of_cell? _ _ hc2)).trans hc2
            clear hFA
            obtain ⟨ONE, hONE⟩ : ∃ O, O = oneOf (baseOf p) x := ⟨_, rfl⟩
            have hlO : ONE.length = k := by have := hOn.len; rw [hONE]; simpa [bvs] using this
            rw [← hONE] at hOn HN
            clear hONE
            have HLO := Lib.hid hlO
            clear hlO
            have CA := Lib.hid (fun (w1 : World) (hr : Rd w1 (some ⟨wr.heap.size + 1, 0, none⟩) (bvs ONE)) (hl : wr.heap.size + 1 < w1.heap.size) => pat_any (some ⟨wr.heap.size + 1, 0, none⟩) ONE k k x w1 HLO.out hr (by omega) (fun a e => by injection e with e; subst e; exact hl))
            rw [atF_ev] at CA
            obtain ⟨kk, hkk⟩ : ∃ q, q = divU y (ev x ONE) := ⟨_, rfl⟩
            rw [← hkk] at HN
            have CD := Lib.hid (fun (w1 : World) => pdivU_o (y.toNat : Int) ((ev x ONE).toNat : Int) y (ev x ONE) w1 rfl rfl)
            rw [← hkk] at CD
            clear hkk
            generalize okB (ev x ONE) = ok at CD
            generalize ev x ONE = vv at CA CD
            have lO := hOn.lt _ rfl
            have lO2 : wr.heap.size + 1 < W.drew.heap.size := lO.2
            have rO2 : Rd W.drew (some ⟨wr.heap.size + 1, 0, none⟩) (bvs ONE) := hOn.rd
            gi_wp2_with fail
            refine wpIn_wide.2 ?_
            go_region_held3 (fun w' => w'.cell? ⟨b2, o2 + i, none⟩ = some (.int .u8 (y.toNat : Int)) ∧ w'.cell? ⟨wr.heap.size + 1 + 1, 0, none⟩ = some (.slice (some ⟨wr.heap.size + 1, 0, none⟩) k k) ∧ w'.cell? ⟨wr.heap.size, 0, none⟩ = some (.int .u8 (x.toNat : Int))) (go_keep) (first
              | (go_at_call 94; (with_reducible refine (CA.out _ rO2 lO2).mono ?_); rintro e wA ⟨rfl, hbA⟩; have cX := (hbA.cell (p := ⟨wr.heap.size, 0, none⟩) (World.block_lt_of_cell? _ _ cX)).trans cX; have cO := (hbA.cell (p := ⟨wr.heap.size + 1 + 1, 0, none⟩) (World.block_lt_of_cell? _ _ cO)).trans cO; have hc3 := (hbA.cell (p := ⟨b2, o2 + i, none⟩) (World.block_lt_of_cell? _ _ hc3)).trans hc3)
              | (go_at_call 93; (with_reducible refine (CD.out _).mono ?_); rintro e wD ⟨rfl, rfl⟩))
            all_goals
              have hbA' : Below W.heap.size W wA := ⟨hbA.os, hbA.tape, hbA.output, hbA.size, hbA.block⟩
              have hMA := (hM.below hB3).below hbA'
              have hOA := hOn.below hbA'
              have hbA2 : Below wr.heap.size wr wA := hB3.trans (hbA'.mono zb3)
              have hKA : KeepsOthers W wA := KeepsOthers.below hbA'
              have hKw : KeepsOthers wr W := KeepsOthers.below hB3
              have hneO : blk (some ⟨wr.heap.size + 1, 0, none⟩) ≠ some wo.heap.size := blk_lit_ne (by omega)
              clear CA CD hbA rO2 lO2 hc3
              gi_wp2_with fail
              refine ⟨trivial, (callsIn_wide.2 (add_any wo.heap.size wo.heap.size 0 k k k k 0 (some ⟨wr.heap.size + 1, 0, none⟩) S ONE kk _ _ wA hMA hOA.rd HLO.out hneO (by omega) (by omega) rfl rfl)).mono ?_⟩
              rintro e w5 ⟨rfl, hM5, hg5⟩
              have hrow : ∀ (j : Nat) (o : Obj), some wo.heap.size = some j → wA.heap[j]? = some o → o.isCells = true := fun j o hj ho => by
                injection hj with hj
                subst hj
                obtain ⟨cur, _, _, hh, _⟩ := hMA.at_ _ rfl
                rw [ho] at hh
                injection hh with hh
                subst hh
                rfl
              have hK5 := KeepsOthers.of_grownBy hg5 hrow
              have hMk5 := hMk.cons ((hKw.trans hKA).trans hK5) (D := D) (by omega) (by omega) ((hKA.trans hK5).same D _ hK3 rfl)
              have hb5 : Below wo.heap.size wo w5 := (hb.trans (hbA2.mono zb)).grown hg5 (by have := hbA2.size; omega) (fun r hr => by injection hr with hr; omega)
              have HF5 : Hid (trimL (lagr (baseOf p) k (p.drop (i + 1)) (q.drop (i + 1)) (addTo S ONE kk 0 k)) = refT p q [] [1]) := Lib.hid (by rw [← HN.out]; exact HF.out)
              have hl5 : (addTo S ONE kk 0 k).length = k := by rw [addTo_length]; exact hSl
              clear hrow HN HF hMk hK5 hKA hKw
              gi_wp2_with fail
              refine ⟨?_, ?_⟩
              · repeat apply Exists.intro
                exact ⟨⟨(by omega : i + 1 ≤ k), by go_num, hl5, hM5, hb5, hMk5, HF5⟩, rfl⟩
              · simp [intOf] <;> omega
          case stop =>
            rintro D c pre W _ _ h _
            exact h.elim
        · obtain rfl : i = k := by omega
          have HE : Hid (trimL S = refT p q [] [1]) := by
            have := HF.out
            rw [lagr_end _ _ _ _ _ (by rw [HP.out]; exact Nat.le_refl _)] at this
            exact Lib.hid this
          gi_wp2_with fail
          refine ⟨trivial, (callsIn_wide.2 (trimmed_any _ S i i wr hSl hM.rd (Nat.le_refl _) (by omega))).mono ?_⟩
          rintro e w9 ⟨A9, c9, rfl, hO9, hb9⟩
          have z9 := hb.size
          have hB9 : Below w.heap.size w w9 := nextB (nextB hB zB hb) (Nat.le_trans zB z9) hb9
          rw [HE.out] at hO9 ⊢
          have hMk9 := hMk.below hb9
          gi_wp2_with fail
          rw [HR.out]
          refine leaves_marks Ds w9 hMk9 (fun w' hb' hc' => ?_)
          refine ⟨.tuple #[.slice A9 (refT p q [] [1]).length c9, .int .i64 0], by simp [results, Try.results43, go_sem], ?_⟩
          exact ⟨A9, c9, rfl, (hO9.cells hc').mono (Nat.le_trans zB z9), hB9.trans (hb'.mono zB)⟩
end Go.Proofs.Ytclcgfngolfmlaa
