/-
  The document's covered.
-/
import Derived.Test.YtkbaganbfcbioaaCoverP
import Derived.Test.YtkbaganbfcbioaaKeyPad
import Derived.Test.YtkbaganbfcbioaaOne
import Derived.StillTail
import Derived.StillTactics
import Derived.StillTailTactics
namespace Go.Proofs.Ytkbaganbfcbioaa
set_option linter.unusedSimpArgs false
set_option linter.unusedVariables false
open Go.RowKit

theorem padErr_good {W : List Nat} {C I : Nat} (hl : W.length = 8) (hW : ∀ i, W.getD i 0 < 4294967296) (hC : C ≤ 281474976710655) (hI : I ≤ 1000) : padErr (nls W) (C : Int) (I : Int) = 0 := by
  unfold padErr
  rw [if_neg (by rw [nls_length]; omega), if_pos]
  refine ⟨fun x hx => ?_, by omega, by omega, by omega, by omega⟩
  simp only [nls, List.mem_map] at hx
  obtain ⟨n, hn, rfl⟩ := hx
  obtain ⟨i, hi, rfl⟩ := List.mem_iff_getElem.1 hn
  have := hW i
  rw [List.getD, List.getElem?_eq_getElem hi] at this
  simp at this
  omega
set_option maxHeartbeats 3200000 in
set_option maxRecDepth 100000 in
theorem rcovered_any (A : Option Addr) (W : List Nat) (cp C : Nat) (B : Option Addr) (b : List UInt8) (n c : Nat) (w : World) (hl : W.length = 8) (hW : ∀ i, W.getD i 0 < 4294967296) (ha : Rd w A (ivs (nls W))) (hC : C ≤ 281474976710655)
    (hF : ∀ I, I ≤ 1000 → Sq (firstL W C I)) (hbl : b.length = n) (hb : Rd w B (bvs b)) (hn : n ≤ 60000) :
    Calls Try.prog 52 #[.slice A 8 cp, .int .i64 (C : Int), .slice B n c] w fun e w' => RowsOut w w' (coverL W C b) e := by
  obtain ⟨i0, hi0, hz0, hz1, hz2⟩ := info_parts u8info
  have HL := Lib.hid hbl
  have HP := Lib.hid (fun (q : Nat) (w : World) (h : Rd w A (ivs (nls W))) (hq : q ≤ 999) => (by
    have := pad_good A W cp C (1 + q) w hl hW h hC (by omega) (padErr_good hl hW hC (by omega)) (hF _ (by omega))
    rw [show ((1 + q : Nat) : Int) = 1 + (q : Int) from by omega] at this
    exact this : Calls Try.prog 39 #[.slice A 8 cp, .int .i64 (C : Int), .int .i64 (1 + (q : Int))] w fun e w' => BytesRes w w' (padL W C (1 + q), 0) e))
  have HM := Lib.hid (fun (k : Nat) (h : k < n) => midL_succ W C b (k := k) (by omega))
  have HG := Lib.hid (fun (k : Nat) (h : k < n) => midL_get W C b (k := k) (by omega))
  have HN := Lib.hid (fun (k : Nat) (h : k ≤ n) => midL_len W C b (k := k) (by omega))
  have HE : Hid (midL W C b n = coverL W C b) := Lib.hid (by rw [← hbl]; exact midL_end W C b)
  have HPL := Lib.hid (fun (q : Nat) => padL_length W C (1 + q))
  have hcl := Lib.hid (coverL_len W C b)
  clear hl hW hF hC
  have q1 : Hid ((bvs b).length = n * 1) := by show _ = _; simp [bvs, hbl]
  have q2 : 0 + n ≤ maxLen := by unfold maxLen; omega
  have q3 : (0 + n) * 1 ≤ 140737488355328 := by omega
  clear hbl
  go_enter Try.func52, Try.ntmps52
  go_wp2_with (at_builtin; refine wpList_append_Own _ rfl (.const (.slice none 0 0)) (.tmp 10) 22 rfl w.heap.size 5 i0 _ 1 1 Try.underlying22 hi0 hz0 hz1 hz2 rfl none 0 0 [] rfl (Own.none_ _ _ _ _) B n c (bvs b) rfl q1.out hb (bvs_one _) q2 q3 (Nat.le_refl _) ?_; intro A3 c3 w3 hO3 hg3 hor3)
  rw [Nat.zero_add, List.nil_append] at hO3
  have hb3 : Below w.heap.size w w3 := below_of_grown hg3
  have HA := Lib.hid ha
  clear hg3 hor3 hb ha
  go_loopw [8, 9] (fun pv iv wr => ∃ (k : Nat) (A2 : Option Addr) (m c2 : Nat), k ≤ n ∧ iv = .int .i64 (k : Int) ∧ pv = .slice A2 m c2 ∧ Own wr w.heap.size 5 1 A3 n c3 (bvs (midL W C b k)) ∧ Below w.heap.size w wr ∧ w3.heap.size ≤ wr.heap.size ∧
    (k % 64 ≠ 0 → m = 64 ∧ Own wr w3.heap.size 5 1 A2 64 c2 (bvs (padL W C (1 + k / 64))))) (fun _ i _ => n - (intOf i).toNat)
  case atStart => exact ⟨0, none, 0, 0, by omega, by simp, rfl, by rw [midL_zero]; exact hO3, hb3, Nat.le_refl _, fun h => absurd rfl h⟩
  case round =>
    obtain ⟨k, A2, m, c2, hk, rfl, rfl, hO, hB, hz, hpad⟩ := hrel
    have haR := HA.out.below hB
    by_cases h5 : k < n
    · have h5i : (k : Int) < (n : Int) := by omega
      have hk0 : (0 : Int) ≤ (k : Int) := by omega
      obtain ⟨g, o, hA3, hg1, hg2⟩ := hO.form (by have := hO.le; omega)
      have hgz : g < w3.heap.size := by have := hO3.lt; rw [hA3] at this; exact (this g rfl).2
      subst hA3
      have HM' := Lib.hid (HM.out k h5)
      have hcx : wr.cell? ⟨g, o + k, none⟩ = some (.int .u8 ((b.getD k 0).toNat : Int)) := by
        rw [← HG.out k h5, ← at_get (by rw [HN.out k hk, HL.out]; exact h5)]
        exact hO.cell (bvs_get (by rw [HN.out k hk, HL.out]; exact h5))
      have fg : ∀ i, wr.frozen? ⟨g, i, none⟩ = false := fun i => hO.frozen i
      by_cases h6 : k % 64 = 0
      · have e64 : ((k : Int) % 64) = 0 := by omega
        have e64t : ((k : Int).tmod 64) = 0 := by rw [Int.tmod_eq_emod_of_nonneg (by omega)]; omega
        have eq64 : ((k : Int) / 64) = ((k / 64 : Nat) : Int) := by omega
        have eq64t : ((k : Int).tdiv 64) = ((k / 64 : Nat) : Int) := by rw [Int.tdiv_eq_ediv_of_nonneg (by omega)]; omega
        rw [h6] at HM'
        have CP := Lib.hid (HP.out (k / 64) wr haR (by omega))
        have hpl := HPL.out (k / 64)
        have HK1 : Hid ((k + 1) / 64 = k / 64) := Lib.hid (by omega)
        generalize k / 64 = q at *
        generalize hPq : padL W C (1 + q) = P at *
        have HPq := Lib.hid hPq
        clear hPq
        clear hpad h6
        go_wp2_with (go_at_call 39; (with_reducible refine CP.out.mono ?_); rintro e w4 ⟨A4, c4, rfl, hO4, hb4⟩)
        rw [hpl] at hO4
        obtain ⟨g4, o4, rfl, hg41, hg42⟩ := hO4.form (by have := hO4.le; omega)
        have hcy := hO4.cell (bvs_get (l := P) (k := 0) (by omega))
        rw [at_get] at hcy
        have hcx4 := (hb4.cell (p := ⟨g, o + k, none⟩) (by omega)).trans hcx
        have hO' := hO.step hb4
        have hz4 := hb4.size
        have fg4 : ∀ i, w4.frozen? ⟨g, i, none⟩ = false := fun i => hO'.frozen i
        generalize b.getD k 0 = x at *
        generalize P.getD 0 0 = y at *
        have ex := xor_u8 x y
        generalize x ^^^ y = z at *
        have hne : ¬ (g = g4) := by omega
        have hpl' : (0 : Int) < (P.length : Int) := by omega
        rw [Nat.add_zero] at hcy
        go_wp2_with fail
        go_still_tail 11, (by kernel_rfl)
        go_wp2_with fail
        go_roundw
        case rel =>
          refine ⟨k + 1, some ⟨g4, o4, none⟩, 64, c4, by omega, by go_num, rfl, ?_, ?_, by simp; omega, fun _ => ⟨rfl, ?_⟩⟩
          · rw [HM'.out]
            exact (hO'.setB (by omega) _).drew
          · exact ((nextB hB hB.size hb4).drew).setCell (p := ⟨g, o + k, none⟩) hg1 _
          · rw [HK1.out, HPq.out]
            exact ((hO4.mono (by omega)).setFar (p := ⟨g, o + k, none⟩) (fun h => hne (blk_lit h)) _).drew
        case measure => simp [intOf] <;> omega
      · have hr1 : 1 ≤ k % 64 := by omega
        have hr2 : k % 64 < 64 := by omega
        obtain ⟨rfl, hO4⟩ := hpad h6
        obtain ⟨g4, o4, rfl, hg41, hg42⟩ := hO4.form (by have := hO4.le; omega)
        have hpl := HPL.out (k / 64)
        have e64 : ((k : Int) % 64) = ((k % 64 : Nat) : Int) := by omega
        have e64t : ((k : Int).tmod 64) = ((k % 64 : Nat) : Int) := by rw [Int.tmod_eq_emod_of_nonneg (by omega)]; omega
        have HK1 : Hid ((k + 1) % 64 ≠ 0 → (k + 1) / 64 = k / 64) := Lib.hid (by omega)
        have hcy := hO4.cell (bvs_get (l := padL W C (1 + k / 64)) (k := k % 64) (by omega))
        rw [at_get] at hcy
        generalize k / 64 = q at *
        generalize k % 64 = r at *
        generalize hPq : padL W C (1 + q) = P at *
        have HPq := Lib.hid hPq
        clear hPq
        clear hpad h6
        generalize b.getD k 0 = x at *
        generalize P.getD r 0 = y at *
        have ex := xor_u8 x y
        generalize x ^^^ y = z at *
        have hne : ¬ (g = g4) := by omega
        have hr0 : (0 : Int) ≤ (r : Int) := by omega
        have hr64 : (r : Int) < 64 := by omega
        have hrb : ((r : Int) == 0) = false := by simp; omega
        go_wp2_with fail
        go_still_tail 11, (by kernel_rfl)
        go_wp2_with fail
        go_roundw
        case rel =>
          refine ⟨k + 1, some ⟨g4, o4, none⟩, 64, c2, by omega, by go_num, rfl, ?_, ?_, by simp; omega, fun h => ⟨rfl, ?_⟩⟩
          · rw [HM'.out]
            exact (hO.setB (by omega) _).drew
          · exact (hB.drew).setCell (p := ⟨g, o + k, none⟩) hg1 _
          · rw [HK1.out h, HPq.out]
            exact (hO4.setFar (p := ⟨g, o + k, none⟩) (fun h => hne (blk_lit h)) _).drew
        case measure => simp [intOf] <;> omega
    · obtain rfl : k = n := by omega
      rw [HE.out] at hO
      go_wp2_with fail
      go_ret
      exact ⟨A3, c3, by rw [hcl.out, HL.out]; rfl, by rw [hcl.out, HL.out]; exact hO, hB⟩
end Go.Proofs.Ytkbaganbfcbioaa
