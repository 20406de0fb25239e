/-
  What a key has seen behind a counter that is above its top: bit by bit. Covered bytes, piece by piece: plainly. The document's covered.
-/
import Derived.Test.YtkbaganbfcbioaaMKeysOpens13
import Derived.Test.YtkbaganbfcbioaaMKeysOpens5
import Derived.Test.YtkbaganbfcbioaaMKeysOpens8
import Derived.StillTail
import Derived.StillTactics
import Derived.StillTailTactics
namespace Go.Proofs.Ytkbaganbfcbioaa
set_option linter.unusedSimpArgs false
set_option linter.unusedVariables false
open Go.RowKit

theorem next_bit {s : Nat} {top : Int} {C t : Nat} (h : top - (C : Int) < 0) (ht : t < 62) : nextSeen s top C / 2 ^ t % 2 = 1 ↔
    0 ≤ top ∧ (top - ((C : Int) - 1 - (t : Int)) = 0 ∨ (0 < top - ((C : Int) - 1 - (t : Int)) ∧ s / 2 ^ (top - ((C : Int) - 1 - (t : Int)) - 1).toNat % 2 = 1)) := by
  unfold nextSeen
  rw [if_neg (by omega)]
  by_cases h0 : top < 0
  · rw [if_pos h0]
    constructor
    · intro h; simp at h
    · rintro ⟨h, _⟩; omega
  · rw [if_neg h0, up_bit (by omega) ht]
    constructor
    · rintro (h1 | ⟨h1, h2⟩)
      · exact ⟨by omega, .inl (by omega)⟩
      · refine ⟨by omega, .inr ⟨by omega, ?_⟩⟩
        rw [show (top - ((C : Int) - 1 - (t : Int)) - 1).toNat = t - ((C : Int) - top).toNat by omega]
        exact h2
    · rintro ⟨_, h1 | ⟨h1, h2⟩⟩
      · exact .inl (by omega)
      · refine .inr ⟨by omega, ?_⟩
        rw [show (top - ((C : Int) - 1 - (t : Int)) - 1).toNat = t - ((C : Int) - top).toNat by omega] at h2
        exact h2
theorem nextSeen_lt {s : Nat} {top : Int} {C : Nat} (h : top - (C : Int) < 0) : nextSeen s top C < 4611686018427387904 := by
  unfold nextSeen
  rw [if_neg (by omega)]
  by_cases h0 : top < 0
  · rw [if_pos h0]; decide
  · rw [if_neg h0]; exact upSeen_lt _ _
end Go.Proofs.Ytkbaganbfcbioaa
namespace Go.Proofs.Ytkbaganbfcbioaa
set_option linter.unusedSimpArgs false
set_option linter.unusedVariables false
open Go.RowKit

/-- A piece of 64, and its first bytes under a block. -/
def chunkAt (b : List UInt8) (y : Nat) : List UInt8 := (b.drop (64 * y)).take 64
theorem chunkAt_len (b : List UInt8) (y : Nat) : (chunkAt b y).length = min 64 (b.length - 64 * y) := by simp [chunkAt]
theorem chunkAt_get (b : List UInt8) {y j : Nat} (h : j < 64) : (chunkAt b y).getD j 0 = b.getD (64 * y + j) 0 := by
  simp [chunkAt, List.getD, List.getElem?_take, List.getElem?_drop, h]
def xorTo (c p : List UInt8) (j : Nat) : List UInt8 := (List.range j).map fun i => c.getD i 0 ^^^ p.getD i 0
theorem xorTo_zero (c p : List UInt8) : xorTo c p 0 = [] := rfl
theorem xorTo_succ (c p : List UInt8) (j : Nat) : xorTo c p (j + 1) = xorTo c p j ++ [c.getD j 0 ^^^ p.getD j 0] := by simp [xorTo, List.range_succ]
theorem xorTo_len (c p : List UInt8) (j : Nat) : (xorTo c p j).length = j := by simp [xorTo]
def coverStep (W : List Nat) (C : Nat) (b : List UInt8) (s : List UInt8 × Nat) (y : Nat) : List UInt8 × Nat := (s.1 ++ xorTo (chunkAt b y) (padL W C s.2) (chunkAt b y).length, s.2 + 1)
def coverP (W : List Nat) (C : Nat) (b : List UInt8) (pre : List Nat) : List UInt8 × Nat := pre.foldl (coverStep W C b) ([], 1)
theorem coverP_nil (W : List Nat) (C : Nat) (b : List UInt8) : coverP W C b [] = ([], 1) := rfl
theorem coverP_snoc (W : List Nat) (C : Nat) (b : List UInt8) (pre : List Nat) (y : Nat) : coverP W C b (pre ++ [y]) = coverStep W C b (coverP W C b pre) y := by simp [coverP]
theorem coverP_idx (W : List Nat) (C : Nat) (b : List UInt8) : ∀ (n : Nat) (pre : List Nat), pre.length = n → (coverP W C b pre).2 = 1 + n
  | 0, pre, h => by rw [List.length_eq_zero_iff.1 h]; rfl
  | n + 1, pre, h => by
    obtain ⟨q, y, rfl⟩ := list_snoc pre (by intro e; subst e; simp at h)
    rw [coverP_snoc]
    show (coverP W C b q).2 + 1 = _
    rw [coverP_idx W C b n q (by simpa using h)]
    omega
theorem coverP_len (W : List Nat) (C : Nat) (b : List UInt8) : ∀ (n : Nat) (pre : List Nat), pre.length = n → (coverP W C b pre).1.length ≤ 64 * n
  | 0, pre, h => by rw [List.length_eq_zero_iff.1 h]; simp [coverP_nil]
  | n + 1, pre, h => by
    obtain ⟨q, y, rfl⟩ := list_snoc pre (by intro e; subst e; simp at h)
    rw [coverP_snoc]
    show ((coverP W C b q).1 ++ _).length ≤ _
    have := coverP_len W C b n q (by simpa using h)
    rw [List.length_append, xorTo_len, chunkAt_len]
    omega
theorem coverTo_more (W : List Nat) (C : Nat) (b : List UInt8) (k : Nat) : ∀ j, j ≤ 64 → coverTo W C b (64 * k + j) = coverTo W C b (64 * k) ++ xorTo (chunkAt b k) (padL W C (1 + k)) j
  | 0, _ => by simp [xorTo_zero]
  | j + 1, h => by
    rw [show 64 * k + (j + 1) = (64 * k + j) + 1 from rfl, coverTo_succ, coverTo_more W C b k j (by omega), xorTo_succ, List.append_assoc, chunkAt_get b (by omega),
      show (64 * k + j) / 64 = k from by omega, show (64 * k + j) % 64 = j from by omega]
theorem coverP_range (W : List Nat) (C : Nat) (b : List UInt8) : ∀ k, coverP W C b (List.range k) = (coverTo W C b (min (64 * k) b.length), 1 + k)
  | 0 => by simp [coverP_nil, coverTo]
  | k + 1 => by
    rw [List.range_succ, coverP_snoc, coverP_range W C b k]
    show (coverTo W C b (min (64 * k) b.length) ++ xorTo (chunkAt b k) (padL W C (1 + k)) (chunkAt b k).length, 1 + k + 1) = _
    rw [chunkAt_len]
    rcases Nat.lt_or_ge (64 * k) b.length with h | h
    · rw [show min (64 * k) b.length = 64 * k from by omega, ← coverTo_more W C b k _ (by omega), show 64 * k + min 64 (b.length - 64 * k) = min (64 * (k + 1)) b.length from by omega]
      rfl
    · rw [show min 64 (b.length - 64 * k) = 0 from by omega, xorTo_zero, List.append_nil, show min (64 * k) b.length = min (64 * (k + 1)) b.length from by omega]
      rfl
theorem coverP_all (W : List Nat) (C : Nat) (b : List UInt8) : (coverP W C b (List.range ((b.length + 63) / 64))).1 = coverL W C b := by
  rw [coverP_range]
  show coverTo W C b _ = _
  rw [show min (64 * ((b.length + 63) / 64)) b.length = b.length from by omega]
  rfl
/-- What is covered so far, and the rest as it was. -/
def midL (W : List Nat) (C : Nat) (b : List UInt8) (k : Nat) : List UInt8 := coverTo W C b k ++ b.drop k
theorem midL_zero (W : List Nat) (C : Nat) (b : List UInt8) : midL W C b 0 = b := by simp [midL, coverTo]
theorem midL_end (W : List Nat) (C : Nat) (b : List UInt8) : midL W C b b.length = coverL W C b := by simp [midL, coverL]
theorem midL_len (W : List Nat) (C : Nat) (b : List UInt8) {k : Nat} (h : k ≤ b.length) : (midL W C b k).length = b.length := by simp [midL, coverTo_len]; omega
theorem midL_get (W : List Nat) (C : Nat) (b : List UInt8) {k : Nat} (h : k < b.length) : (midL W C b k).getD k 0 = b.getD k 0 := by
  simp [midL, List.getD, List.getElem?_append_right, coverTo_len]
theorem midL_succ (W : List Nat) (C : Nat) (b : List UInt8) {k : Nat} (h : k < b.length) : midL W C b (k + 1) = (midL W C b k).set k (b.getD k 0 ^^^ (padL W C (1 + k / 64)).getD (k % 64) 0) := by
  unfold midL
  rw [coverTo_succ, List.set_append_right _ _ (by simp [coverTo_len]), coverTo_len, Nat.sub_self, List.append_assoc]
  congr 1
  rw [List.drop_eq_getElem_cons h]
  rfl
end Go.Proofs.Ytkbaganbfcbioaa
namespace Go.Proofs.Ytkbaganbfcbioaa
set_option linter.unusedSimpArgs false
set_option linter.unusedVariables false
open Go.RowKit

theorem padErr_good {W : List Nat} {C I : Nat} (hl : W.length = 8) (hW : ∀ i, W.getD i 0 < 4294967296) (hC : C ≤ 281474976710655) (hI : I ≤ 1000) : padErr (nls W) (C : Int) (I : Int) = 0 := by
  unfold padErr
  rw [if_neg (by rw [nls_length]; omega), if_pos]
  refine ⟨fun x hx => ?_, by omega, by omega, by omega, by omega⟩
  simp only [nls, List.mem_map] at hx
  obtain ⟨n, hn, rfl⟩ := hx
  obtain ⟨i, hi, rfl⟩ := List.mem_iff_getElem.1 hn
  have := hW i
  rw [List.getD, List.getElem?_eq_getElem hi] at this
  simp at this
  omega
set_option maxHeartbeats 3200000 in
set_option maxRecDepth 100000 in
theorem rcovered_any (A : Option Addr) (W : List Nat) (cp C : Nat) (B : Option Addr) (b : List UInt8) (n c : Nat) (w : World) (hl : W.length = 8) (hW : ∀ i, W.getD i 0 < 4294967296) (ha : Rd w A (ivs (nls W))) (hC : C ≤ 281474976710655)
    (hF : ∀ I, I ≤ 1000 → Sq (firstL W C I)) (hbl : b.length = n) (hb : Rd w B (bvs b)) (hn : n ≤ 60000) :
    Calls Try.prog 52 #[.slice A 8 cp, .int .i64 (C : Int), .slice B n c] w fun e w' => RowsOut w w' (coverL W C b) e := by
  obtain ⟨i0, hi0, hz0, hz1, hz2⟩ := info_parts u8info
  have HL := Lib.hid hbl
  have HP := Lib.hid (fun (q : Nat) (w : World) (h : Rd w A (ivs (nls W))) (hq : q ≤ 999) => (by
    have := pad_good A W cp C (1 + q) w hl hW h hC (by omega) (padErr_good hl hW hC (by omega)) (hF _ (by omega))
    rw [show ((1 + q : Nat) : Int) = 1 + (q : Int) from by omega] at this
    exact this : Calls Try.prog 39 #[.slice A 8 cp, .int .i64 (C : Int), .int .i64 (1 + (q : Int))] w fun e w' => BytesRes w w' (padL W C (1 + q), 0) e))
  have HM := Lib.hid (fun (k : Nat) (h : k < n) => midL_succ W C b (k := k) (by omega))
  have HG := Lib.hid (fun (k : Nat) (h : k < n) => midL_get W C b (k := k) (by omega))
  have HN := Lib.hid (fun (k : Nat) (h : k ≤ n) => midL_len W C b (k := k) (by omega))
  have HE : Hid (midL W C b n = coverL W C b) := Lib.hid (by rw [← hbl]; exact midL_end W C b)
  have HPL := Lib.hid (fun (q : Nat) => padL_length W C (1 + q))
  have hcl := Lib.hid (coverL_len W C b)
  clear hl hW hF hC
  have q1 : Hid ((bvs b).length = n * 1) := by show _ = _; simp [bvs, hbl]
  have q2 : 0 + n ≤ maxLen := by unfold maxLen; omega
  have q3 : (0 + n) * 1 ≤ 140737488355328 := by omega
  clear hbl
  go_enter Try.func52, Try.ntmps52
  go_wp2_with (at_builtin; refine wpList_append_Own _ rfl (.const (.slice none 0 0)) (.tmp 10) 22 rfl w.heap.size 5 i0 _ 1 1 Try.underlying22 hi0 hz0 hz1 hz2 rfl none 0 0 [] rfl (Own.none_ _ _ _ _) B n c (bvs b) rfl q1.out hb (bvs_one _) q2 q3 (Nat.le_refl _) ?_; intro A3 c3 w3 hO3 hg3 hor3)
  rw [Nat.zero_add, List.nil_append] at hO3
  have hb3 : Below w.heap.size w w3 := below_of_grown hg3
  have HA := Lib.hid ha
  clear hg3 hor3 hb ha
  go_loopw [8, 9] (fun pv iv wr => ∃ (k : Nat) (A2 : Option Addr) (m c2 : Nat), k ≤ n ∧ iv = .int .i64 (k : Int) ∧ pv = .slice A2 m c2 ∧ Own wr w.heap.size 5 1 A3 n c3 (bvs (midL W C b k)) ∧ Below w.heap.size w wr ∧ w3.heap.size ≤ wr.heap.size ∧
    (k % 64 ≠ 0 → m = 64 ∧ Own wr w3.heap.size 5 1 A2 64 c2 (bvs (padL W C (1 + k / 64))))) (fun _ i _ => n - (intOf i).toNat)
  case atStart => exact ⟨0, none, 0, 0, by omega, by simp, rfl, by rw [midL_zero]; exact hO3, hb3, Nat.le_refl _, fun h => absurd rfl h⟩
  case round =>
    obtain ⟨k, A2, m, c2, hk, rfl, rfl, hO, hB, hz, hpad⟩ := hrel
    have haR := HA.out.below hB
    by_cases h5 : k < n
    · have h5i : (k : Int) < (n : Int) := by omega
      have hk0 : (0 : Int) ≤ (k : Int) := by omega
      obtain ⟨g, o, hA3, hg1, hg2⟩ := hO.form (by have := hO.le; omega)
      have hgz : g < w3.heap.size := by have := hO3.lt; rw [hA3] at this; exact (this g rfl).2
      subst hA3
      have HM' := Lib.hid (HM.out k h5)
      have hcx : wr.cell? ⟨g, o + k, none⟩ = some (.int .u8 ((b.getD k 0).toNat : Int)) := by
        rw [← HG.out k h5, ← at_get (by rw [HN.out k hk, HL.out]; exact h5)]
        exact hO.cell (bvs_get (by rw [HN.out k hk, HL.out]; exact h5))
      have fg : ∀ i, wr.frozen? ⟨g, i, none⟩ = false := fun i => hO.frozen i
      by_cases h6 : k % 64 = 0
      · have e64 : ((k : Int) % 64) = 0 := by omega
        have e64t : ((k : Int).tmod 64) = 0 := by rw [Int.tmod_eq_emod_of_nonneg (by omega)]; omega
        have eq64 : ((k : Int) / 64) = ((k / 64 : Nat) : Int) := by omega
        have eq64t : ((k : Int).tdiv 64) = ((k / 64 : Nat) : Int) := by rw [Int.tdiv_eq_ediv_of_nonneg (by omega)]; omega
        rw [h6] at HM'
        have CP := Lib.hid (HP.out (k / 64) wr haR (by omega))
        have hpl := HPL.out (k / 64)
        have HK1 : Hid ((k + 1) / 64 = k / 64) := Lib.hid (by omega)
        generalize k / 64 = q at *
        generalize hPq : padL W C (1 + q) = P at *
        have HPq := Lib.hid hPq
        clear hPq
        clear hpad h6
        go_wp2_with (go_at_call 39; (with_reducible refine CP.out.mono ?_); rintro e w4 ⟨A4, c4, rfl, hO4, hb4⟩)
        rw [hpl] at hO4
        obtain ⟨g4, o4, rfl, hg41, hg42⟩ := hO4.form (by have := hO4.le; omega)
        have hcy := hO4.cell (bvs_get (l := P) (k := 0) (by omega))
        rw [at_get] at hcy
        have hcx4 := (hb4.cell (p := ⟨g, o + k, none⟩) (by omega)).trans hcx
        have hO' := hO.step hb4
        have hz4 := hb4.size
        have fg4 : ∀ i, w4.frozen? ⟨g, i, none⟩ = false := fun i => hO'.frozen i
        generalize b.getD k 0 = x at *
        generalize P.getD 0 0 = y at *
        have ex := xor_u8 x y
        generalize x ^^^ y = z at *
        have hne : ¬ (g = g4) := by omega
        have hpl' : (0 : Int) < (P.length : Int) := by omega
        rw [Nat.add_zero] at hcy
        go_wp2_with fail
        go_still_tail 11, (by kernel_rfl)
        go_wp2_with fail
        go_roundw
        case rel =>
          refine ⟨k + 1, some ⟨g4, o4, none⟩, 64, c4, by omega, by go_num, rfl, ?_, ?_, by simp; omega, fun _ => ⟨rfl, ?_⟩⟩
          · rw [HM'.out]
            exact (hO'.setB (by omega) _).drew
          · exact ((nextB hB hB.size hb4).drew).setCell (p := ⟨g, o + k, none⟩) hg1 _
          · rw [HK1.out, HPq.out]
            exact ((hO4.mono (by omega)).setFar (p := ⟨g, o + k, none⟩) (fun h => hne (blk_lit h)) _).drew
        case measure => simp [intOf] <;> omega
      · have hr1 : 1 ≤ k % 64 := by omega
        have hr2 : k % 64 < 64 := by omega
        obtain ⟨rfl, hO4⟩ := hpad h6
        obtain ⟨g4, o4, rfl, hg41, hg42⟩ := hO4.form (by have := hO4.le; omega)
        have hpl := HPL.out (k / 64)
        have e64 : ((k : Int) % 64) = ((k % 64 : Nat) : Int) := by omega
        have e64t : ((k : Int).tmod 64) = ((k % 64 : Nat) : Int) := by rw [Int.tmod_eq_emod_of_nonneg (by omega)]; omega
        have HK1 : Hid ((k + 1) % 64 ≠ 0 → (k + 1) / 64 = k / 64) := Lib.hid (by omega)
        have hcy := hO4.cell (bvs_get (l := padL W C (1 + k / 64)) (k := k % 64) (by omega))
        rw [at_get] at hcy
        generalize k / 64 = q at *
        generalize k % 64 = r at *
        generalize hPq : padL W C (1 + q) = P at *
        have HPq := Lib.hid hPq
        clear hPq
        clear hpad h6
        generalize b.getD k 0 = x at *
        generalize P.getD r 0 = y at *
        have ex := xor_u8 x y
        generalize x ^^^ y = z at *
        have hne : ¬ (g = g4) := by omega
        have hr0 : (0 : Int) ≤ (r : Int) := by omega
        have hr64 : (r : Int) < 64 := by omega
        have hrb : ((r : Int) == 0) = false := by simp; omega
        go_wp2_with fail
        go_still_tail 11, (by kernel_rfl)
        go_wp2_with fail
        go_roundw
        case rel =>
          refine ⟨k + 1, some ⟨g4, o4, none⟩, 64, c2, by omega, by go_num, rfl, ?_, ?_, by simp; omega, fun h => ⟨rfl, ?_⟩⟩
          · rw [HM'.out]
            exact (hO.setB (by omega) _).drew
          · exact (hB.drew).setCell (p := ⟨g, o + k, none⟩) hg1 _
          · rw [HK1.out h, HPq.out]
            exact (hO4.setFar (p := ⟨g, o + k, none⟩) (fun h => hne (blk_lit h)) _).drew
        case measure => simp [intOf] <;> omega
    · obtain rfl : k = n := by omega
      rw [HE.out] at hO
      go_wp2_with fail
      go_ret
      exact ⟨A3, c3, by rw [hcl.out, HL.out]; rfl, by rw [hcl.out, HL.out]; exact hO, hB⟩
end Go.Proofs.Ytkbaganbfcbioaa
