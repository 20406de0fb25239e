/-
  keys.Add.
-/
import Derived.Test.YtkbaganbfcbioaaRingB
import Derived.Test.YtkbaganbfcbioaaRingY
namespace Go.Proofs.Ytkbaganbfcbioaa
set_option linter.unusedSimpArgs false
set_option linter.unusedVariables false
open Go.RowKit

set_option maxHeartbeats 12800000 in
set_option maxRecDepth 100000 in
theorem padd_any (l : List KyR) (L : List Ky) (B : Option Addr) (i d : Nat) (kx : Ky) (A : Option Addr) (cA : Nat) (w : World) (hl : l.map KyR.k = L) (hn : L.length = i) (h : RdRing w B l) (hf : RingFits L) (ha : Rd w A (ivs kx.words)) (hkf : kx.words.length ≤ 17592186044400 ∧ kx.seen < 9223372036854775808) :
    Calls Try.prog 22 #[.agg #[.slice B i d], kyv kx A cA] w fun e w' => RingRes w w' (addR L kx) e := by
  have HW := Lib.hid (fun (w : World) (h : RdRing w B l) => own_any l L B i d w hl hn h hf)
  have HY := Lib.hid (fun (w : World) (ha : Rd w A (ivs kx.words)) => kmay_any kx A cA w ha hkf.1 hkf.2)
  have HC := Lib.hid (fun (w : World) (ha : Rd w A (ivs kx.words)) => cloneI A kx.words kx.words.length cA w rfl ha hkf.1)
  obtain ⟨R, hR⟩ : ∃ R, R = addR L kx := ⟨_, rfl⟩
  rw [← hR]
  have HRd := Lib.hid h
  have HA := Lib.hid ha
  have HN := Lib.hid hn
  obtain ⟨id, words, top, seen⟩ := kx
  unfold kyv at HY ⊢
  dsimp only at HY HA hkf HC ⊢
  generalize hwl : words.length = q at *
  have HWl := Lib.hid hwl
  obtain ⟨b0, b1, b2, hB0, hz0⟩ := box3 w #[.slice B i d] #[.int .i64 id, .slice A q cA, .int .i64 top, .int .i64 seen] #[.slice none 0 0] 44 46 44
  clear h hn hl ha hwl
  by_cases hok : ringOk L
  · have hR2 : R = ((if keyOk ⟨id, words, top, seen⟩ then (match kfind L id with | some _ => (L, 4) | none => if 8 ≤ L.length then (L, 12) else (L ++ [⟨id, words, top, seen⟩], 0)) else (L, 6)) : List Ky × Int) := by rw [hR]; exact if_pos hok
    have HO : Hid (ownR L = (L, true)) := Lib.hid (if_pos hok)
    have hn8 : i ≤ 8 := by rw [← HN.out]; exact hok.1
    clear hR hok
    go_enter Try.func22, Try.ntmps22
    go_wp2_with fail
    generalize ((w.alloc (.cells #[.slice B i d] 44)).alloc (.cells #[.int .i64 id, .slice A q cA, .int .i64 top, .int .i64 seen] 46)).alloc (.cells #[.slice none 0 0] 44) = W at *
    refine (HW.out W (HRd.out.step hB0)).mono ?_
    intro e w2 h1
    obtain ⟨B2, d2, m, rfl, hm, hO, hD, hb⟩ := h1.open_ HO.out
    clear h1
    rw [HN.out] at hO ⊢
    obtain ⟨w1, hw1⟩ : ∃ w1 : World, w1 = W := ⟨_, rfl⟩
    have z1 : w.heap.size + 3 ≤ w1.heap.size := by rw [hw1]; omega
    rw [← hw1] at hO hD
    replace b0 := b0.step hb
    replace b1 := b1.step hb
    replace b2 := b2.step hb
    have z2 := hb.size
    rw [← hw1] at z2
    replace hB0 := hB0.trans (hb.mono hB0.size)
    clear hw1
    have k0 := b0.cell' (i := 0) rfl
    have f0 := b0.frozen
    have b0' := blk1_set b0 (.slice B2 i d2)
    have b1' := b1.far (p := ⟨w.heap.size, 0, none⟩) (by simp) (.slice B2 i d2)
    have b2' := b2.far (p := ⟨w.heap.size, 0, none⟩) (by simp <;> omega) (.slice B2 i d2)
    have hO' := hO.setFar (p := ⟨w.heap.size, 0, none⟩) (fun e => by have : w1.heap.size ≤ w.heap.size := (hO.lt _ e).1; omega) (.slice B2 i d2)
    have hD' := hD.map (fun _ _ _ _ h => h.setFar (p := ⟨w.heap.size, 0, none⟩) (fun e => by have : w1.heap.size ≤ w.heap.size := (h.lt _ e).1; omega) (.slice B2 i d2))
    have hB' := hB0.setCell (p := ⟨w.heap.size, 0, none⟩) (Nat.le_refl _) (.slice B2 i d2)
    have z3 : (w2.setCell ⟨w.heap.size, 0, none⟩ (.slice B2 i d2)).heap.size = w2.heap.size := by simp
    obtain ⟨y0, y1, y2, y3, yf⟩ := b1'.four
    clear hO hD hB0 b1 b2 hb
    go_wp2_with fail
    generalize w2.setCell ⟨w.heap.size, 0, none⟩ (.slice B2 i d2) = W3 at *
    clear k0 f0 b0 y0 y1 y2 y3 yf
    refine (HY.out W3 (HA.out.below hB')).mono ?_
    rintro e w4 ⟨rfl, hb⟩
    replace b0 := b0'.step hb
    replace b1 := b1'.step hb
    replace b2 := b2'.step hb
    have hO := hO'.step hb
    have hD := hD'.step hb
    have z4 := hb.size
    have hB := hB'.trans (hb.mono hB'.size)
    clear b0' b1' b2' hO' hD' hB' hb HW HY
    have k0 := b0.cell' (i := 0) rfl
    have hne : ∀ q, blk B2 = some q → w.heap.size + 3 ≤ q := fun q hq => by have := (hO.lt q hq).1; omega
    by_cases hk : keyOk ⟨id, words, top, seen⟩
    · have HR := Lib.hid (hR2.trans (if_pos hk))
      rw [decide_eq_true hk]
      clear hR2 hk
      obtain ⟨y0, y1, y2, y3, yf⟩ := b1.four
      go_wp2_with fail
      refine (find_any m L B2 i d2 id w4 hm HN.out (OwnWords.rd hO hD) hn8).mono ?_
      rintro e w5b ⟨rfl, hb⟩
      clear y0 y1 y2 y3 yf k0
      replace b0 := b0.step hb
      replace b1 := b1.step hb
      replace b2 := b2.step hb
      replace hO := hO.step hb
      replace hD := hD.step hb
      have z5b := hb.size
      replace hB := hB.trans (hb.mono hB.size)
      clear hb
      have k0 := b0.cell' (i := 0) rfl
      obtain ⟨y0, y1, y2, y3, yf⟩ := b1.four
      rcases hkf2 : kfind L id with _ | j
      · have hki : kidx L id = -1 := by unfold kidx; rw [hkf2]
        have HR2 : Hid (R = ((if 8 ≤ L.length then (L, 12) else (L ++ [⟨id, words, top, seen⟩], 0)) : List Ky × Int)) := Lib.hid (by rw [HR.out, hkf2])
        rw [hki]
        clear hki hkf2
        by_cases h8 : 8 ≤ i
        · obtain rfl : i = 8 := by omega
          obtain rfl : R = (L, 12) := by rw [HR2.out, if_pos (by rw [HN.out]; exact h8)]
          have s2 := b2.cell' (i := 0) rfl
          have sf := b2.frozen
          have b2z := blk1_set b2 (.slice B2 8 d2)
          have s3 := b2z.cell' (i := 0) rfl
          go_wp2_with fail
          refine bodyPost_ret (v := .tuple #[.agg #[.slice B2 8 d2], .int .i64 12]) (by simp [results, Try.results22, go_sem, s3]) rfl ?_
          exact RingRes.same HN.out hm (hO.setFar (p := ⟨w.heap.size + 1 + 1, 0, none⟩) (fun e => by have : w.heap.size + 3 ≤ w.heap.size + 1 + 1 := hne _ e; omega) _) (hD.map (fun _ _ _ _ h => h.setFar (p := ⟨w.heap.size + 1 + 1, 0, none⟩) (fun e => by have : w1.heap.size ≤ w.heap.size + 1 + 1 := (h.lt _ e).1; omega) _)) (by omega) (hB.setCell (p := ⟨w.heap.size + 1 + 1, 0, none⟩) (by simp; omega) _)
        · have h8i : ¬ (i : Int) = 8 := by omega
          obtain rfl : R = (L ++ [⟨id, words, top, seen⟩], 0) := by rw [HR2.out, if_neg (by rw [HN.out]; exact h8)]
          go_wp2_with fail
          refine (HC.out w5b (HA.out.below hB)).mono ?_
          rintro e w5 ⟨A4, c4, rfl, hO4, hb4⟩
          obtain ⟨i0, hi0, hz0i, hz1, hz2⟩ := info_parts i64info
          obtain ⟨j0, hj0, hy0, hy1, hy2⟩ := info_parts keyinfo
          have hxw := HA.out.below hB
          have q1 : Hid ((ivs words).length = q * 1) := by show _ = _; simp [ivs, HWl.out]
          have q2 : 0 + q ≤ maxLen := by unfold maxLen; omega
          have q3 : (0 + q) * 8 ≤ 140737488355328 := by omega
          have hbs : w1.heap.size ≤ w5b.heap.size := by omega
          have q4 : i + 1 ≤ maxLen := by unfold maxLen; omega
          have q5 : (i + 1) * 48 ≤ 140737488355328 := by omega
          have hne0 : ∀ k, blk B2 = some k → some w.heap.size ≠ some k := fun k hk e => by have := hne k hk; injection e with e; omega
          have hne2 : ∀ k, blk B2 = some k → some (w.heap.size + 1 + 1) ≠ some k := fun k hk e => by have := hne k hk; injection e with e; omega
          have Hone : ∀ (A4 : Option Addr) (c4 : Nat), Hid (∀ u ∈ [Value.int .i64 id, .slice A4 q c4, .int .i64 top, .int .i64 seen], u.oneCell' = true) := fun A4 c4 => Lib.hid (by
            intro u hu
            simp at hu
            rcases hu with rfl | rfl | rfl | rfl <;> rfl)
          have hxm : ∀ k, blk A4 = some k → w5b.heap.size ≤ k := fun k hk => (hO4.lt k hk).1
          replace hO4 := hO4.mono (base' := w1.heap.size) (by omega)
          clear y0 y1 y2 y3 yf k0
          (skip; have b0' := (b0.step hb4).far (p := ⟨w.heap.size + 1, 1, none⟩) (by simp) (.slice A4 q c4); have b1' := b1.step hb4; have b2' := (b2.step hb4).far (p := ⟨w.heap.size + 1, 1, none⟩) (by simp) (.slice A4 q c4); have y4 := b1'.cell' (i := 1) rfl; have f4 := b1'.frozen; have hKy5 := blk4_words b1' (.slice A4 q c4); obtain ⟨e0, e1, e2, e3, ef⟩ := hKy5.four; have r0 := b0'.cell' (i := 0) rfl; have hO5 := ((hO.step hb4).setFar (p := ⟨w.heap.size + 1, 1, none⟩) (fun e => by have : w.heap.size + 3 ≤ w.heap.size + 1 := hne _ e; omega) (.slice A4 q c4)).alloc (.cells #[.int .i64 id, .slice A4 q c4, .int .i64 top, .int .i64 seen] 46); have hD5 := (hD.step hb4).map (fun _ _ _ _ h => (h.setFar (p := ⟨w.heap.size + 1, 1, none⟩) (fun e => by have : w1.heap.size ≤ w.heap.size + 1 := (h.lt _ e).1; omega) (.slice A4 q c4)).alloc (.cells #[.int .i64 id, .slice A4 q c4, .int .i64 top, .int .i64 seen] 46)); have hR5 : Rd ((w5.setCell ⟨w.heap.size + 1, 1, none⟩ (.slice A4 q c4)).alloc (.cells #[.int .i64 id, .slice A4 q c4, .int .i64 top, .int .i64 seen] 46)) (some ⟨w5.heap.size, 0, none⟩) [.int .i64 id, .slice A4 q c4, .int .i64 top, .int .i64 seen] := (by simpa using Rd_lit (w5.setCell ⟨w.heap.size + 1, 1, none⟩ (.slice A4 q c4)) [.int .i64 id, .slice A4 q c4, .int .i64 top, .int .i64 seen] 46); have hbs5 : w1.heap.size ≤ ((w5.setCell ⟨w.heap.size + 1, 1, none⟩ (.slice A4 q c4)).alloc (.cells #[.int .i64 id, .slice A4 q c4, .int .i64 top, .int .i64 seen] 46)).heap.size := (by have := hb4.size; simp; omega); have b0a := b0'.alloc (.cells #[.int .i64 id, .slice A4 q c4, .int .i64 top, .int .i64 seen] 46); have b2a := b2'.alloc (.cells #[.int .i64 id, .slice A4 q c4, .int .i64 top, .int .i64 seen] 46))
          go_wp2_with (at_builtin; (refine wpList_append_Own ((w5.setCell ⟨w.heap.size + 1, 1, none⟩ (.slice A4 q c4)).alloc (.cells #[.int .i64 id, .slice A4 q c4, .int .i64 top, .int .i64 seen] 46)) rfl (.tmp 39) (.tmp 41) 42 rfl w1.heap.size 46 j0 _ 4 48 Try.underlying42 hj0 hy0 hy1 hy2 rfl B2 i d2 (kvs m) rfl hO5 (some ⟨w5.heap.size, 0, none⟩) 1 1 [.int .i64 id, .slice A4 q c4, .int .i64 top, .int .i64 seen] rfl rfl hR5 (Hone A4 c4).out q4 q5 hbs5 ?_; intro A6 c6 w8 hO6 hg6 hor6; have b0y := b0a.over hg6 hne0; have b2y := b2a.over hg6 hne2; have u0 := b0y.cell' (i := 0) rfl; have uf := b0y.frozen; have b0z := blk1_set b0y (.slice A6 (i + 1) c6); have u1 := b0z.cell' (i := 0) rfl; have b2z := b2y.far (p := ⟨w.heap.size, 0, none⟩) (by simp <;> omega) (.slice A6 (i + 1) c6); have u2 := b2z.cell' (i := 0) rfl; have uf2 := b2z.frozen; have b2t := blk1_set b2z (.slice A6 (i + 1) c6); have u3 := b2t.cell' (i := 0) rfl))
          have z5 := hb4.size
          have hb7 : Below w5b.heap.size w5b w5 := hb4
          have hB7 : Below w.heap.size w ((w5.setCell ⟨w.heap.size + 1, 1, none⟩ (.slice A4 q c4)).alloc (.cells #[.int .i64 id, .slice A4 q c4, .int .i64 top, .int .i64 seen] 46)) := ((hB.trans (hb4.mono hB.size)).setCell (p := ⟨w.heap.size + 1, 1, none⟩) (by simp) _).alloc (by simp; omega) _
          have hlx : ∀ (j : Nat) (y : KyR), m[j]? = some y → ∀ k, blk y.A = some k → k < w5b.heap.size := fun j y hy k hk => (hD.lt hy hk).2
          have hx5 : Own ((w5.setCell ⟨w.heap.size + 1, 1, none⟩ (.slice A4 q c4)).alloc (.cells #[.int .i64 id, .slice A4 q c4, .int .i64 top, .int .i64 seen] 46)) w1.heap.size 3 1 A4 words.length c4 (ivs words) := by
            rw [HWl.out]
            refine (hO4.setFar (p := ⟨w.heap.size + 1, 1, none⟩) (fun e => ?_) _).alloc _
            have : w1.heap.size ≤ w.heap.size + 1 := (hO4.lt _ e).1
            omega
          obtain ⟨hD6, hO7⟩ := add_key (x := ⟨⟨id, words, top, seen⟩, A4, c4⟩) hD5 hx5 hO5 hg6 (m := w5b.heap.size) hlx hxm (by
            show Own _ _ _ _ _ _ _ (kvs m ++ [.int .i64 id, .slice A4 words.length c4, .int .i64 top, .int .i64 seen])
            rw [HWl.out]
            exact hO6)
          have hB8 : Below w.heap.size w w8 := Below.grown' hB7 hg6 hB7.size (fun k hk => by have := hne k hk; omega)
          have z8 := hg6.size
          refine bodyPost_ret (v := .tuple #[.agg #[.slice A6 (i + 1) c6], .int .i64 0]) (by simp [results, Try.results22, go_sem, u3]) rfl ?_
          refine RingRes.same (by rw [List.length_append, HN.out]; rfl) (by rw [List.map_append, hm]; rfl) ((hO7.setFar (p := ⟨w.heap.size, 0, none⟩) (fun e => by have : w1.heap.size ≤ w.heap.size := (hO7.lt _ e).1; omega) _).setFar (p := ⟨w.heap.size + 1 + 1, 0, none⟩) (fun e => by have : w1.heap.size ≤ w.heap.size + 1 + 1 := (hO7.lt _ e).1; omega) _) (hD6.map (fun _ _ _ _ h => (h.setFar (p := ⟨w.heap.size, 0, none⟩) (fun e => by have : w1.heap.size ≤ w.heap.size := (h.lt _ e).1; omega) _).setFar (p := ⟨w.heap.size + 1 + 1, 0, none⟩) (fun e => by have : w1.heap.size ≤ w.heap.size + 1 + 1 := (h.lt _ e).1; omega) _)) (by omega) ((hB8.setCell (p := ⟨w.heap.size, 0, none⟩) (Nat.le_refl _) _).setCell (p := ⟨w.heap.size + 1 + 1, 0, none⟩) (by simp; omega) _)
      · have hki : kidx L id = (j : Int) := by unfold kidx; rw [hkf2]
        have hj0 : (0 : Int) ≤ (j : Int) := by omega
        obtain rfl : R = (L, 4) := by rw [HR.out, hkf2]
        rw [hki]
        clear hki hkf2
        have s2 := b2.cell' (i := 0) rfl
        have sf := b2.frozen
        have b2z := blk1_set b2 (.slice B2 i d2)
        have s3 := b2z.cell' (i := 0) rfl
        go_wp2_with fail
        refine bodyPost_ret (v := .tuple #[.agg #[.slice B2 i d2], .int .i64 4]) (by simp [results, Try.results22, go_sem, s3]) rfl ?_
        exact RingRes.same HN.out hm (hO.setFar (p := ⟨w.heap.size + 1 + 1, 0, none⟩) (fun e => by have : w.heap.size + 3 ≤ w.heap.size + 1 + 1 := hne _ e; omega) _) (hD.map (fun _ _ _ _ h => h.setFar (p := ⟨w.heap.size + 1 + 1, 0, none⟩) (fun e => by have : w1.heap.size ≤ w.heap.size + 1 + 1 := (h.lt _ e).1; omega) _)) (by omega) (hB.setCell (p := ⟨w.heap.size + 1 + 1, 0, none⟩) (by simp; omega) _)
    · obtain rfl : R = (L, 6) := hR2.trans (if_neg hk)
      rw [decide_eq_false hk]
      clear hR2 hk
      have s2 := b2.cell' (i := 0) rfl
      have sf := b2.frozen
      have b2z := blk1_set b2 (.slice B2 i d2)
      have s3 := b2z.cell' (i := 0) rfl
      go_wp2_with fail
      refine bodyPost_ret (v := .tuple #[.agg #[.slice B2 i d2], .int .i64 6]) (by simp [results, Try.results22, go_sem, s3]) rfl ?_
      exact RingRes.same HN.out hm (hO.setFar (p := ⟨w.heap.size + 1 + 1, 0, none⟩) (fun e => by have : w.heap.size + 3 ≤ w.heap.size + 1 + 1 := hne _ e; omega) _) (hD.map (fun _ _ _ _ h => h.setFar (p := ⟨w.heap.size + 1 + 1, 0, none⟩) (fun e => by have : w1.heap.size ≤ w.heap.size + 1 + 1 := (h.lt _ e).1; omega) _)) (by omega) (hB.setCell (p := ⟨w.heap.size + 1 + 1, 0, none⟩) (by simp; omega) _)
  · obtain rfl : R = ([], 11) := by rw [hR]; exact if_neg hok
    have HO : Hid (ownR L = ([], false)) := Lib.hid (if_neg hok)
    clear hR hok
    go_enter Try.func22, Try.ntmps22
    go_wp2_with fail
    generalize ((w.alloc (.cells #[.slice B i d] 44)).alloc (.cells #[.int .i64 id, .slice A q cA, .int .i64 top, .int .i64 seen] 46)).alloc (.cells #[.slice none 0 0] 44) = W at *
    refine (HW.out W (HRd.out.step hB0)).mono ?_
    intro e w1 h1
    rw [HO.out] at h1
    obtain ⟨B1, c1, rfl, ⟨m, hm, hO, hD⟩, hb⟩ := h1
    dsimp only [List.length_nil] at hO ⊢
    have hmn : m = [] := by simpa using hm
    subst hmn
    replace b0 := b0.step hb
    replace b2 := b2.step hb
    have z1 := hb.size
    replace hB0 := hB0.trans (hb.mono hB0.size)
    have k0 := b0.cell' (i := 0) rfl
    have f0 := b0.frozen
    have b0' := blk1_set b0 (.slice B1 0 c1)
    have b2' := b2.far (p := ⟨w.heap.size, 0, none⟩) (by simp <;> omega) (.slice B1 0 c1)
    have k0' := b0'.cell' (i := 0) rfl
    have e1 := b2'.cell' (i := 0) rfl
    have ef := b2'.frozen
    have b2z := blk1_set b2' (.slice B1 0 c1)
    have e2 := b2z.cell' (i := 0) rfl
    go_wp2_with fail
    refine bodyPost_ret (v := .tuple #[.agg #[.slice B1 0 c1], .int .i64 11]) (by simp [results, Try.results22, go_sem, e2]) rfl ?_
    refine ⟨B1, c1, rfl, ⟨[], rfl, ?_, OwnWords.nil _ _⟩, (hB0.setCell (p := ⟨w.heap.size, 0, none⟩) (Nat.le_refl _) _).setCell (p := ⟨w.heap.size + 1 + 1, 0, none⟩) (by simp; omega) _⟩
    exact ((hO.setFar (p := ⟨w.heap.size, 0, none⟩) (fun e => by have : W.heap.size ≤ w.heap.size := (hO.lt _ e).1; omega) _).setFar (p := ⟨w.heap.size + 1 + 1, 0, none⟩) (fun e => by have : W.heap.size ≤ w.heap.size + 1 + 1 := (hO.lt _ e).1; omega) _).mono (by omega)
end Go.Proofs.Ytkbaganbfcbioaa
