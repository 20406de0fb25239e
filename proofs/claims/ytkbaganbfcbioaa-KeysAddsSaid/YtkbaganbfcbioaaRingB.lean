/-
  The document's Added.
-/
import Derived.Test.YtkbaganbfcbioaaRingD
namespace Go.Proofs.Ytkbaganbfcbioaa
set_option linter.unusedSimpArgs false
set_option linter.unusedVariables false
open Go.RowKit

def addR (L : List Ky) (k : Ky) : List Ky × Int := if ringOk L then (if keyOk k then (match kfind L k.id with | some _ => (L, 4) | none => if 8 ≤ L.length then (L, 12) else (L ++ [k], 0)) else (L, 6)) else ([], 11)
theorem box3 (w : World) (a b c : Array Value) (s t u : TypeId) : Blk (((w.alloc (.cells a s)).alloc (.cells b t)).alloc (.cells c u)) w.heap.size s a ∧ Blk (((w.alloc (.cells a s)).alloc (.cells b t)).alloc (.cells c u)) (w.heap.size + 1) t b ∧ Blk (((w.alloc (.cells a s)).alloc (.cells b t)).alloc (.cells c u)) (w.heap.size + 1 + 1) u c ∧ Below w.heap.size w (((w.alloc (.cells a s)).alloc (.cells b t)).alloc (.cells c u)) ∧ (((w.alloc (.cells a s)).alloc (.cells b t)).alloc (.cells c u)).heap.size = w.heap.size + 3 := by
  obtain ⟨h0, h1, h2, h3⟩ := box2 w a b s t
  refine ⟨h0.alloc _, h1.alloc _, ?_, h2.alloc h2.size _, by simp⟩
  have := Blk.new ((w.alloc (.cells a s)).alloc (.cells b t)) u c
  rw [h3] at this
  exact this
/-- A ring of its own that is handed back as it stands. -/
theorem RingRes.same {w w' : World} {L : List Ky} {B : Option Addr} {n c : Nat} {m : List KyR} {b : Nat} {k : Int} (hn : L.length = n) (hm : m.map KyR.k = L) (hO : Own w' b 46 4 B n c (kvs m)) (hD : OwnWords w' b m) (hb : w.heap.size ≤ b) (h : Below w.heap.size w w') : RingRes w w' (L, k) (.returned (.tuple #[.agg #[.slice B n c], .int .i64 k])) := by
  subst hn
  exact ⟨B, c, rfl, ⟨m, hm, hO.mono hb, hD.map (fun _ _ _ _ h => h.mono hb)⟩, h⟩
set_option maxHeartbeats 12800000 in
set_option maxRecDepth 100000 in
theorem radded_any (l : List KyR) (L : List Ky) (B : Option Addr) (n d : Nat) (kx : Ky) (A : Option Addr) (cA : Nat) (w : World) (hl : l.map KyR.k = L) (hn : L.length = n) (h : RdRing w B l) (hf : RingFits L) (hnn : n ≤ 2932031007317) (ha : Rd w A (ivs kx.words)) (hkf : kx.words.length ≤ 17592186044400 ∧ kx.seen < 9223372036854775808) :
    Calls Try.prog 20 #[.agg #[.slice B n d], kyv kx A cA] w fun e w' => RingRes w w' (addR L kx) e := by
  have HM := Lib.hid (fun (w : World) (h : RdRing w B l) => rringMay_any l L B n d w hl hn h hf)
  have HO := Lib.hid (fun (w : World) (h : RdRing w B l) => ringOf_any l L B n d w hl hn h hf hnn)
  have HY := Lib.hid (fun (w : World) (ha : Rd w A (ivs kx.words)) => rkeyMay_any kx A cA w ha hkf.1 hkf.2)
  obtain ⟨R, hR⟩ : ∃ R, R = addR L kx := ⟨_, rfl⟩
  rw [← hR]
  have HRd := Lib.hid h
  have HA := Lib.hid ha
  have HN := Lib.hid hn
  obtain ⟨id, words, top, seen⟩ := kx
  unfold kyv at HY ⊢
  dsimp only at HY HA hkf ⊢
  generalize hwl : words.length = q at *
  have HWl := Lib.hid hwl
  obtain ⟨b0, b1, b2, hB0, hz0⟩ := box3 w #[.slice B n d] #[.int .i64 id, .slice A q cA, .int .i64 top, .int .i64 seen] #[.slice none 0 0] 44 46 44
  clear h hn hl ha hwl
  by_cases hok : ringOk L
  · have hR2 : R = ((if keyOk ⟨id, words, top, seen⟩ then (match kfind L id with | some _ => (L, 4) | none => if 8 ≤ L.length then (L, 12) else (L ++ [⟨id, words, top, seen⟩], 0)) else (L, 6)) : List Ky × Int) := by rw [hR]; exact if_pos hok
    rw [decide_eq_true hok] at HM
    have hn8 : n ≤ 8 := by rw [← HN.out]; exact hok.1
    clear hR hok
    go_enter Try.func20, Try.ntmps20
    go_wp2_with fail
    generalize ((w.alloc (.cells #[.slice B n d] 44)).alloc (.cells #[.int .i64 id, .slice A q cA, .int .i64 top, .int .i64 seen] 46)).alloc (.cells #[.slice none 0 0] 44) = W at *
    refine (HM.out W (HRd.out.step hB0)).mono ?_
    rintro e w1 ⟨rfl, hb⟩
    replace b0 := b0.step hb
    replace b1 := b1.step hb
    replace b2 := b2.step hb
    have z1 := hb.size
    replace hB0 := hB0.trans (hb.mono hB0.size)
    have k0 := b0.cell' (i := 0) rfl
    clear hb
    go_wp2_with fail
    refine (HO.out w1 (HRd.out.step hB0)).mono ?_
    rintro e w2 ⟨B2, d2, rfl, ⟨m, hm, hO, hD⟩, hb⟩
    clear k0
    replace b0 := b0.step hb
    replace b1 := b1.step hb
    replace b2 := b2.step hb
    have z2 := hb.size
    replace hB0 := hB0.trans (hb.mono hB0.size)
    have k0 := b0.cell' (i := 0) rfl
    have f0 := b0.frozen
    have b0' := blk1_set b0 (.slice B2 n d2)
    have b1' := b1.far (p := ⟨w.heap.size, 0, none⟩) (by simp) (.slice B2 n d2)
    have b2' := b2.far (p := ⟨w.heap.size, 0, none⟩) (by simp <;> omega) (.slice B2 n d2)
    have hO' := hO.setFar (p := ⟨w.heap.size, 0, none⟩) (fun e => by have : w1.heap.size ≤ w.heap.size := (hO.lt _ e).1; omega) (.slice B2 n d2)
    have hD' := hD.map (fun _ _ _ _ h => h.setFar (p := ⟨w.heap.size, 0, none⟩) (fun e => by have : w1.heap.size ≤ w.heap.size := (h.lt _ e).1; omega) (.slice B2 n d2))
    have hB' := hB0.setCell (p := ⟨w.heap.size, 0, none⟩) (Nat.le_refl _) (.slice B2 n d2)
    have z3 : (w2.setCell ⟨w.heap.size, 0, none⟩ (.slice B2 n d2)).heap.size = w2.heap.size := by simp
    obtain ⟨y0, y1, y2, y3, yf⟩ := b1'.four
    clear hO hD hB0 b1 b2 hb
    go_wp2_with fail
    generalize w2.setCell ⟨w.heap.size, 0, none⟩ (.slice B2 n d2) = W3 at *
    clear k0 f0 b0 y0 y1 y2 y3 yf
    refine (HY.out W3 (HA.out.below hB')).mono ?_
    rintro e w4 ⟨rfl, hb⟩
    replace b0 := b0'.step hb
    replace b1 := b1'.step hb
    replace b2 := b2'.step hb
    have hO := hO'.step hb
    have hD := hD'.step hb
    have z4 := hb.size
    have hB := hB'.trans (hb.mono hB'.size)
    clear b0' b1' b2' hO' hD' hB' hb HM HO HY
    have k0 := b0.cell' (i := 0) rfl
    by_cases hk : keyOk ⟨id, words, top, seen⟩
    · have HR := Lib.hid (hR2.trans (if_pos hk))
      rw [decide_eq_true hk]
      clear hR2 hk
      go_wp2_with fail
      go_loopw [6] (fun iv wr => ∃ i : Nat, i ≤ n ∧ iv = .int .i64 (i : Int) ∧ Below w.heap.size w wr ∧ w4.heap.size ≤ wr.heap.size ∧ (Blk wr w.heap.size 44 #[.slice B2 n d2] ∧ Blk wr (w.heap.size + 1) 46 #[.int .i64 id, .slice A q cA, .int .i64 top, .int .i64 seen] ∧ Blk wr (w.heap.size + 1 + 1) 44 #[.slice none 0 0]) ∧ Own wr w1.heap.size 46 4 B2 n d2 (kvs m) ∧ OwnWords wr w1.heap.size m ∧ Hid (∀ a y, a < i → L[a]? = some y → y.id ≠ id)) (fun iv _ => n - (intOf iv).toNat)
      case atStart => exact ⟨0, Nat.zero_le _, rfl, hB, Nat.le_refl _, ⟨b0, b1, b2⟩, hO, hD, Lib.hid (fun a y h => by omega)⟩
      case round =>
        clear hB b0 b1 b2 hO hD k0
        obtain ⟨i, hi, rfl, hB, zr, ⟨b0, b1, b2⟩, hO, hD, HF⟩ := hrel
        have k0 := b0.cell' (i := 0) rfl
        obtain ⟨y0, y1, y2, y3, yf⟩ := b1.four
        have hne : ∀ q, blk B2 = some q → w.heap.size + 3 ≤ q := fun q hq => by have := (hO.lt q hq).1; omega
        by_cases h5 : i < n
        · have h5i : (i : Int) < (n : Int) := by omega
          have hip : (0 : Int) ≤ (i : Int) := by omega
          have hiL : i < L.length := by rw [HN.out]; exact h5
          obtain ⟨xA, xd, hx⟩ := ky_at hm hiL
          have HLi := Lib.hid (List.getElem?_eq_getElem hiL)
          have hRw := OwnWords.rd hO hD
          generalize L[i] = kx at *
          obtain ⟨id2, words2, top2, seen2⟩ := kx
          obtain ⟨g, o, rfl, x0, _, _, _⟩ := hRw.cells hx
          dsimp only at x0
          by_cases he : id2 = id
          · obtain rfl : R = (L, 4) := by rw [HR.out, kfind_some HLi.out he HF.out]
            subst he
            have e2 := b2.drew.cell' (i := 0) rfl
            go_wp2_with fail
            go_quiet (fail)
            have b0n := b0.drewN nq
            have b2n := b2.drewN nq
            have hBn := below_drewN hB nq
            have hOn := hO.drewN nq
            have hDn := hD.map (fun _ _ _ _ h => h.drewN nq)
            generalize wr.drewN nq = W5 at *
            have s0 := b0n.cell' (i := 0) rfl
            have s2 := b2n.cell' (i := 0) rfl
            have sf := b2n.frozen
            have b2z := blk1_set b2n (.slice (some ⟨g, o, none⟩) n d2)
            have s3 := b2z.cell' (i := 0) rfl
            go_wp2_with fail
            refine bodyPost_ret (v := .tuple #[.agg #[.slice (some ⟨g, o, none⟩) n d2], .int .i64 4]) (by simp [results, Try.results20, go_sem, s3]) rfl ?_
            exact RingRes.same HN.out hm (hOn.setFar (p := ⟨w.heap.size + 1 + 1, 0, none⟩) (fun e => by have : w.heap.size + 3 ≤ w.heap.size + 1 + 1 := hne _ e; omega) _) (hDn.map (fun _ _ _ _ h => h.setFar (p := ⟨w.heap.size + 1 + 1, 0, none⟩) (fun e => by have : w1.heap.size ≤ w.heap.size + 1 + 1 := (h.lt _ e).1; omega) _)) (by omega) (hBn.setCell (p := ⟨w.heap.size + 1 + 1, 0, none⟩) (by simp; omega) _)
          · have heb : (id2 == id) = false := by simpa using he
            have HF2 : Hid (∀ a y, a < i + 1 → L[a]? = some y → y.id ≠ id) := Lib.hid (fun a y ha hay => by
              rcases Nat.lt_or_ge a i with h | h
              · exact HF.out a y h hay
              · obtain rfl : a = i := by omega
                rw [HLi.out] at hay
                injection hay with hay
                subst hay
                exact he)
            go_wp2_with fail
            go_quiet (fail)
            go_wp2_with fail
            go_roundw
            case rel => exact ⟨i + 1, by omega, by go_num, below_drewN hB _, zr, ⟨b0.drewN _, b1.drewN _, b2.drewN _⟩, hO.drewN _, hD.map (fun _ _ _ _ h => h.drewN _), HF2⟩
            case measure => simp [intOf]; omega
        · obtain rfl : i = n := by omega
          have h5i : ¬ (i : Int) < (i : Int) := by omega
          have HR2 : Hid (R = ((if 8 ≤ L.length then (L, 12) else (L ++ [⟨id, words, top, seen⟩], 0)) : List Ky × Int)) := Lib.hid (by
            rw [HR.out, kfind_none (fun a y hay => HF.out a y (by have := (List.getElem?_eq_some_iff.1 hay).1; rw [HN.out] at this; exact this) hay)])
          by_cases h8 : 8 ≤ i
          · have h8i : (8 : Int) ≤ (i : Int) := by omega
            obtain rfl : R = (L, 12) := by rw [HR2.out, if_pos (by rw [HN.out]; exact h8)]
            have s2 := b2.cell' (i := 0) rfl
            have sf := b2.frozen
            have b2z := blk1_set b2 (.slice B2 i d2)
            have s3 := b2z.cell' (i := 0) rfl
            go_wp2_with fail
            refine bodyPost_ret (v := .tuple #[.agg #[.slice B2 i d2], .int .i64 12]) (by simp [results, Try.results20, go_sem, s3]) rfl ?_
            exact RingRes.same HN.out hm (hO.setFar (p := ⟨w.heap.size + 1 + 1, 0, none⟩) (fun e => by have : w.heap.size + 3 ≤ w.heap.size + 1 + 1 := hne _ e; omega) _) (hD.map (fun _ _ _ _ h => h.setFar (p := ⟨w.heap.size + 1 + 1, 0, none⟩) (fun e => by have : w1.heap.size ≤ w.heap.size + 1 + 1 := (h.lt _ e).1; omega) _)) (by omega) (hB.setCell (p := ⟨w.heap.size + 1 + 1, 0, none⟩) (by simp; omega) _)
          · have h8i : ¬ (8 : Int) ≤ (i : Int) := by omega
            obtain rfl : R = (L ++ [⟨id, words, top, seen⟩], 0) := by rw [HR2.out, if_neg (by rw [HN.out]; exact h8)]
            obtain ⟨i0, hi0, hz0i, hz1, hz2⟩ := info_parts i64info
            obtain ⟨j0, hj0, hy0, hy1, hy2⟩ := info_parts keyinfo
            have hxw := HA.out.below hB
            have q1 : Hid ((ivs words).length = q * 1) := by show _ = _; simp [ivs, HWl.out]
            have q2 : 0 + q ≤ maxLen := by unfold maxLen; omega
            have q3 : (0 + q) * 8 ≤ 140737488355328 := by omega
            have hbs : w1.heap.size ≤ wr.heap.size := by omega
            have q4 : i + 1 ≤ maxLen := by unfold maxLen; omega
            have q5 : (i + 1) * 48 ≤ 140737488355328 := by omega
            have hne0 : ∀ k, blk B2 = some k → some w.heap.size ≠ some k := fun k hk e => by have := hne k hk; injection e with e; omega
            have hne2 : ∀ k, blk B2 = some k → some (w.heap.size + 1 + 1) ≠ some k := fun k hk e => by have := hne k hk; injection e with e; omega
            have Hone : ∀ (A4 : Option Addr) (c4 : Nat), Hid (∀ u ∈ [Value.int .i64 id, .slice A4 q c4, .int .i64 top, .int .i64 seen], u.oneCell' = true) := fun A4 c4 => Lib.hid (by
              intro u hu
              simp at hu
              rcases hu with rfl | rfl | rfl | rfl <;> rfl)
            go_wp2_with (at_builtin; first
              | (refine wpList_append_Own wr rfl (.const (.slice none 0 0)) (.tmp 40) 35 rfl w1.heap.size 3 i0 _ 1 8 Try.underlying35 hi0 hz0i hz1 hz2 rfl none 0 0 [] rfl (Own.none_ _ _ _ _) A q cA (ivs words) rfl q1.out hxw (ivs_one _) q2 q3 hbs ?_; intro A4 c4 w5 hO4 hg4 hor4; rw [Nat.zero_add, List.nil_append] at hO4; have hb4 := below_of_grown hg4; have b0' := (b0.step hb4).far (p := ⟨w.heap.size + 1, 1, none⟩) (by simp) (.slice A4 q c4); have b1' := b1.step hb4; have b2' := (b2.step hb4).far (p := ⟨w.heap.size + 1, 1, none⟩) (by simp) (.slice A4 q c4); have y4 := b1'.cell' (i := 1) rfl; have f4 := b1'.frozen; have hKy5 := blk4_words b1' (.slice A4 q c4); obtain ⟨e0, e1, e2, e3, ef⟩ := hKy5.four; have r0 := b0'.cell' (i := 0) rfl; have hO5 := ((hO.step hb4).setFar (p := ⟨w.heap.size + 1, 1, none⟩) (fun e => by have : w.heap.size + 3 ≤ w.heap.size + 1 := hne _ e; omega) (.slice A4 q c4)).alloc (.cells #[.int .i64 id, .slice A4 q c4, .int .i64 top, .int .i64 seen] 46); have hD5 := (hD.step hb4).map (fun _ _ _ _ h => (h.setFar (p := ⟨w.heap.size + 1, 1, none⟩) (fun e => by have : w1.heap.size ≤ w.heap.size + 1 := (h.lt _ e).1; omega) (.slice A4 q c4)).alloc (.cells #[.int .i64 id, .slice A4 q c4, .int .i64 top, .int .i64 seen] 46)); have hR5 : Rd ((w5.setCell ⟨w.heap.size + 1, 1, none⟩ (.slice A4 q c4)).alloc (.cells #[.int .i64 id, .slice A4 q c4, .int .i64 top, .int .i64 seen] 46)) (some ⟨w5.heap.size, 0, none⟩) [.int .i64 id, .slice A4 q c4, .int .i64 top, .int .i64 seen] := (by simpa using Rd_lit (w5.setCell ⟨w.heap.size + 1, 1, none⟩ (.slice A4 q c4)) [.int .i64 id, .slice A4 q c4, .int .i64 top, .int .i64 seen] 46); have hbs5 : w1.heap.size ≤ ((w5.setCell ⟨w.heap.size + 1, 1, none⟩ (.slice A4 q c4)).alloc (.cells #[.int .i64 id, .slice A4 q c4, .int .i64 top, .int .i64 seen] 46)).heap.size := (by have := hb4.size; simp; omega); have b0a := b0'.alloc (.cells #[.int .i64 id, .slice A4 q c4, .int .i64 top, .int .i64 seen] 46); have b2a := b2'.alloc (.cells #[.int .i64 id, .slice A4 q c4, .int .i64 top, .int .i64 seen] 46))
              | (refine wpList_append_Own ((w5.setCell ⟨w.heap.size + 1, 1, none⟩ (.slice A4 q c4)).alloc (.cells #[.int .i64 id, .slice A4 q c4, .int .i64 top, .int .i64 seen] 46)) rfl (.tmp 44) (.tmp 46) 42 rfl w1.heap.size 46 j0 _ 4 48 Try.underlying42 hj0 hy0 hy1 hy2 rfl B2 i d2 (kvs m) rfl hO5 (some ⟨w5.heap.size, 0, none⟩) 1 1 [.int .i64 id, .slice A4 q c4, .int .i64 top, .int .i64 seen] rfl rfl hR5 (Hone A4 c4).out q4 q5 hbs5 ?_; intro A6 c6 w8 hO6 hg6 hor6; have b0y := b0a.over hg6 hne0; have b2y := b2a.over hg6 hne2; have u0 := b0y.cell' (i := 0) rfl; have uf := b0y.frozen; have b0z := blk1_set b0y (.slice A6 (i + 1) c6); have u1 := b0z.cell' (i := 0) rfl; have b2z := b2y.far (p := ⟨w.heap.size, 0, none⟩) (by simp <;> omega) (.slice A6 (i + 1) c6); have u2 := b2z.cell' (i := 0) rfl; have uf2 := b2z.frozen; have b2t := blk1_set b2z (.slice A6 (i + 1) c6); have u3 := b2t.cell' (i := 0) rfl))
            have hxm : ∀ k, blk A4 = some k → wr.heap.size ≤ k := fun k hk => by
              rcases hor4 with h | h
              · rw [h] at hk; simp [blk] at hk
              · rw [h] at hk; injection hk with hk; omega
            have z5 := hb4.size
            have hb7 : Below wr.heap.size wr w5 := hb4
            have hB7 : Below w.heap.size w ((w5.setCell ⟨w.heap.size + 1, 1, none⟩ (.slice A4 q c4)).alloc (.cells #[.int .i64 id, .slice A4 q c4, .int .i64 top, .int .i64 seen] 46)) := ((hB.trans (hb4.mono hB.size)).setCell (p := ⟨w.heap.size + 1, 1, none⟩) (by simp) _).alloc (by simp; omega) _
            have hlx : ∀ (j : Nat) (y : KyR), m[j]? = some y → ∀ k, blk y.A = some k → k < wr.heap.size := fun j y hy k hk => (hD.lt hy hk).2
            have hx5 : Own ((w5.setCell ⟨w.heap.size + 1, 1, none⟩ (.slice A4 q c4)).alloc (.cells #[.int .i64 id, .slice A4 q c4, .int .i64 top, .int .i64 seen] 46)) w1.heap.size 3 1 A4 words.length c4 (ivs words) := by
              rw [HWl.out]
              refine (hO4.setFar (p := ⟨w.heap.size + 1, 1, none⟩) (fun e => ?_) _).alloc _
              have : w1.heap.size ≤ w.heap.size + 1 := (hO4.lt _ e).1
              omega
            obtain ⟨hD6, hO7⟩ := add_key (x := ⟨⟨id, words, top, seen⟩, A4, c4⟩) hD5 hx5 hO5 hg6 (m := wr.heap.size) hlx hxm (by
              show Own _ _ _ _ _ _ _ (kvs m ++ [.int .i64 id, .slice A4 words.length c4, .int .i64 top, .int .i64 seen])
              rw [HWl.out]
              exact hO6)
            have hB8 : Below w.heap.size w w8 := Below.grown' hB7 hg6 hB7.size (fun k hk => by have := hne k hk; omega)
            have z8 := hg6.size
            refine bodyPost_ret (v := .tuple #[.agg #[.slice A6 (i + 1) c6], .int .i64 0]) (by simp [results, Try.results20, go_sem, u3]) rfl ?_
            refine RingRes.same (by rw [List.length_append, HN.out]; rfl) (by rw [List.map_append, hm]; rfl) ((hO7.setFar (p := ⟨w.heap.size, 0, none⟩) (fun e => by have : w1.heap.size ≤ w.heap.size := (hO7.lt _ e).1; omega) _).setFar (p := ⟨w.heap.size + 1 + 1, 0, none⟩) (fun e => by have : w1.heap.size ≤ w.heap.size + 1 + 1 := (hO7.lt _ e).1; omega) _) (hD6.map (fun _ _ _ _ h => (h.setFar (p := ⟨w.heap.size, 0, none⟩) (fun e => by have : w1.heap.size ≤ w.heap.size := (h.lt _ e).1; omega) _).setFar (p := ⟨w.heap.size + 1 + 1, 0, none⟩) (fun e => by have : w1.heap.size ≤ w.heap.size + 1 + 1 := (h.lt _ e).1; omega) _)) (by omega) ((hB8.setCell (p := ⟨w.heap.size, 0, none⟩) (Nat.le_refl _) _).setCell (p := ⟨w.heap.size + 1 + 1, 0, none⟩) (by simp; omega) _)
    · obtain rfl : R = (L, 6) := hR2.trans (if_neg hk)
      rw [decide_eq_false hk]
      have hne : ∀ q, blk B2 = some q → w.heap.size + 3 ≤ q := fun q hq => by have := (hO.lt q hq).1; omega
      have s2 := b2.cell' (i := 0) rfl
      have sf := b2.frozen
      have b2z := blk1_set b2 (.slice B2 n d2)
      have s3 := b2z.cell' (i := 0) rfl
      clear hR2 hk
      go_wp2_with fail
      refine bodyPost_ret (v := .tuple #[.agg #[.slice B2 n d2], .int .i64 6]) (by simp [results, Try.results20, go_sem, s3]) rfl ?_
      exact RingRes.same HN.out hm (hO.setFar (p := ⟨w.heap.size + 1 + 1, 0, none⟩) (fun e => by have : w.heap.size + 3 ≤ w.heap.size + 1 + 1 := hne _ e; omega) _) (hD.map (fun _ _ _ _ h => h.setFar (p := ⟨w.heap.size + 1 + 1, 0, none⟩) (fun e => by have : w1.heap.size ≤ w.heap.size + 1 + 1 := (h.lt _ e).1; omega) _)) (by omega) (hB.setCell (p := ⟨w.heap.size + 1 + 1, 0, none⟩) (by simp; omega) _)
  · obtain rfl : R = ([], 11) := by rw [hR]; exact if_neg hok
    rw [decide_eq_false hok] at HM
    clear hR hok
    go_enter Try.func20, Try.ntmps20
    go_wp2_with fail
    generalize ((w.alloc (.cells #[.slice B n d] 44)).alloc (.cells #[.int .i64 id, .slice A q cA, .int .i64 top, .int .i64 seen] 46)).alloc (.cells #[.slice none 0 0] 44) = W at *
    refine (HM.out W (HRd.out.step hB0)).mono ?_
    rintro e w1 ⟨rfl, hb1⟩
    have b1' := b2.step hb1
    have c1 := b1'.cell' (i := 0) rfl
    have f1 := b1'.frozen
    have b2z := blk1_set b1' (.slice none 0 0)
    have c2 := b2z.cell' (i := 0) rfl
    go_wp2_with fail
    refine bodyPost_ret (v := .tuple #[.agg #[.slice none 0 0], .int .i64 11]) (by simp [results, Try.results20, go_sem, c2]) rfl ?_
    exact RingRes.none_ ((hB0.trans (hb1.mono hB0.size)).setCell (p := ⟨w.heap.size + 1 + 1, 0, none⟩) (by simp; omega) _)
end Go.Proofs.Ytkbaganbfcbioaa
