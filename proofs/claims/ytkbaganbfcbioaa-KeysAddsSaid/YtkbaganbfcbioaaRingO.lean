/-
  The document's RingOf: a ring with memory of its own.
-/
import Derived.Test.YtkbaganbfcbioaaRingP
import Derived.Test.YtkbaganbfcbioaaByteAt
namespace Go.Proofs.Ytkbaganbfcbioaa
set_option linter.unusedSimpArgs false
set_option linter.unusedVariables false
open Go.RowKit

theorem blk4_words {w : World} {g : Nat} {t : TypeId} {a0 a1 a2 a3 : Value} (h : Blk w g t #[a0, a1, a2, a3]) (v : Value) : Blk (w.setCell ⟨g, 1, none⟩ v) g t #[a0, v, a2, a3] := by simpa using h.set_ 1 v
set_option maxHeartbeats 6400000 in
set_option maxRecDepth 100000 in
theorem ringOf_any (l : List KyR) (L : List Ky) (B : Option Addr) (n d : Nat) (w : World) (hl : l.map KyR.k = L) (hn : L.length = n) (h : RdRing w B l) (hf : RingFits L) (hnn : n ≤ 2932031007317) :
    Calls Try.prog 25 #[.agg #[.slice B n d]] w fun e w' => ∃ B' d', e = .returned (.agg #[.slice B' n d']) ∧ OwnRing w' w.heap.size B' n d' L ∧ Below w.heap.size w w' := by
  obtain ⟨i0, hi0, hz0, hz1, hz2⟩ := info_parts i64info
  obtain ⟨j0, hj0, hy0, hy1, hy2⟩ := info_parts keyinfo
  have HN := Lib.hid hn
  have HRd := Lib.hid h
  have HL := Lib.hid hl
  clear h hn hl
  go_enter Try.func25, Try.ntmps25
  go_wp2_with fail
  go_loopw [3, 4] (fun lv iv wr => ∃ (i : Nat) (m : List KyR) (A2 : Option Addr) (c2 : Nat), i ≤ n ∧ iv = .int .i64 (i : Int) ∧ lv = .slice A2 i c2 ∧ Below w.heap.size w wr ∧ w.heap.size + 2 ≤ wr.heap.size ∧ Blk wr w.heap.size 44 #[.slice B n d] ∧ Blk wr (w.heap.size + 1) 44 #[.slice none 0 0] ∧ Own wr (w.heap.size + 2) 46 4 A2 i c2 (kvs m) ∧ OwnWords wr (w.heap.size + 2) m ∧ Hid (m.map KyR.k = L.take i)) (fun _ iv _ => n - (intOf iv).toNat)
  case atStart => exact ⟨0, [], none, 0, Nat.zero_le _, rfl, rfl, (by repeat (first | with_reducible exact Below.refl _ _ | with_reducible assumption | with_reducible refine below_drewN ?_ _ | with_reducible refine Below.drew ?_ | with_reducible refine Below.alloc ?_ ?_ _ | with_reducible refine Below.setCell ?_ ?_ _ | with_reducible exact Nat.le_refl _ | (simp; omega) | (simp; done))), by simp, (Blk.new _ _ _).alloc _, by simpa using Blk.new (w.alloc (.cells #[.slice B n d] 44)) 44 #[.slice none 0 0], Own.none_ _ _ _ _, OwnWords.nil _ _, Lib.hid (by simp)⟩
  case round =>
    obtain ⟨i, ms, A2, c2, hi, rfl, rfl, hB, hz, hK, hK2, hO, hD, HM⟩ := hrel
    have k0 := hK.cell' (i := 0) rfl
    by_cases h5 : i < n
    · have h5i : (i : Int) < (n : Int) := by omega
      have hip : (0 : Int) ≤ (i : Int) := by omega
      have hiL : i < L.length := by rw [HN.out]; exact h5
      obtain ⟨xA, xd, hx⟩ := ky_at HL.out hiL
      have HLi := Lib.hid (List.getElem?_eq_getElem hiL)
      have hff := (hf _ (List.getElem_mem hiL)).1
      have hRw := HRd.out.below hB
      have hxw : Rd wr xA (ivs L[i].words) := (HRd.out.2 i _ hx).below hB
      generalize L[i] = kx at *
      obtain ⟨id, words, top, seen⟩ := kx
      obtain ⟨g, o, rfl, x0, x1, x2, x3⟩ := hRw.cells hx
      dsimp only at x0 x1 x2 x3 hxw hff
      generalize hwl : words.length = q at *
      go_upto_region 6 with fail
      obtain ⟨W1, hW1⟩ : ∃ W : World, W = wr.alloc (.cells #[.int .i64 id, .slice xA q xd, .int .i64 top, .int .i64 seen] 46) := ⟨_, rfl⟩
      have hKy : Blk W1 wr.heap.size 46 #[.int .i64 id, .slice xA q xd, .int .i64 top, .int .i64 seen] := by rw [hW1]; exact Blk.new _ _ _
      have hb1 : Below wr.heap.size wr W1 := by rw [hW1]; exact (Below.refl _ _).alloc (Nat.le_refl _) _
      rw [← hW1]
      clear hW1 x0 x1 x2 x3 k0 hRw
      have hxw1 := hxw.step hb1
      have hO1 := hO.step hb1
      have hD1 := hD.step hb1
      have hKr := hK.step hb1
      have hK2r := hK2.step hb1
      have hB1 := hB.trans (hb1.mono hB.size)
      have z1 : wr.heap.size < W1.heap.size := hKy.lt
      have y1 := hKy.cell' (i := 1) rfl
      have q1 : Hid ((ivs words).length = q * 1) := by show _ = _; simp [ivs, hwl]
      have q2 : 0 + q ≤ maxLen := by unfold maxLen; omega
      have q3 : (0 + q) * 8 ≤ 140737488355328 := by omega
      have hbs : w.heap.size + 2 ≤ W1.heap.size := by omega
      have q4 : i + 1 ≤ maxLen := by unfold maxLen; omega
      have q5 : (i + 1) * 48 ≤ 140737488355328 := by omega
      have HWl := Lib.hid hwl
      clear hwl
      have Hone : ∀ (A4 : Option Addr) (c4 : Nat), Hid (∀ u ∈ [Value.int .i64 id, .slice A4 q c4, .int .i64 top, .int .i64 seen], u.oneCell' = true) := fun A4 c4 => Lib.hid (by
        intro u hu
        simp at hu
        rcases hu with rfl | rfl | rfl | rfl <;> rfl)
      go_wp2_with (at_builtin; first
        | (refine wpList_append_Own W1 rfl (.const (.slice none 0 0)) (.tmp 19) 35 rfl (w.heap.size + 2) 3 i0 _ 1 8 Try.underlying35 hi0 hz0 hz1 hz2 rfl none 0 0 [] rfl (Own.none_ _ _ _ _) xA q xd (ivs words) rfl q1.out hxw1 (ivs_one _) q2 q3 hbs ?_; intro A4 c4 w4 hO4 hg4 hor4; rw [Nat.zero_add, List.nil_append] at hO4; have hb4 := below_of_grown hg4; have hKy4 := hKy.step hb4; have f4 := hKy4.frozen; have y4 := hKy4.cell' (i := 1) rfl; have hKy5 : Blk (w4.setCell ⟨wr.heap.size, 1, none⟩ (.slice A4 q c4)) wr.heap.size 46 #[.int .i64 id, .slice A4 q c4, .int .i64 top, .int .i64 seen] := blk4_words hKy4 _; obtain ⟨e0, e1, e2, e3, ef⟩ := hKy5.four; have hO5 := ((hO1.step hb4).setFar (p := ⟨wr.heap.size, 1, none⟩) (fun e => Nat.lt_irrefl _ (hO.lt _ e).2) (.slice A4 q c4)).alloc (.cells #[.int .i64 id, .slice A4 q c4, .int .i64 top, .int .i64 seen] 46); have hR5 : Rd ((w4.setCell ⟨wr.heap.size, 1, none⟩ (.slice A4 q c4)).alloc (.cells #[.int .i64 id, .slice A4 q c4, .int .i64 top, .int .i64 seen] 46)) (some ⟨w4.heap.size, 0, none⟩) [.int .i64 id, .slice A4 q c4, .int .i64 top, .int .i64 seen] := (by simpa using Rd_lit (w4.setCell ⟨wr.heap.size, 1, none⟩ (.slice A4 q c4)) [.int .i64 id, .slice A4 q c4, .int .i64 top, .int .i64 seen] 46); have hbs5 : w.heap.size + 2 ≤ ((w4.setCell ⟨wr.heap.size, 1, none⟩ (.slice A4 q c4)).alloc (.cells #[.int .i64 id, .slice A4 q c4, .int .i64 top, .int .i64 seen] 46)).heap.size := (by have := hb4.size; simp; omega))
        | (refine wpList_append_Own ((w4.setCell ⟨wr.heap.size, 1, none⟩ (.slice A4 q c4)).alloc (.cells #[.int .i64 id, .slice A4 q c4, .int .i64 top, .int .i64 seen] 46)) rfl (.tmp 22) (.tmp 24) 42 rfl (w.heap.size + 2) 46 j0 _ 4 48 Try.underlying42 hj0 hy0 hy1 hy2 rfl A2 i c2 (kvs ms) rfl hO5 (some ⟨w4.heap.size, 0, none⟩) 1 1 [.int .i64 id, .slice A4 q c4, .int .i64 top, .int .i64 seen] rfl rfl hR5 (Hone A4 c4).out q4 q5 hbs5 ?_; intro A6 c6 w6 hO6 hg6 hor6))
      have zz4 := hb4.size
      have hbx : Below wr.heap.size wr ((w4.setCell ⟨wr.heap.size, 1, none⟩ (.slice A4 q c4)).alloc (.cells #[.int .i64 id, .slice A4 q c4, .int .i64 top, .int .i64 seen] 46)) := ((hb1.trans (hb4.mono (by omega))).setCell (p := ⟨wr.heap.size, 1, none⟩) (Nat.le_refl _) _).alloc (by simp; omega) _
      have hx5 : Own ((w4.setCell ⟨wr.heap.size, 1, none⟩ (.slice A4 q c4)).alloc (.cells #[.int .i64 id, .slice A4 q c4, .int .i64 top, .int .i64 seen] 46)) (w.heap.size + 2) 3 1 A4 words.length c4 (ivs words) := by
        rw [HWl.out]
        refine (hO4.setFar (p := ⟨wr.heap.size, 1, none⟩) (fun e => ?_) _).alloc _
        rcases hor4 with h | h
        · rw [h] at e; simp [blk] at e
        · rw [h] at e; injection e with e; exact absurd e (by show ¬ (W1.heap.size = wr.heap.size); omega)
      have hxm : ∀ q, blk A4 = some q → wr.heap.size ≤ q := fun q hq => by
        rcases hor4 with h | h
        · rw [h] at hq; simp [blk] at hq
        · rw [h] at hq; injection hq with hq; omega
      obtain ⟨hD6, hO7⟩ := add_key (x := ⟨⟨id, words, top, seen⟩, A4, c4⟩) (hD.step hbx) hx5 hO5 hg6 (m := wr.heap.size) (fun i y hy q hq => (hD.lt hy hq).2) hxm (by
        show Own _ _ _ _ _ _ _ (kvs ms ++ [.int .i64 id, .slice A4 words.length c4, .int .i64 top, .int .i64 seen])
        rw [HWl.out]
        exact hO6)
      have hne : ∀ q, blk A2 = some q → w.heap.size + 2 ≤ q := fun q hq => (hO.lt q hq).1
      have hK6 := (hK.step hbx).over hg6 (fun q hq e => by have := hne q hq; injection e with e; omega)
      have hK26 := (hK2.step hbx).over hg6 (fun q hq e => by have := hne q hq; injection e with e; omega)
      have hB6 : Below w.heap.size w w6 := Below.grown' (hB.trans (hbx.mono hB.size)) hg6 (by omega) (fun q hq => by have := hne q hq; omega)
      have zz6 := hg6.size
      refine ⟨⟨i + 1, _, A6, c6, by omega, by go_num, rfl, hB6, by omega, hK6, hK26, hO7, hD6, Lib.hid ?_⟩, by simp [intOf]; omega⟩
      rw [List.map_append, HM.out, List.take_add_one, HLi.out]
      rfl
    · obtain rfl : i = n := by omega
      have h5i : ¬ (i : Int) < (i : Int) := by omega
      obtain ⟨s0, sf⟩ : _ ∧ _ := hK2.one
      have hK3 := hK2.set_ 0 (.slice A2 i c2)
      have hK3' : Blk (wr.setCell ⟨w.heap.size + 1, 0, none⟩ (.slice A2 i c2)) (w.heap.size + 1) 44 #[.slice A2 i c2] := by simpa using hK3
      have r0 := hK3'.cell' (i := 0) rfl
      have hne : ∀ q, blk A2 = some q → w.heap.size + 2 ≤ q := fun q hq => (hO.lt q hq).1
      go_wp2_with fail
      refine bodyPost_ret (v := .agg #[.slice A2 i c2]) (by simp [results, Try.results25, go_sem, r0]) rfl ?_
      refine ⟨A2, c2, rfl, ⟨ms, ?_, (hO.setFar (p := ⟨w.heap.size + 1, 0, none⟩) (fun e => by have : w.heap.size + 2 ≤ w.heap.size + 1 := hne _ e; omega) _).mono (by omega), hD.map (fun _ _ _ _ h => (h.setFar (p := ⟨w.heap.size + 1, 0, none⟩) (fun e => by have : w.heap.size + 2 ≤ w.heap.size + 1 := (h.lt _ e).1; omega) _).mono (by omega))⟩, hB.setCell (p := ⟨w.heap.size + 1, 0, none⟩) (by simp) _⟩
      rw [HM.out, List.take_of_length_le (by rw [HN.out]; exact Nat.le_refl _)]
end Go.Proofs.Ytkbaganbfcbioaa
