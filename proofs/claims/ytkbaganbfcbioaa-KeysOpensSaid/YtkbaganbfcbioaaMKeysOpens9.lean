/-
  The document's RingOf: a ring with memory of its own. The document's Dropped. overRing: a ring is written over by its owner.
-/
import Derived.Test.YtkbaganbfcbioaaMKeysOpens6
import Derived.Test.YtkbaganbfcbioaaMKeysOpens4
import Derived.Test.YtkbaganbfcbioaaMKeysOpens8
import Derived.StillTail
import Derived.StillTactics
import Derived.StillTailTactics
namespace Go.Proofs.Ytkbaganbfcbioaa
set_option linter.unusedSimpArgs false
set_option linter.unusedVariables false
open Go.RowKit

theorem blk4_words {w : World} {g : Nat} {t : TypeId} {a0 a1 a2 a3 : Value} (h : Blk w g t #[a0, a1, a2, a3]) (v : Value) : Blk (w.setCell ⟨g, 1, none⟩ v) g t #[a0, v, a2, a3] := by simpa using h.set_ 1 v
set_option maxHeartbeats 6400000 in
set_option maxRecDepth 100000 in
theorem ringOf_any (l : List KyR) (L : List Ky) (B : Option Addr) (n d : Nat) (w : World) (hl : l.map KyR.k = L) (hn : L.length = n) (h : RdRing w B l) (hf : RingFits L) (hnn : n ≤ 2932031007317) :
    Calls Try.prog 25 #[.agg #[.slice B n d]] w fun e w' => ∃ B' d', e = .returned (.agg #[.slice B' n d']) ∧ OwnRing w' w.heap.size B' n d' L ∧ Below w.heap.size w w' := by
  obtain ⟨i0, hi0, hz0, hz1, hz2⟩ := info_parts i64info
  obtain ⟨j0, hj0, hy0, hy1, hy2⟩ := info_parts keyinfo
  have HN := Lib.hid hn
  have HRd := Lib.hid h
  have HL := Lib.hid hl
  clear h hn hl
  go_enter Try.func25, Try.ntmps25
  go_wp2_with fail
  go_loopw [3, 4] (fun lv iv wr => ∃ (i : Nat) (m : List KyR) (A2 : Option Addr) (c2 : Nat), i ≤ n ∧ iv = .int .i64 (i : Int) ∧ lv = .slice A2 i c2 ∧ Below w.heap.size w wr ∧ w.heap.size + 2 ≤ wr.heap.size ∧ Blk wr w.heap.size 44 #[.slice B n d] ∧ Blk wr (w.heap.size + 1) 44 #[.slice none 0 0] ∧ Own wr (w.heap.size + 2) 46 4 A2 i c2 (kvs m) ∧ OwnWords wr (w.heap.size + 2) m ∧ Hid (m.map KyR.k = L.take i)) (fun _ iv _ => n - (intOf iv).toNat)
  case atStart => exact ⟨0, [], none, 0, Nat.zero_le _, rfl, rfl, (by repeat (first | with_reducible exact Below.refl _ _ | with_reducible assumption | with_reducible refine below_drewN ?_ _ | with_reducible refine Below.drew ?_ | with_reducible refine Below.alloc ?_ ?_ _ | with_reducible refine Below.setCell ?_ ?_ _ | with_reducible exact Nat.le_refl _ | (simp; omega) | (simp; done))), by simp, (Blk.new _ _ _).alloc _, by simpa using Blk.new (w.alloc (.cells #[.slice B n d] 44)) 44 #[.slice none 0 0], Own.none_ _ _ _ _, OwnWords.nil _ _, Lib.hid (by simp)⟩
  case round =>
    obtain ⟨i, ms, A2, c2, hi, rfl, rfl, hB, hz, hK, hK2, hO, hD, HM⟩ := hrel
    have k0 := hK.cell' (i := 0) rfl
    by_cases h5 : i < n
    · have h5i : (i : Int) < (n : Int) := by omega
      have hip : (0 : Int) ≤ (i : Int) := by omega
      have hiL : i < L.length := by rw [HN.out]; exact h5
      obtain ⟨xA, xd, hx⟩ := ky_at HL.out hiL
      have HLi := Lib.hid (List.getElem?_eq_getElem hiL)
      have hff := (hf _ (List.getElem_mem hiL)).1
      have hRw := HRd.out.below hB
      have hxw : Rd wr xA (ivs L[i].words) := (HRd.out.2 i _ hx).below hB
      generalize L[i] = kx at *
      obtain ⟨id, words, top, seen⟩ := kx
      obtain ⟨g, o, rfl, x0, x1, x2, x3⟩ := hRw.cells hx
      dsimp only at x0 x1 x2 x3 hxw hff
      generalize hwl : words.length = q at *
      go_upto_region 6 with fail
      obtain ⟨W1, hW1⟩ : ∃ W : World, W = wr.alloc (.cells #[.int .i64 id, .slice xA q xd, .int .i64 top, .int .i64 seen] 46) := ⟨_, rfl⟩
      have hKy : Blk W1 wr.heap.size 46 #[.int .i64 id, .slice xA q xd, .int .i64 top, .int .i64 seen] := by rw [hW1]; exact Blk.new _ _ _
      have hb1 : Below wr.heap.size wr W1 := by rw [hW1]; exact (Below.refl _ _).alloc (Nat.le_refl _) _
      rw [← hW1]
      clear hW1 x0 x1 x2 x3 k0 hRw
      have hxw1 := hxw.step hb1
      have hO1 := hO.step hb1
      have hD1 := hD.step hb1
      have hKr := hK.step hb1
      have hK2r := hK2.step hb1
      have hB1 := hB.trans (hb1.mono hB.size)
      have z1 : wr.heap.size < W1.heap.size := hKy.lt
      have y1 := hKy.cell' (i := 1) rfl
      have q1 : Hid ((ivs words).length = q * 1) := by show _ = _; simp [ivs, hwl]
      have q2 : 0 + q ≤ maxLen := by unfold maxLen; omega
      have q3 : (0 + q) * 8 ≤ 140737488355328 := by omega
      have hbs : w.heap.size + 2 ≤ W1.heap.size := by omega
      have q4 : i + 1 ≤ maxLen := by unfold maxLen; omega
      have q5 : (i + 1) * 48 ≤ 140737488355328 := by omega
      have HWl := Lib.hid hwl
      clear hwl
      have Hone : ∀ (A4 : Option Addr) (c4 : Nat), Hid (∀ u ∈ [Value.int .i64 id, .slice A4 q c4, .int .i64 top, .int .i64 seen], u.oneCell' = true) := fun A4 c4 => Lib.hid (by
        intro u hu
        simp at hu
        rcases hu with rfl | rfl | rfl | rfl <;> rfl)
      go_wp2_with (at_builtin; first
        | (refine wpList_append_Own W1 rfl (.const (.slice none 0 0)) (.tmp 19) 35 rfl (w.heap.size + 2) 3 i0 _ 1 8 Try.underlying35 hi0 hz0 hz1 hz2 rfl none 0 0 [] rfl (Own.none_ _ _ _ _) xA q xd (ivs words) rfl q1.out hxw1 (ivs_one _) q2 q3 hbs ?_; intro A4 c4 w4 hO4 hg4 hor4; rw [Nat.zero_add, List.nil_append] at hO4; have hb4 := below_of_grown hg4; have hKy4 := hKy.step hb4; have f4 := hKy4.frozen; have y4 := hKy4.cell' (i := 1) rfl; have hKy5 : Blk (w4.setCell ⟨wr.heap.size, 1, none⟩ (.slice A4 q c4)) wr.heap.size 46 #[.int .i64 id, .slice A4 q c4, .int .i64 top, .int .i64 seen] := blk4_words hKy4 _; obtain ⟨e0, e1, e2, e3, ef⟩ := hKy5.four; have hO5 := ((hO1.step hb4).setFar (p := ⟨wr.heap.size, 1, none⟩) (fun e => Nat.lt_irrefl _ (hO.lt _ e).2) (.slice A4 q c4)).alloc (.cells #[.int .i64 id, .slice A4 q c4, .int .i64 top, .int .i64 seen] 46); have hR5 : Rd ((w4.setCell ⟨wr.heap.size, 1, none⟩ (.slice A4 q c4)).alloc (.cells #[.int .i64 id, .slice A4 q c4, .int .i64 top, .int .i64 seen] 46)) (some ⟨w4.heap.size, 0, none⟩) [.int .i64 id, .slice A4 q c4, .int .i64 top, .int .i64 seen] := (by simpa using Rd_lit (w4.setCell ⟨wr.heap.size, 1, none⟩ (.slice A4 q c4)) [.int .i64 id, .slice A4 q c4, .int .i64 top, .int .i64 seen] 46); have hbs5 : w.heap.size + 2 ≤ ((w4.setCell ⟨wr.heap.size, 1, none⟩ (.slice A4 q c4)).alloc (.cells #[.int .i64 id, .slice A4 q c4, .int .i64 top, .int .i64 seen] 46)).heap.size := (by have := hb4.size; simp; omega))
        | (refine wpList_append_Own ((w4.setCell ⟨wr.heap.size, 1, none⟩ (.slice A4 q c4)).alloc (.cells #[.int .i64 id, .slice A4 q c4, .int .i64 top, .int .i64 seen] 46)) rfl (.tmp 22) (.tmp 24) 42 rfl (w.heap.size + 2) 46 j0 _ 4 48 Try.underlying42 hj0 hy0 hy1 hy2 rfl A2 i c2 (kvs ms) rfl hO5 (some ⟨w4.heap.size, 0, none⟩) 1 1 [.int .i64 id, .slice A4 q c4, .int .i64 top, .int .i64 seen] rfl rfl hR5 (Hone A4 c4).out q4 q5 hbs5 ?_; intro A6 c6 w6 hO6 hg6 hor6))
      have zz4 := hb4.size
      have hbx : Below wr.heap.size wr ((w4.setCell ⟨wr.heap.size, 1, none⟩ (.slice A4 q c4)).alloc (.cells #[.int .i64 id, .slice A4 q c4, .int .i64 top, .int .i64 seen] 46)) := ((hb1.trans (hb4.mono (by omega))).setCell (p := ⟨wr.heap.size, 1, none⟩) (Nat.le_refl _) _).alloc (by simp; omega) _
      have hx5 : Own ((w4.setCell ⟨wr.heap.size, 1, none⟩ (.slice A4 q c4)).alloc (.cells #[.int .i64 id, .slice A4 q c4, .int .i64 top, .int .i64 seen] 46)) (w.heap.size + 2) 3 1 A4 words.length c4 (ivs words) := by
        rw [HWl.out]
        refine (hO4.setFar (p := ⟨wr.heap.size, 1, none⟩) (fun e => ?_) _).alloc _
        rcases hor4 with h | h
        · rw [h] at e; simp [blk] at e
        · rw [h] at e; injection e with e; exact absurd e (by show ¬ (W1.heap.size = wr.heap.size); omega)
      have hxm : ∀ q, blk A4 = some q → wr.heap.size ≤ q := fun q hq => by
        rcases hor4 with h | h
        · rw [h] at hq; simp [blk] at hq
        · rw [h] at hq; injection hq with hq; omega
      obtain ⟨hD6, hO7⟩ := add_key (x := ⟨⟨id, words, top, seen⟩, A4, c4⟩) (hD.step hbx) hx5 hO5 hg6 (m := wr.heap.size) (fun i y hy q hq => (hD.lt hy hq).2) hxm (by
        show Own _ _ _ _ _ _ _ (kvs ms ++ [.int .i64 id, .slice A4 words.length c4, .int .i64 top, .int .i64 seen])
        rw [HWl.out]
        exact hO6)
      have hne : ∀ q, blk A2 = some q → w.heap.size + 2 ≤ q := fun q hq => (hO.lt q hq).1
      have hK6 := (hK.step hbx).over hg6 (fun q hq e => by have := hne q hq; injection e with e; omega)
      have hK26 := (hK2.step hbx).over hg6 (fun q hq e => by have := hne q hq; injection e with e; omega)
      have hB6 : Below w.heap.size w w6 := Below.grown' (hB.trans (hbx.mono hB.size)) hg6 (by omega) (fun q hq => by have := hne q hq; omega)
      have zz6 := hg6.size
      refine ⟨⟨i + 1, _, A6, c6, by omega, by go_num, rfl, hB6, by omega, hK6, hK26, hO7, hD6, Lib.hid ?_⟩, by simp [intOf]; omega⟩
      rw [List.map_append, HM.out, List.take_add_one, HLi.out]
      rfl
    · obtain rfl : i = n := by omega
      have h5i : ¬ (i : Int) < (i : Int) := by omega
      obtain ⟨s0, sf⟩ : _ ∧ _ := hK2.one
      have hK3 := hK2.set_ 0 (.slice A2 i c2)
      have hK3' : Blk (wr.setCell ⟨w.heap.size + 1, 0, none⟩ (.slice A2 i c2)) (w.heap.size + 1) 44 #[.slice A2 i c2] := by simpa using hK3
      have r0 := hK3'.cell' (i := 0) rfl
      have hne : ∀ q, blk A2 = some q → w.heap.size + 2 ≤ q := fun q hq => (hO.lt q hq).1
      go_wp2_with fail
      refine bodyPost_ret (v := .agg #[.slice A2 i c2]) (by simp [results, Try.results25, go_sem, r0]) rfl ?_
      refine ⟨A2, c2, rfl, ⟨ms, ?_, (hO.setFar (p := ⟨w.heap.size + 1, 0, none⟩) (fun e => by have : w.heap.size + 2 ≤ w.heap.size + 1 := hne _ e; omega) _).mono (by omega), hD.map (fun _ _ _ _ h => (h.setFar (p := ⟨w.heap.size + 1, 0, none⟩) (fun e => by have : w.heap.size + 2 ≤ w.heap.size + 1 := (h.lt _ e).1; omega) _).mono (by omega))⟩, hB.setCell (p := ⟨w.heap.size + 1, 0, none⟩) (by simp) _⟩
      rw [HM.out, List.take_of_length_le (by rw [HN.out]; exact Nat.le_refl _)]
end Go.Proofs.Ytkbaganbfcbioaa
namespace Go.Proofs.Ytkbaganbfcbioaa
set_option linter.unusedSimpArgs false
set_option linter.unusedVariables false
open Go.RowKit

theorem box2 (w : World) (a b : Array Value) (s t : TypeId) : Blk ((w.alloc (.cells a s)).alloc (.cells b t)) w.heap.size s a ∧ Blk ((w.alloc (.cells a s)).alloc (.cells b t)) (w.heap.size + 1) t b ∧ Below w.heap.size w ((w.alloc (.cells a s)).alloc (.cells b t)) ∧ ((w.alloc (.cells a s)).alloc (.cells b t)).heap.size = w.heap.size + 2 := by
  refine ⟨(Blk.new _ _ _).alloc _, ?_, ((Below.refl _ _).alloc (Nat.le_refl _) _).alloc (by simp) _, by simp⟩
  have := Blk.new (w.alloc (.cells a s)) t b
  simpa using this
theorem blk1_set {w : World} {g : Nat} {t : TypeId} {a : Value} (h : Blk w g t #[a]) (v : Value) : Blk (w.setCell ⟨g, 0, none⟩ v) g t #[v] := by simpa using h.set_ 0 v
set_option maxHeartbeats 6400000 in
set_option maxRecDepth 100000 in
theorem rdropped_any (l : List KyR) (L : List Ky) (B : Option Addr) (n d : Nat) (id : Int) (w : World) (hl : l.map KyR.k = L) (hn : L.length = n) (h : RdRing w B l) (hf : RingFits L) (hnn : n ≤ 2932031007317) :
    Calls Try.prog 28 #[.agg #[.slice B n d], .int .i64 id] w fun e w' => RingRes w w' (dropR L id) e := by
  have HM := Lib.hid (fun (w : World) (h : RdRing w B l) => rringMay_any l L B n d w hl hn h hf)
  have HO := Lib.hid (fun (w : World) (h : RdRing w B l) => ringOf_any l L B n d w hl hn h hf hnn)
  obtain ⟨R, hR⟩ : ∃ R, R = dropR L id := ⟨_, rfl⟩
  rw [← hR]
  have HRd := Lib.hid h
  by_cases hok : ringOk L
  · have hR2 : R = (match kfind L id with | none => (L, 10) | some i => (L.eraseIdx i, 0)) := by rw [hR]; exact if_pos hok
    have HN := Lib.hid hn
    have HR := Lib.hid hR2
    rw [decide_eq_true hok] at HM
    clear hR hR2 hok h hn hl
    obtain ⟨b0, b1, hB0, hz0⟩ := box2 w #[.slice B n d] #[.slice none 0 0] 44 44
    go_enter Try.func28, Try.ntmps28
    go_wp2_with fail
    generalize (w.alloc (.cells #[.slice B n d] 44)).alloc (.cells #[.slice none 0 0] 44) = W at *
    refine (HM.out W (HRd.out.step hB0)).mono ?_
    rintro e w1 ⟨rfl, hb1⟩
    have b0' := b0.step hb1
    have b1' := b1.step hb1
    have hB1 := hB0.trans (hb1.mono hB0.size)
    have k0 := b0'.cell' (i := 0) rfl
    clear b0 b1
    go_wp2_with fail
    refine (HO.out w1 (HRd.out.step hB1)).mono ?_
    rintro e w2 ⟨B2, d2, rfl, ⟨m, hm, hO2, hD2⟩, hb2⟩
    have hz1 := hb1.size
    have b0w := b0'.step hb2
    have b1w := b1'.step hb2
    have hB2 := hB1.trans (hb2.mono hB1.size)
    have s0 := b0w.cell' (i := 0) rfl
    have sf := b0w.frozen
    have hlt0 : w.heap.size + 1 < w1.heap.size := by have := b1'.lt; omega
    have b0x : Blk (w2.setCell ⟨w.heap.size, 0, none⟩ (.slice B2 n d2)) w.heap.size 44 #[.slice B2 n d2] := by simpa using b0w.set_ 0 (.slice B2 n d2)
    have b1x : Blk (w2.setCell ⟨w.heap.size, 0, none⟩ (.slice B2 n d2)) (w.heap.size + 1) 44 #[.slice none 0 0] := b1w.far (p := ⟨w.heap.size, 0, none⟩) (by simp) _
    have hfar : ∀ {t : TypeId} {s n c : Nat} {A : Option Addr} {xs : List Value}, Own w2 w1.heap.size t s A n c xs → Own (w2.setCell ⟨w.heap.size, 0, none⟩ (.slice B2 n d2)) w1.heap.size t s A n c xs := fun h => h.setFar (p := ⟨w.heap.size, 0, none⟩) (fun e => by have : w1.heap.size ≤ w.heap.size := (h.lt _ e).1; omega) _
    have hO3 := hO2.setFar (p := ⟨w.heap.size, 0, none⟩) (fun e => by have : w1.heap.size ≤ w.heap.size := (hO2.lt _ e).1; omega) (.slice B2 n d2)
    have hD3 := hD2.map (fun A n' c xs h => h.setFar (p := ⟨w.heap.size, 0, none⟩) (fun e => by have : w1.heap.size ≤ w.heap.size := (h.lt _ e).1; omega) (.slice B2 n d2))
    have hB3 : Below w.heap.size w (w2.setCell ⟨w.heap.size, 0, none⟩ (.slice B2 n d2)) := hB2.setCell (p := ⟨w.heap.size, 0, none⟩) (Nat.le_refl _) _
    clear hO2 hD2 hB2 hfar
    have z2 := hb2.size
    go_wp2_with fail
    have z3 : w2.heap.size = (w2.setCell ⟨w.heap.size, 0, none⟩ (.slice B2 n d2)).heap.size := by simp
    generalize w2.setCell ⟨w.heap.size, 0, none⟩ (.slice B2 n d2) = W3 at *
    clear s0 sf k0 b0w b1w b0' b1' hB0 hB1 hb1 hb2
    go_loopw [6] (fun iv wr => ∃ i : Nat, i ≤ n ∧ iv = .int .i64 (i : Int) ∧ wr = W3 ∧ Hid (∀ a y, a < i → L[a]? = some y → y.id ≠ id)) (fun iv _ => n - (intOf iv).toNat)
    case atStart => exact ⟨0, Nat.zero_le _, rfl, rfl, Lib.hid (fun a y h => by omega)⟩
    case round =>
      obtain ⟨i, hi, rfl, rfl, HF⟩ := hrel
      have k0 := b0x.cell' (i := 0) rfl
      have fk := b0x.frozen
      have hnd := hO3.le
      by_cases h5 : i < n
      · have h5i : (i : Int) < (n : Int) := by omega
        have hip : (0 : Int) ≤ (i : Int) := by omega
        have hiL : i < L.length := by rw [HN.out]; exact h5
        obtain ⟨xA, xd, hx⟩ := ky_at hm hiL
        have HLi := Lib.hid (List.getElem?_eq_getElem hiL)
        have hRw := OwnWords.rd hO3 hD3
        generalize L[i] = kx at *
        obtain ⟨id2, words, top, seen⟩ := kx
        obtain ⟨g, o, rfl, x0, _, _, _⟩ := hRw.cells hx
        dsimp only at x0
        by_cases he : id2 = id
        · have HR2 : Hid (R = (L.eraseIdx i, 0)) := Lib.hid (by rw [HR.out, kfind_some HLi.out he HF.out])
          subst he
          obtain ⟨j0, hj0, hy0, hy1, hy2⟩ := info_parts keyinfo
          have hOc := (hO3.capCut (m := i) (by omega)).drew
          rw [kvs_take] at hOc
          have hRn := (hO3.rd.drop_lit ((i + 1) * 4)).drew
          rw [kvs_drop] at hRn
          have hml : m.length = n := by have := congrArg List.length hm; rw [← HN.out]; simpa using this
          have q1 : Hid ((kvs (m.drop (i + 1))).length = (n - (i + 1)) * 4) := by show _ = _; rw [kvs_len, List.length_drop, hml]
          have q2 : i + (n - (i + 1)) ≤ maxLen := by unfold maxLen; omega
          have q3 : (i + (n - (i + 1))) * 48 ≤ 140737488355328 := by omega
          have hbs : w1.heap.size ≤ wr.drew.heap.size := by show _ ≤ wr.heap.size; omega
          have hid2 : (i : Int) ≤ (d2 : Int) := by omega
          have hwr : IntKind.i64.wrap ((i : Int) + 1) = (i : Int) + 1 := IntWalk.i64_in _ (by omega)
          have hip1 : (0 : Int) ≤ (i : Int) + 1 := by omega
          have hi1 : (i : Int) + 1 ≤ (n : Int) := by omega
          have hn2 : (n : Int) ≤ (d2 : Int) := by omega
          clear HF HLi hx
          have HRn1 : Hid (Rd wr.drew (if d2 = i + 1 then some ⟨g, o, none⟩ else some ⟨g, o + (i + 1) * 4, none⟩) (kvs (m.drop (i + 1)))) := by
            show Rd _ _ _
            split
            · rw [List.drop_of_length_le (by omega)]
              exact Rd.nil _ _
            · exact hRn
          go_wp2_with fail
          go_still_tail 10, (by kernel_rfl)
          go_wp2_with (at_builtin; refine wpList_append_Own wr.drew rfl (.tmp 32) (.tmp 37) 42 rfl w1.heap.size 46 j0 _ 4 48 Try.underlying42 hj0 hy0 hy1 hy2 rfl (some ⟨g, o, none⟩) i i (kvs (m.take i)) rfl hOc (if d2 = i + 1 then some ⟨g, o, none⟩ else some ⟨g, o + (i + 1) * 4, none⟩) (n - (i + 1)) (d2 - (i + 1)) (kvs (m.drop (i + 1))) rfl q1.out HRn1.out (kvs_one _) q2 q3 hbs ?_; intro A7 c7 w7 hO7 hg7 hor7; have b0y := b0x.drew.over hg7 (fun q hq e => by have := (hO3.lt q hq).1; injection e with e; omega); have b1y := b1x.drew.over hg7 (fun q hq e => by have := (hO3.lt q hq).1; injection e with e; omega); have y0 := b0y.cell' (i := 0) rfl; have y1 := b1y.cell' (i := 0) rfl; have fy0 := b0y.frozen; have fy1 := b1y.frozen; have b0z := blk1_set b0y (.slice A7 (i + (n - (i + 1))) c7); have r0 := b0z.cell' (i := 0) rfl; have b1z := b1y.far (p := ⟨w.heap.size, 0, none⟩) (by simp) (.slice A7 (i + (n - (i + 1))) c7); have y2 := b1z.cell' (i := 0) rfl; have fy2 := b1z.frozen; have b1t := blk1_set b1z (.slice A7 (i + (n - (i + 1))) c7); have y3 := b1t.cell' (i := 0) rfl)
          all_goals
            have hB7 : Below w.heap.size w w7 := Below.grown' hB3.drew hg7 (by show _ ≤ wr.heap.size; omega) (fun q hq => by have := (hO3.lt q hq).1; omega)
            have hD7 : OwnWords w7 w1.heap.size (m.eraseIdx i) := (hD3.erase i).map (fun A n' c xs h => h.drew.over hg7 (fun q hq e => (h.apart hO3 (by decide)) q e hq))
            rw [kvs_erase] at hO7
            have hle : (L.eraseIdx i).length = i + (n - (i + 1)) := by rw [List.length_eraseIdx_of_lt hiL, HN.out]; omega
            have z7 := hg7.size
            have hz7 : w1.heap.size ≤ w7.heap.size := by have : wr.drew.heap.size ≤ w7.heap.size := z7; exact Nat.le_trans hbs this
            obtain rfl : R = (L.eraseIdx i, 0) := HR2.out
            refine bodyPost_ret (v := .tuple #[.agg #[.slice A7 (i + (n - (i + 1))) c7], .int .i64 0]) (by simp [results, Try.results28, go_sem, y3]) rfl ?_
            refine ⟨A7, c7, by rw [hle], ?_, (hB7.setCell (p := ⟨w.heap.size, 0, none⟩) (Nat.le_refl _) _).setCell (p := ⟨w.heap.size + 1, 0, none⟩) (by simp) _⟩
            rw [hle]
            refine ⟨m.eraseIdx i, by rw [map_erase, hm], ?_, ?_⟩
            · exact ((hO7.setFar (p := ⟨w.heap.size, 0, none⟩) (fun e => by have : w1.heap.size ≤ w.heap.size := (hO7.lt _ e).1; omega) _).setFar (p := ⟨w.heap.size + 1, 0, none⟩) (fun e => by have : w1.heap.size ≤ w.heap.size + 1 := (hO7.lt _ e).1; omega) _).mono (by omega)
            · exact hD7.map (fun _ _ _ _ h => ((h.setFar (p := ⟨w.heap.size, 0, none⟩) (fun e => by have : w1.heap.size ≤ w.heap.size := (h.lt _ e).1; omega) _).setFar (p := ⟨w.heap.size + 1, 0, none⟩) (fun e => by have : w1.heap.size ≤ w.heap.size + 1 := (h.lt _ e).1; omega) _).mono (by omega))
        · have heb : (id2 == id) = false := by simpa using he
          have HF2 : Hid (∀ a y, a < i + 1 → L[a]? = some y → y.id ≠ id) := Lib.hid (fun a y ha hay => by
            rcases Nat.lt_or_ge a i with h | h
            · exact HF.out a y h hay
            · obtain rfl : a = i := by omega
              rw [HLi.out] at hay
              injection hay with hay
              subst hay
              exact he)
          go_wp2_with fail
          go_roundw
          case rel => exact ⟨i + 1, by omega, by go_num, by first | rfl | trivial, HF2⟩
          case measure => simp [intOf]; omega
      · obtain rfl : i = n := by omega
        have h5i : ¬ (i : Int) < (i : Int) := by omega
        obtain rfl : R = (L, 10) := by
          rw [HR.out, kfind_none (fun a y hay => HF.out a y (by have := (List.getElem?_eq_some_iff.1 hay).1; rw [HN.out] at this; exact this) hay)]
        have c1 := b1x.cell' (i := 0) rfl
        have f1 := b1x.frozen
        have b2 : Blk (wr.setCell ⟨w.heap.size + 1, 0, none⟩ (.slice B2 i d2)) (w.heap.size + 1) 44 #[.slice B2 i d2] := by simpa using b1x.set_ 0 (.slice B2 i d2)
        have c2 := b2.cell' (i := 0) rfl
        go_wp2_with fail
        refine bodyPost_ret (v := .tuple #[.agg #[.slice B2 i d2], .int .i64 10]) (by simp [results, Try.results28, go_sem, c2]) rfl ?_
        refine ⟨B2, d2, by rw [HN.out], ?_, hB3.setCell (p := ⟨w.heap.size + 1, 0, none⟩) (by simp) _⟩
        rw [HN.out]
        refine ⟨m, hm, (hO3.setFar (p := ⟨w.heap.size + 1, 0, none⟩) (fun e => by have : w1.heap.size ≤ w.heap.size + 1 := (hO3.lt _ e).1; omega) _).mono (by omega), hD3.map (fun _ _ _ _ h => (h.setFar (p := ⟨w.heap.size + 1, 0, none⟩) (fun e => by have : w1.heap.size ≤ w.heap.size + 1 := (h.lt _ e).1; omega) _).mono (by omega))⟩
  · obtain rfl : R = ([], 11) := by rw [hR]; exact if_neg hok
    rw [decide_eq_false hok] at HM
    obtain ⟨b0, b1, hB0, hz0⟩ := box2 w #[.slice B n d] #[.slice none 0 0] 44 44
    clear hR hok h hn
    go_enter Try.func28, Try.ntmps28
    go_wp2_with fail
    generalize (w.alloc (.cells #[.slice B n d] 44)).alloc (.cells #[.slice none 0 0] 44) = W at *
    refine (HM.out W (HRd.out.step hB0)).mono ?_
    rintro e w1 ⟨rfl, hb1⟩
    have b1' := b1.step hb1
    have c1 := b1'.cell' (i := 0) rfl
    have f1 := b1'.frozen
    have b2 : Blk (w1.setCell ⟨w.heap.size + 1, 0, none⟩ (.slice none 0 0)) (w.heap.size + 1) 44 #[.slice none 0 0] := by simpa using b1'.set_ 0 (.slice none 0 0)
    have c2 := b2.cell' (i := 0) rfl
    go_wp2_with fail
    refine bodyPost_ret (v := .tuple #[.agg #[.slice none 0 0], .int .i64 11]) (by simp [results, Try.results28, go_sem, c2]) rfl ?_
    exact RingRes.none_ ((hB0.trans (hb1.mono hB0.size)).setCell (p := ⟨w.heap.size + 1, 0, none⟩) (by simp) _)
end Go.Proofs.Ytkbaganbfcbioaa
namespace Go.Proofs.Ytkbaganbfcbioaa
set_option linter.unusedSimpArgs false
set_option linter.unusedVariables false
open Go.RowKit

/-- Only what belongs to the call from 'base' on has turned, below 'top'. -/
def TurnedIn (w w' : World) (base top : Nat) : Prop := Below base w w' ∧ ∀ i, top ≤ i → i < w.heap.size → w'.heap[i]? = w.heap[i]?
theorem TurnedIn.refl (w : World) (base top : Nat) : TurnedIn w w base top := ⟨Below.refl _ _, fun i _ _ => rfl⟩
theorem TurnedIn.grown {w v v' : World} {base top : Nat} (h : TurnedIn w v base top) {row : Option Nat} (hg : v.grownBy v' row) (hr : ∀ q, row = some q → base ≤ q ∧ (q < top ∨ w.heap.size ≤ q)) (hb : base ≤ w.heap.size) : TurnedIn w v' base top :=
  ⟨h.1.grown hg (Nat.le_trans hb h.1.size) (fun q hq => (hr q hq).1), fun i h1 h2 => (hg.block i (Nat.lt_of_lt_of_le h2 h.1.size) (fun e => by have := (hr i e.symm).2; omega)).trans (h.2 i h1 h2)⟩
theorem TurnedIn.set {w v : World} {base top : Nat} (h : TurnedIn w v base top) {p : Addr} (hp : base ≤ p.block) (hp2 : p.block < top ∨ w.heap.size ≤ p.block) (u : Value) : TurnedIn w (v.setCell p u) base top :=
  ⟨h.1.setCell hp u, fun i h1 h2 => (Below.heap_setCell v p u i (by omega)).trans (h.2 i h1 h2)⟩
theorem TurnedIn.keepLow {w w' : World} {base top : Nat} (h : TurnedIn w w' base top) {b : Nat} {e : TypeId} {s n c : Nat} {A : Option Addr} {xs : List Value} (hO : Own w b e s A n c xs) (hA : ∀ q, blk A = some q → q < base ∨ top ≤ q) : Own w' b e s A n c xs :=
  hO.keep fun a ha hl => by
    rcases hA a.block (map_block_of_some ha) with h1 | h1
    · exact h.1.block _ h1
    · exact h.2 _ h1 hl

set_option maxHeartbeats 6400000 in
set_option maxRecDepth 100000 in
theorem overRing_any (l : List KyR) (L : List Ky) (B : Option Addr) (n d base top : Nat) (w : World) (hl : l.map KyR.k = L) (hn : L.length = n) (hO : Own w base 46 4 B n d (kvs l)) (hD : OwnWords w base l) (hbase : base ≤ w.heap.size) (ht : top ≤ w.heap.size) (hBt : ∀ q, blk B = some q → q < top) (hDt : ∀ (i : Nat) (y : KyR), l[i]? = some y → ∀ q, blk y.A = some q → q < top) (hf : ∀ x ∈ L, x.words.length ≤ 17592186044000) (hnn : n ≤ 2932031007317) :
    Calls Try.prog 50 #[.agg #[.slice B n d]] w fun e w' => e = .returned (.tuple #[]) ∧ TurnedIn w w' base top := by
  obtain ⟨j0, hj0, hy0, hy1, hy2⟩ := info_parts keyinfo
  have HN := Lib.hid hn
  have HL := Lib.hid hl
  have HDd := Lib.hid hD.2
  clear hn hl
  go_enter Try.func50, Try.ntmps50
  go_wp2_with fail
  have hb0 : Blk (w.alloc (.cells #[.slice B n d] 44)) w.heap.size 44 #[.slice B n d] := Blk.new _ _ _
  have hO0 := hO.alloc (.cells #[.slice B n d] 44)
  have hD0 := hD.map (fun _ _ _ _ h => h.alloc (.cells #[.slice B n d] 44))
  have hT0 : TurnedIn w (w.alloc (.cells #[.slice B n d] 44)) base top := ⟨(Below.refl _ _).alloc hbase _, fun i _ hi => Below.heap_alloc w _ i hi⟩
  have hlt : ∀ q, blk B = some q → base ≤ q ∧ q < top := fun q hq => ⟨(hO.lt q hq).1, hBt q hq⟩
  have hltD := Lib.hid (fun (i : Nat) (y : KyR) (hy : l[i]? = some y) (q : Nat) (hq : blk y.A = some q) => (⟨(hD.lt hy hq).1, hDt i y hy q hq⟩ : base ≤ q ∧ q < top))
  clear hO hD
  go_loopw [2] (fun iv wr => ∃ (i : Nat) (xs : List Value), i ≤ n ∧ iv = .int .i64 (i : Int) ∧ TurnedIn w wr base top ∧ Blk wr w.heap.size 44 #[.slice B n d] ∧ Own wr base 46 4 B n d xs ∧ Hid (∀ j, i * 4 ≤ j → xs[j]? = (kvs l)[j]?) ∧ (∀ (j : Nat) (x : KyR), i ≤ j → l[j]? = some x → Own wr base 3 1 x.A x.k.words.length x.c (ivs x.k.words))) (fun iv _ => n - (intOf iv).toNat)
  case atStart => exact ⟨0, kvs l, Nat.zero_le _, rfl, hT0, hb0, hO0, Lib.hid (fun j _ => rfl), fun j x _ hx => hD0.1 j x hx⟩
  case round =>
    clear hT0 hb0 hO0 hD0
    obtain ⟨i, xs, hi, rfl, hT, b0, hO, HX, hR⟩ := hrel
    have k0 := b0.cell' (i := 0) rfl
    have zT := hT.1.size
    by_cases h5 : i < n
    · have h5i : (i : Int) < (n : Int) := by omega
      have hip : (0 : Int) ≤ (i : Int) := by omega
      have hiL : i < L.length := by rw [HN.out]; exact h5
      obtain ⟨xA, xd, hx⟩ := ky_at HL.out hiL
      have hff := hf _ (List.getElem_mem hiL)
      generalize L[i] = kx at *
      obtain ⟨id, words, top, seen⟩ := kx
      obtain ⟨g, o, rfl, hg1, hg2⟩ := hO.form (by have := hO.le; omega)
      have hglt := (hlt g rfl).2
      have c1 : wr.cell? ⟨g, o + i * 4 + 1, none⟩ = some (.slice xA words.length xd) := hO.cell ((HX.out (i * 4 + 1) (by omega)).trans ((kvs_get hx (j := 1) (by omega)).trans rfl))
      have hxO := hR i _ (Nat.le_refl _) hx
      have hxlt := hltD.out i _ hx
      dsimp only at hff hxO hxlt
      have CO := Lib.hid (over_ints base xA words.length xd words (-7) wr hxO hff (by omega))
      go_wp2_with fail
      refine (CO.out).mono ?_
      rintro e w1 ⟨rfl, hg1'⟩
      have z1 := hg1'.size
      have hT1 := hT.grown hg1' (fun q hq => ⟨(hxlt q hq).1, .inl (hxlt q hq).2⟩) hbase
      have b01 := b0.over hg1' (fun q hq e => by have := (hxlt q hq).2; injection e with e; omega)
      have hO1 := hO.over hg1' (hxO.apart hO (by decide))
      have hR1 : ∀ (j : Nat) (x : KyR), i + 1 ≤ j → l[j]? = some x → Own w1 base 3 1 x.A x.k.words.length x.c (ivs x.k.words) := fun j x hj hxj => (hR j x (by omega) hxj).over hg1' (HDd.out i j _ x (by omega) hx hxj)
      clear hT b0 hR k0 c1 CO
      have k0 := b01.cell' (i := 0) rfl
      have hmul : i * 4 + 4 ≤ n * 4 := by omega
      have hX0 : ∀ r, r < 4 → xs[i * 4 + r]? = (kcs ⟨⟨id, words, top, seen⟩, xA, xd⟩)[r]? := fun r hr => (HX.out (i * 4 + r) (by omega)).trans (kvs_get hx hr)
      have s0 := hO1.set (i * 4) (by omega) (.int .i64 (-7))
      have s1 := s0.set (i * 4 + 1) (by omega) (.slice none 0 0)
      have s2 := s1.set (i * 4 + 2) (by omega) (.int .i64 0)
      have s3 := s2.set (i * 4 + 3) (by omega) (.int .i64 0)
      have e0 : w1.cell? ⟨g, o + i * 4, none⟩ = some (.int .i64 id) := hO1.cell ((hX0 0 (by omega)).trans rfl)
      have e1 : (w1.setCell ⟨g, o + i * 4, none⟩ (.int .i64 (-7))).cell? ⟨g, o + i * 4 + 1, none⟩ = some (.slice xA words.length xd) := s0.cell (i := i * 4 + 1) (by rw [List.getElem?_set_ne (by omega)]; exact (hX0 1 (by omega)).trans rfl)
      have e2 : ((w1.setCell ⟨g, o + i * 4, none⟩ (.int .i64 (-7))).setCell ⟨g, o + i * 4 + 1, none⟩ (.slice none 0 0)).cell? ⟨g, o + i * 4 + 2, none⟩ = some (.int .i64 top) := s1.cell (i := i * 4 + 2) (by rw [List.getElem?_set_ne (by omega), List.getElem?_set_ne (by omega)]; exact (hX0 2 (by omega)).trans rfl)
      have e3 : (((w1.setCell ⟨g, o + i * 4, none⟩ (.int .i64 (-7))).setCell ⟨g, o + i * 4 + 1, none⟩ (.slice none 0 0)).setCell ⟨g, o + i * 4 + 2, none⟩ (.int .i64 0)).cell? ⟨g, o + i * 4 + 3, none⟩ = some (.int .i64 seen) := s2.cell (i := i * 4 + 3) (by rw [List.getElem?_set_ne (by omega), List.getElem?_set_ne (by omega), List.getElem?_set_ne (by omega)]; exact (hX0 3 (by omega)).trans rfl)
      have f0 : ∀ r, w1.frozen? ⟨g, r, none⟩ = false := fun r => hO1.frozen r
      have f1 : ∀ r, (w1.setCell ⟨g, o + i * 4, none⟩ (.int .i64 (-7))).frozen? ⟨g, r, none⟩ = false := fun r => s0.frozen r
      have f2 : ∀ r, ((w1.setCell ⟨g, o + i * 4, none⟩ (.int .i64 (-7))).setCell ⟨g, o + i * 4 + 1, none⟩ (.slice none 0 0)).frozen? ⟨g, r, none⟩ = false := fun r => s1.frozen r
      have f3 : ∀ r, (((w1.setCell ⟨g, o + i * 4, none⟩ (.int .i64 (-7))).setCell ⟨g, o + i * 4 + 1, none⟩ (.slice none 0 0)).setCell ⟨g, o + i * 4 + 2, none⟩ (.int .i64 0)).frozen? ⟨g, r, none⟩ = false := fun r => s2.frozen r
      have HX2 : Hid (∀ j, (i + 1) * 4 ≤ j → ((((xs.set (i * 4) (.int .i64 (-7))).set (i * 4 + 1) (.slice none 0 0)).set (i * 4 + 2) (.int .i64 0)).set (i * 4 + 3) (.int .i64 0))[j]? = (kvs l)[j]?) := Lib.hid (fun j hj => by
        rw [List.getElem?_set_ne (by omega), List.getElem?_set_ne (by omega), List.getElem?_set_ne (by omega), List.getElem?_set_ne (by omega)]
        exact HX.out j (by omega))
      have hsf : ∀ {A : Option Addr} {q c : Nat} {ys : List Value}, Own w1 base 3 1 A q c ys → blk A ≠ some g := fun h e => (h.apart hO1 (by decide)) g e rfl
      have hT4 := (((hT1.set (p := ⟨g, o + i * 4, none⟩) hg1 (.inl hglt) (.int .i64 (-7))).set (p := ⟨g, o + i * 4 + 1, none⟩) hg1 (.inl hglt) (.slice none 0 0)).set (p := ⟨g, o + i * 4 + 2, none⟩) hg1 (.inl hglt) (.int .i64 0)).set (p := ⟨g, o + i * 4 + 3, none⟩) hg1 (.inl hglt) (.int .i64 0)
      have hgw : ¬ (w.heap.size = g) := by omega
      have b04 := (((b01.far (p := ⟨g, o + i * 4, none⟩) hgw (.int .i64 (-7))).far (p := ⟨g, o + i * 4 + 1, none⟩) hgw (.slice none 0 0)).far (p := ⟨g, o + i * 4 + 2, none⟩) hgw (.int .i64 0)).far (p := ⟨g, o + i * 4 + 3, none⟩) hgw (.int .i64 0)
      have hR4 : ∀ (j : Nat) (x : KyR), i + 1 ≤ j → l[j]? = some x → Own ((((w1.setCell ⟨g, o + i * 4, none⟩ (.int .i64 (-7))).setCell ⟨g, o + i * 4 + 1, none⟩ (.slice none 0 0)).setCell ⟨g, o + i * 4 + 2, none⟩ (.int .i64 0)).setCell ⟨g, o + i * 4 + 3, none⟩ (.int .i64 0)) base 3 1 x.A x.k.words.length x.c (ivs x.k.words) := fun j x hj hxj =>
        ((((hR1 j x hj hxj).setFar (p := ⟨g, o + i * 4, none⟩) (hsf (hR1 j x hj hxj)) _).setFar (p := ⟨g, o + i * 4 + 1, none⟩) (hsf (hR1 j x hj hxj)) _).setFar (p := ⟨g, o + i * 4 + 2, none⟩) (hsf (hR1 j x hj hxj)) _).setFar (p := ⟨g, o + i * 4 + 3, none⟩) (hsf (hR1 j x hj hxj)) _
      clear hX0 s0 s1 s2 hT1 b01 hR1 hsf hO1 hO
      go_wp2_with fail
      go_roundw
      case rel => exact ⟨i + 1, _, by omega, by go_num, hT4, b04, s3, HX2, hR4⟩
      case measure => simp [intOf]; omega
    · have h5i : ¬ (i : Int) < (n : Int) := by omega
      have q4 : n + 1 ≤ maxLen := by unfold maxLen; omega
      have q5 : (n + 1) * 48 ≤ 140737488355328 := by omega
      have hOn := hO.alloc (.cells #[.int .i64 (-8), .slice none 0 0, .int .i64 0, .int .i64 0] 46)
      have hR5 := Rd_lit wr [.int .i64 (-8), .slice none 0 0, .int .i64 0, .int .i64 0] 46
      have hbs : base ≤ (wr.alloc (.cells #[.int .i64 (-8), .slice none 0 0, .int .i64 0, .int .i64 0] 46)).heap.size := by simp; omega
      have hone : Hid (∀ u ∈ [Value.int .i64 (-8), .slice none 0 0, .int .i64 0, .int .i64 0], u.oneCell' = true) := Lib.hid (by
        intro u hu
        simp at hu
        rcases hu with rfl | rfl | rfl | rfl <;> rfl)
      have hT5 : TurnedIn w (wr.alloc (.cells #[.int .i64 (-8), .slice none 0 0, .int .i64 0, .int .i64 0] 46)) base top := hT.grown (row := none) ⟨rfl, rfl, rfl, by simp, fun i hi _ => Below.heap_alloc wr _ i hi⟩ (fun q hq => by cases hq) hbase
      go_wp2_with (at_builtin; refine wpList_append_Own (wr.alloc (.cells #[.int .i64 (-8), .slice none 0 0, .int .i64 0, .int .i64 0] 46)) rfl (.tmp 23) (.tmp 25) 42 rfl base 46 j0 _ 4 48 Try.underlying42 hj0 hy0 hy1 hy2 rfl B n d xs rfl hOn (some ⟨wr.heap.size, 0, none⟩) 1 1 [.int .i64 (-8), .slice none 0 0, .int .i64 0, .int .i64 0] rfl rfl hR5 hone.out q4 q5 hbs ?_; intro A6 c6 w6 hO6 hg6 hor6)
      go_end0
      exact ⟨rfl, hT5.grown hg6 (fun q hq => ⟨(hlt q hq).1, .inl (hlt q hq).2⟩) hbase⟩
end Go.Proofs.Ytkbaganbfcbioaa
