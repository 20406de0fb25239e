/-
  The document's Dropped.
-/
import Derived.Test.YtkbaganbfcbioaaRingQ
import Derived.Test.YtkbaganbfcbioaaRingM
import Derived.Test.YtkbaganbfcbioaaRingO
import Derived.StillTail
import Derived.StillTactics
import Derived.StillTailTactics
namespace Go.Proofs.Ytkbaganbfcbioaa
set_option linter.unusedSimpArgs false
set_option linter.unusedVariables false
open Go.RowKit

theorem box2 (w : World) (a b : Array Value) (s t : TypeId) : Blk ((w.alloc (.cells a s)).alloc (.cells b t)) w.heap.size s a ∧ Blk ((w.alloc (.cells a s)).alloc (.cells b t)) (w.heap.size + 1) t b ∧ Below w.heap.size w ((w.alloc (.cells a s)).alloc (.cells b t)) ∧ ((w.alloc (.cells a s)).alloc (.cells b t)).heap.size = w.heap.size + 2 := by
  refine ⟨(Blk.new _ _ _).alloc _, ?_, ((Below.refl _ _).alloc (Nat.le_refl _) _).alloc (by simp) _, by simp⟩
  have := Blk.new (w.alloc (.cells a s)) t b
  simpa using this
theorem blk1_set {w : World} {g : Nat} {t : TypeId} {a : Value} (h : Blk w g t #[a]) (v : Value) : Blk (w.setCell ⟨g, 0, none⟩ v) g t #[v] := by simpa using h.set_ 0 v
set_option maxHeartbeats 6400000 in
set_option maxRecDepth 100000 in
theorem rdropped_any (l : List KyR) (L : List Ky) (B : Option Addr) (n d : Nat) (id : Int) (w : World) (hl : l.map KyR.k = L) (hn : L.length = n) (h : RdRing w B l) (hf : RingFits L) (hnn : n ≤ 2932031007317) :
    Calls Try.prog 28 #[.agg #[.slice B n d], .int .i64 id] w fun e w' => RingRes w w' (dropR L id) e := by
  have HM := Lib.hid (fun (w : World) (h : RdRing w B l) => rringMay_any l L B n d w hl hn h hf)
  have HO := Lib.hid (fun (w : World) (h : RdRing w B l) => ringOf_any l L B n d w hl hn h hf hnn)
  obtain ⟨R, hR⟩ : ∃ R, R = dropR L id := ⟨_, rfl⟩
  rw [← hR]
  have HRd := Lib.hid h
  by_cases hok : ringOk L
  · have hR2 : R = (match kfind L id with | none => (L, 10) | some i => (L.eraseIdx i, 0)) := by rw [hR]; exact if_pos hok
    have HN := Lib.hid hn
    have HR := Lib.hid hR2
    rw [decide_eq_true hok] at HM
    clear hR hR2 hok h hn hl
    obtain ⟨b0, b1, hB0, hz0⟩ := box2 w #[.slice B n d] #[.slice none 0 0] 44 44
    go_enter Try.func28, Try.ntmps28
    go_wp2_with fail
    generalize (w.alloc (.cells #[.slice B n d] 44)).alloc (.cells #[.slice none 0 0] 44) = W at *
    refine (HM.out W (HRd.out.step hB0)).mono ?_
    rintro e w1 ⟨rfl, hb1⟩
    have b0' := b0.step hb1
    have b1' := b1.step hb1
    have hB1 := hB0.trans (hb1.mono hB0.size)
    have k0 := b0'.cell' (i := 0) rfl
    clear b0 b1
    go_wp2_with fail
    refine (HO.out w1 (HRd.out.step hB1)).mono ?_
    rintro e w2 ⟨B2, d2, rfl, ⟨m, hm, hO2, hD2⟩, hb2⟩
    have hz1 := hb1.size
    have b0w := b0'.step hb2
    have b1w := b1'.step hb2
    have hB2 := hB1.trans (hb2.mono hB1.size)
    have s0 := b0w.cell' (i := 0) rfl
    have sf := b0w.frozen
    have hlt0 : w.heap.size + 1 < w1.heap.size := by have := b1'.lt; omega
    have b0x : Blk (w2.setCell ⟨w.heap.size, 0, none⟩ (.slice B2 n d2)) w.heap.size 44 #[.slice B2 n d2] := by simpa using b0w.set_ 0 (.slice B2 n d2)
    have b1x : Blk (w2.setCell ⟨w.heap.size, 0, none⟩ (.slice B2 n d2)) (w.heap.size + 1) 44 #[.slice none 0 0] := b1w.far (p := ⟨w.heap.size, 0, none⟩) (by simp) _
    have hfar : ∀ {t : TypeId} {s n c : Nat} {A : Option Addr} {xs : List Value}, Own w2 w1.heap.size t s A n c xs → Own (w2.setCell ⟨w.heap.size, 0, none⟩ (.slice B2 n d2)) w1.heap.size t s A n c xs := fun h => h.setFar (p := ⟨w.heap.size, 0, none⟩) (fun e => by have : w1.heap.size ≤ w.heap.size := (h.lt _ e).1; omega) _
    have hO3 := hO2.setFar (p := ⟨w.heap.size, 0, none⟩) (fun e => by have : w1.heap.size ≤ w.heap.size := (hO2.lt _ e).1; omega) (.slice B2 n d2)
    have hD3 := hD2.map (fun A n' c xs h => h.setFar (p := ⟨w.heap.size, 0, none⟩) (fun e => by have : w1.heap.size ≤ w.heap.size := (h.lt _ e).1; omega) (.slice B2 n d2))
    have hB3 : Below w.heap.size w (w2.setCell ⟨w.heap.size, 0, none⟩ (.slice B2 n d2)) := hB2.setCell (p := ⟨w.heap.size, 0, none⟩) (Nat.le_refl _) _
    clear hO2 hD2 hB2 hfar
    have z2 := hb2.size
    go_wp2_with fail
    have z3 : w2.heap.size = (w2.setCell ⟨w.heap.size, 0, none⟩ (.slice B2 n d2)).heap.size := by simp
    generalize w2.setCell ⟨w.heap.size, 0, none⟩ (.slice B2 n d2) = W3 at *
    clear s0 sf k0 b0w b1w b0' b1' hB0 hB1 hb1 hb2
    go_loopw [6] (fun iv wr => ∃ i : Nat, i ≤ n ∧ iv = .int .i64 (i : Int) ∧ wr = W3 ∧ Hid (∀ a y, a < i → L[a]? = some y → y.id ≠ id)) (fun iv _ => n - (intOf iv).toNat)
    case atStart => exact ⟨0, Nat.zero_le _, rfl, rfl, Lib.hid (fun a y h => by omega)⟩
    case round =>
      obtain ⟨i, hi, rfl, rfl, HF⟩ := hrel
      have k0 := b0x.cell' (i := 0) rfl
      have fk := b0x.frozen
      have hnd := hO3.le
      by_cases h5 : i < n
      · have h5i : (i : Int) < (n : Int) := by omega
        have hip : (0 : Int) ≤ (i : Int) := by omega
        have hiL : i < L.length := by rw [HN.out]; exact h5
        obtain ⟨xA, xd, hx⟩ := ky_at hm hiL
        have HLi := Lib.hid (List.getElem?_eq_getElem hiL)
        have hRw := OwnWords.rd hO3 hD3
        generalize L[i] = kx at *
        obtain ⟨id2, words, top, seen⟩ := kx
        obtain ⟨g, o, rfl, x0, _, _, _⟩ := hRw.cells hx
        dsimp only at x0
        by_cases he : id2 = id
        · have HR2 : Hid (R = (L.eraseIdx i, 0)) := Lib.hid (by rw [HR.out, kfind_some HLi.out he HF.out])
          subst he
          obtain ⟨j0, hj0, hy0, hy1, hy2⟩ := info_parts keyinfo
          have hOc := (hO3.capCut (m := i) (by omega)).drew
          rw [kvs_take] at hOc
          have hRn := (hO3.rd.drop_lit ((i + 1) * 4)).drew
          rw [kvs_drop] at hRn
          have hml : m.length = n := by have := congrArg List.length hm; rw [← HN.out]; simpa using this
          have q1 : Hid ((kvs (m.drop (i + 1))).length = (n - (i + 1)) * 4) := by show _ = _; rw [kvs_len, List.length_drop, hml]
          have q2 : i + (n - (i + 1)) ≤ maxLen := by unfold maxLen; omega
          have q3 : (i + (n - (i + 1))) * 48 ≤ 140737488355328 := by omega
          have hbs : w1.heap.size ≤ wr.drew.heap.size := by show _ ≤ wr.heap.size; omega
          have hid2 : (i : Int) ≤ (d2 : Int) := by omega
          have hwr : IntKind.i64.wrap ((i : Int) + 1) = (i : Int) + 1 := IntWalk.i64_in _ (by omega)
          have hip1 : (0 : Int) ≤ (i : Int) + 1 := by omega
          have hi1 : (i : Int) + 1 ≤ (n : Int) := by omega
          have hn2 : (n : Int) ≤ (d2 : Int) := by omega
          clear HF HLi hx
          have HRn1 : Hid (Rd wr.drew (if d2 = i + 1 then some ⟨g, o, none⟩ else some ⟨g, o + (i + 1) * 4, none⟩) (kvs (m.drop (i + 1)))) := by
            show Rd _ _ _
            split
            · rw [List.drop_of_length_le (by omega)]
              exact Rd.nil _ _
            · exact hRn
          go_wp2_with fail
          go_still_tail 10, (by kernel_rfl)
          go_wp2_with (at_builtin; refine wpList_append_Own wr.drew rfl (.tmp 32) (.tmp 37) 42 rfl w1.heap.size 46 j0 _ 4 48 Try.underlying42 hj0 hy0 hy1 hy2 rfl (some ⟨g, o, none⟩) i i (kvs (m.take i)) rfl hOc (if d2 = i + 1 then some ⟨g, o, none⟩ else some ⟨g, o + (i + 1) * 4, none⟩) (n - (i + 1)) (d2 - (i + 1)) (kvs (m.drop (i + 1))) rfl q1.out HRn1.out (kvs_one _) q2 q3 hbs ?_; intro A7 c7 w7 hO7 hg7 hor7; have b0y := b0x.drew.over hg7 (fun q hq e => by have := (hO3.lt q hq).1; injection e with e; omega); have b1y := b1x.drew.over hg7 (fun q hq e => by have := (hO3.lt q hq).1; injection e with e; omega); have y0 := b0y.cell' (i := 0) rfl; have y1 := b1y.cell' (i := 0) rfl; have fy0 := b0y.frozen; have fy1 := b1y.frozen; have b0z := blk1_set b0y (.slice A7 (i + (n - (i + 1))) c7); have r0 := b0z.cell' (i := 0) rfl; have b1z := b1y.far (p := ⟨w.heap.size, 0, none⟩) (by simp) (.slice A7 (i + (n - (i + 1))) c7); have y2 := b1z.cell' (i := 0) rfl; have fy2 := b1z.frozen; have b1t := blk1_set b1z (.slice A7 (i + (n - (i + 1))) c7); have y3 := b1t.cell' (i := 0) rfl)
          all_goals
            have hB7 : Below w.heap.size w w7 := Below.grown' hB3.drew hg7 (by show _ ≤ wr.heap.size; omega) (fun q hq => by have := (hO3.lt q hq).1; omega)
            have hD7 : OwnWords w7 w1.heap.size (m.eraseIdx i) := (hD3.erase i).map (fun A n' c xs h => h.drew.over hg7 (fun q hq e => (h.apart hO3 (by decide)) q e hq))
            rw [kvs_erase] at hO7
            have hle : (L.eraseIdx i).length = i + (n - (i + 1)) := by rw [List.length_eraseIdx_of_lt hiL, HN.out]; omega
            have z7 := hg7.size
            have hz7 : w1.heap.size ≤ w7.heap.size := by have : wr.drew.heap.size ≤ w7.heap.size := z7; exact Nat.le_trans hbs this
            obtain rfl : R = (L.eraseIdx i, 0) := HR2.out
            refine bodyPost_ret (v := .tuple #[.agg #[.slice A7 (i + (n - (i + 1))) c7], .int .i64 0]) (by simp [results, Try.results28, go_sem, y3]) rfl ?_
            refine ⟨A7, c7, by rw [hle], ?_, (hB7.setCell (p := ⟨w.heap.size, 0, none⟩) (Nat.le_refl _) _).setCell (p := ⟨w.heap.size + 1, 0, none⟩) (by simp) _⟩
            rw [hle]
            refine ⟨m.eraseIdx i, by rw [map_erase, hm], ?_, ?_⟩
            · exact ((hO7.setFar (p := ⟨w.heap.size, 0, none⟩) (fun e => by have : w1.heap.size ≤ w.heap.size := (hO7.lt _ e).1; omega) _).setFar (p := ⟨w.heap.size + 1, 0, none⟩) (fun e => by have : w1.heap.size ≤ w.heap.size + 1 := (hO7.lt _ e).1; omega) _).mono (by omega)
            · exact hD7.map (fun _ _ _ _ h => ((h.setFar (p := ⟨w.heap.size, 0, none⟩) (fun e => by have : w1.heap.size ≤ w.heap.size := (h.lt _ e).1; omega) _).setFar (p := ⟨w.heap.size + 1, 0, none⟩) (fun e => by have : w1.heap.size ≤ w.heap.size + 1 := (h.lt _ e).1; omega) _).mono (by omega))
        · have heb : (id2 == id) = false := by simpa using he
          have HF2 : Hid (∀ a y, a < i + 1 → L[a]? = some y → y.id ≠ id) := Lib.hid (fun a y ha hay => by
            rcases Nat.lt_or_ge a i with h | h
            · exact HF.out a y h hay
            · obtain rfl : a = i := by omega
              rw [HLi.out] at hay
              injection hay with hay
              subst hay
              exact he)
          go_wp2_with fail
          go_roundw
          case rel => exact ⟨i + 1, by omega, by go_num, by first | rfl | trivial, HF2⟩
          case measure => simp [intOf]; omega
      · obtain rfl : i = n := by omega
        have h5i : ¬ (i : Int) < (i : Int) := by omega
        obtain rfl : R = (L, 10) := by
          rw [HR.out, kfind_none (fun a y hay => HF.out a y (by have := (List.getElem?_eq_some_iff.1 hay).1; rw [HN.out] at this; exact this) hay)]
        have c1 := b1x.cell' (i := 0) rfl
        have f1 := b1x.frozen
        have b2 : Blk (wr.setCell ⟨w.heap.size + 1, 0, none⟩ (.slice B2 i d2)) (w.heap.size + 1) 44 #[.slice B2 i d2] := by simpa using b1x.set_ 0 (.slice B2 i d2)
        have c2 := b2.cell' (i := 0) rfl
        go_wp2_with fail
        refine bodyPost_ret (v := .tuple #[.agg #[.slice B2 i d2], .int .i64 10]) (by simp [results, Try.results28, go_sem, c2]) rfl ?_
        refine ⟨B2, d2, by rw [HN.out], ?_, hB3.setCell (p := ⟨w.heap.size + 1, 0, none⟩) (by simp) _⟩
        rw [HN.out]
        refine ⟨m, hm, (hO3.setFar (p := ⟨w.heap.size + 1, 0, none⟩) (fun e => by have : w1.heap.size ≤ w.heap.size + 1 := (hO3.lt _ e).1; omega) _).mono (by omega), hD3.map (fun _ _ _ _ h => (h.setFar (p := ⟨w.heap.size + 1, 0, none⟩) (fun e => by have : w1.heap.size ≤ w.heap.size + 1 := (h.lt _ e).1; omega) _).mono (by omega))⟩
  · obtain rfl : R = ([], 11) := by rw [hR]; exact if_neg hok
    rw [decide_eq_false hok] at HM
    obtain ⟨b0, b1, hB0, hz0⟩ := box2 w #[.slice B n d] #[.slice none 0 0] 44 44
    clear hR hok h hn
    go_enter Try.func28, Try.ntmps28
    go_wp2_with fail
    generalize (w.alloc (.cells #[.slice B n d] 44)).alloc (.cells #[.slice none 0 0] 44) = W at *
    refine (HM.out W (HRd.out.step hB0)).mono ?_
    rintro e w1 ⟨rfl, hb1⟩
    have b1' := b1.step hb1
    have c1 := b1'.cell' (i := 0) rfl
    have f1 := b1'.frozen
    have b2 : Blk (w1.setCell ⟨w.heap.size + 1, 0, none⟩ (.slice none 0 0)) (w.heap.size + 1) 44 #[.slice none 0 0] := by simpa using b1'.set_ 0 (.slice none 0 0)
    have c2 := b2.cell' (i := 0) rfl
    go_wp2_with fail
    refine bodyPost_ret (v := .tuple #[.agg #[.slice none 0 0], .int .i64 11]) (by simp [results, Try.results28, go_sem, c2]) rfl ?_
    exact RingRes.none_ ((hB0.trans (hb1.mono hB0.size)).setCell (p := ⟨w.heap.size + 1, 0, none⟩) (by simp) _)
end Go.Proofs.Ytkbaganbfcbioaa
