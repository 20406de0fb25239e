/-
  keys.Drop.
-/
import Derived.Test.YtkbaganbfcbioaaRingX
namespace Go.Proofs.Ytkbaganbfcbioaa
set_option linter.unusedSimpArgs false
set_option linter.unusedVariables false
open Go.RowKit

theorem OwnRes.open_ {w w' : World} {r : List Ky × Bool} {e : Ending} {L : List Ky} {b : Bool} (hr : r = (L, b)) (h : OwnRes w w' r e) :
    ∃ B c l, e = .returned (.tuple #[.agg #[.slice B L.length c], .bool b]) ∧ l.map KyR.k = L ∧ Own w' w.heap.size 46 4 B L.length c (kvs l) ∧ OwnWords w' w.heap.size l ∧ Below w.heap.size w w' := by
  subst hr
  obtain ⟨B, c, rfl, ⟨l, h1, h2, h3⟩, hb⟩ := h
  exact ⟨B, c, l, rfl, h1, h2, h3, hb⟩
set_option maxHeartbeats 6400000 in
set_option maxRecDepth 100000 in
theorem pdrop_any (l : List KyR) (L : List Ky) (B : Option Addr) (n d : Nat) (id : Int) (w : World) (hl : l.map KyR.k = L) (hn : L.length = n) (h : RdRing w B l) (hf : RingFits L) :
    Calls Try.prog 30 #[.agg #[.slice B n d], .int .i64 id] w fun e w' => RingRes w w' (dropR L id) e := by
  have HW := Lib.hid (fun (w : World) (h : RdRing w B l) => own_any l L B n d w hl hn h hf)
  obtain ⟨R, hR⟩ : ∃ R, R = dropR L id := ⟨_, rfl⟩
  rw [← hR]
  have HRd := Lib.hid h
  have HN := Lib.hid hn
  obtain ⟨b0, b1, hB0, hz0⟩ := box2 w #[.slice B n d] #[.slice none 0 0] 44 44
  clear hl hn h
  by_cases hok : ringOk L
  · have hR2 : R = (match kfind L id with | none => (L, 10) | some i => (L.eraseIdx i, 0)) := by rw [hR]; exact if_pos hok
    have HR := Lib.hid hR2
    have HO : Hid (ownR L = (L, true)) := Lib.hid (if_pos hok)
    have hn8 : n ≤ 8 := by rw [← HN.out]; exact hok.1
    clear hR hR2 hok
    go_enter Try.func30, Try.ntmps30
    go_wp2_with fail
    generalize (w.alloc (.cells #[.slice B n d] 44)).alloc (.cells #[.slice none 0 0] 44) = W at *
    refine (HW.out W (HRd.out.step hB0)).mono ?_
    intro e w1 h1
    obtain ⟨B1, c1, m, rfl, hm, hO, hD, hb⟩ := h1.open_ HO.out
    clear h1
    rw [HN.out] at hO ⊢
    replace b0 := b0.step hb
    replace b1 := b1.step hb
    have z1 := hb.size
    replace hB0 := hB0.trans (hb.mono hB0.size)
    have k0 := b0.cell' (i := 0) rfl
    have f0 := b0.frozen
    have b0' := blk1_set b0 (.slice B1 n c1)
    have b1' := b1.far (p := ⟨w.heap.size, 0, none⟩) (by simp) (.slice B1 n c1)
    have hne : ∀ q, blk B1 = some q → w.heap.size + 2 ≤ q := fun q hq => by have := (hO.lt q hq).1; omega
    have hO' := hO.setFar (p := ⟨w.heap.size, 0, none⟩) (fun e => by have : w.heap.size + 2 ≤ w.heap.size := hne _ e; omega) (.slice B1 n c1)
    have hD' := hD.map (fun _ _ _ _ h => h.setFar (p := ⟨w.heap.size, 0, none⟩) (fun e => by have : W.heap.size ≤ w.heap.size := (h.lt _ e).1; omega) (.slice B1 n c1))
    have hB' := hB0.setCell (p := ⟨w.heap.size, 0, none⟩) (Nat.le_refl _) (.slice B1 n c1)
    have z1' : (w1.setCell ⟨w.heap.size, 0, none⟩ (.slice B1 n c1)).heap.size = w1.heap.size := by simp
    have k0' := b0'.cell' (i := 0) rfl
    clear hO hD hB0 b1 HW HO
    go_wp2_with fail
    generalize w1.setCell ⟨w.heap.size, 0, none⟩ (.slice B1 n c1) = W1 at *
    clear k0 f0 b0 k0'
    refine (find_any m L B1 n c1 id W1 hm HN.out (OwnWords.rd hO' hD') hn8).mono ?_
    rintro e w2 ⟨rfl, hb2⟩
    replace b0 := b0'.step hb2
    replace b1 := b1'.step hb2
    have hO := hO'.step hb2
    have hD := hD'.step hb2
    have hB := hB'.trans (hb2.mono hB'.size)
    have k0 := b0.cell' (i := 0) rfl
    have f0 := b0.frozen
    clear b0' b1' hO' hD' hB' hb2
    rcases hk : kfind L id with _ | i
    · have hki : kidx L id = -1 := by unfold kidx; rw [hk]
      obtain rfl : R = (L, 10) := by rw [HR.out, hk]
      rw [hki]
      have e1 := b1.cell' (i := 0) rfl
      have ef := b1.frozen
      have b2 := blk1_set b1 (.slice B1 n c1)
      have e2 := b2.cell' (i := 0) rfl
      go_wp2_with fail
      refine bodyPost_ret (v := .tuple #[.agg #[.slice B1 n c1], .int .i64 10]) (by simp [results, Try.results30, go_sem, e2]) rfl ?_
      refine ⟨B1, c1, by rw [HN.out], ?_, hB.setCell (p := ⟨w.heap.size + 1, 0, none⟩) (by simp) _⟩
      rw [HN.out]
      exact ⟨m, hm, (hO.setFar (p := ⟨w.heap.size + 1, 0, none⟩) (fun e => by have : w.heap.size + 2 ≤ w.heap.size + 1 := hne _ e; omega) _).mono (by omega), hD.map (fun _ _ _ _ h => (h.setFar (p := ⟨w.heap.size + 1, 0, none⟩) (fun e => by have : W.heap.size ≤ w.heap.size + 1 := (h.lt _ e).1; omega) _).mono (by omega))⟩
    · have hki : kidx L id = (i : Int) := by unfold kidx; rw [hk]
      obtain rfl : R = (L.eraseIdx i, 0) := by rw [HR.out, hk]
      have hiL : i < n := by
        rw [← HN.out]
        unfold kfind at hk
        exact (List.findIdx?_eq_some_iff_getElem.1 hk).1
      rw [hki]
      clear hki hk
      obtain ⟨j, rfl⟩ : ∃ j, n = i + j + 1 := ⟨n - i - 1, by omega⟩
      obtain ⟨g, o, rfl, hg1, hg2⟩ := hO.form (by have := hO.le; omega)
      have hml : m.length = i + j + 1 := by have := congrArg List.length hm; rw [← HN.out]; simpa using this
      have CD := Lib.hid (delete_any W.heap.size m g o i j c1 w2 hO hml hn8)
      have hip : (0 : Int) ≤ (i : Int) := by omega
      have hwr : IntKind.i64.wrap ((i : Int) + 1) = (i : Int) + 1 := IntWalk.i64_in _ (by omega)
      clear hne hml
      go_wp2_with fail
      refine (CD.out).mono ?_
      rintro e w3 ⟨rfl, hO3, hg3⟩
      have z3 := hg3.size
      replace b0 := b0.over hg3 (fun q hq e => by injection hq with hq; injection e with e; omega)
      replace b1 := b1.over hg3 (fun q hq e => by injection hq with hq; injection e with e; omega)
      have hD3 : OwnWords w3 W.heap.size (m.eraseIdx i) := (hD.erase i).map (fun A n' c xs h => h.over hg3 (fun q hq e => (h.apart hO (by decide)) q e hq))
      have hB3 : Below w.heap.size w w3 := hB.grown hg3 hB.size (fun q hq => by injection hq with hq; omega)
      clear hO hD hB k0 f0
      have s0 := b0.cell' (i := 0) rfl
      have f0 := b0.frozen
      have b0' := blk1_set b0 (.slice (some ⟨g, o, none⟩) (i + j) c1)
      have b1' := b1.far (p := ⟨w.heap.size, 0, none⟩) (by simp) (.slice (some ⟨g, o, none⟩) (i + j) c1)
      have s1 := b0'.cell' (i := 0) rfl
      have e1 := b1'.cell' (i := 0) rfl
      have ef := b1'.frozen
      have b2 := blk1_set b1' (.slice (some ⟨g, o, none⟩) (i + j) c1)
      have e2 := b2.cell' (i := 0) rfl
      go_wp2_with fail
      refine bodyPost_ret (v := .tuple #[.agg #[.slice (some ⟨g, o, none⟩) (i + j) c1], .int .i64 0]) (by simp [results, Try.results30, go_sem, e2]) rfl ?_
      have hle : (L.eraseIdx i).length = i + j := by rw [List.length_eraseIdx_of_lt (by rw [HN.out]; omega), HN.out]; omega
      refine ⟨some ⟨g, o, none⟩, c1, by rw [hle], ?_, (hB3.setCell (p := ⟨w.heap.size, 0, none⟩) (Nat.le_refl _) _).setCell (p := ⟨w.heap.size + 1, 0, none⟩) (by simp) _⟩
      rw [hle]
      refine ⟨m.eraseIdx i, by rw [map_erase, hm], ?_, ?_⟩
      · exact ((hO3.setFar (p := ⟨w.heap.size, 0, none⟩) (fun e => by have : W.heap.size ≤ w.heap.size := (hO3.lt _ e).1; omega) _).setFar (p := ⟨w.heap.size + 1, 0, none⟩) (fun e => by have : W.heap.size ≤ w.heap.size + 1 := (hO3.lt _ e).1; omega) _).mono (by omega)
      · exact hD3.map (fun _ _ _ _ h => ((h.setFar (p := ⟨w.heap.size, 0, none⟩) (fun e => by have : W.heap.size ≤ w.heap.size := (h.lt _ e).1; omega) _).setFar (p := ⟨w.heap.size + 1, 0, none⟩) (fun e => by have : W.heap.size ≤ w.heap.size + 1 := (h.lt _ e).1; omega) _).mono (by omega))
  · obtain rfl : R = ([], 11) := by rw [hR]; exact if_neg hok
    have HO : Hid (ownR L = ([], false)) := Lib.hid (if_neg hok)
    clear hR hok
    go_enter Try.func30, Try.ntmps30
    go_wp2_with fail
    generalize (w.alloc (.cells #[.slice B n d] 44)).alloc (.cells #[.slice none 0 0] 44) = W at *
    refine (HW.out W (HRd.out.step hB0)).mono ?_
    intro e w1 h1
    rw [HO.out] at h1
    obtain ⟨B1, c1, rfl, ⟨m, hm, hO, hD⟩, hb⟩ := h1
    dsimp only [List.length_nil] at hO ⊢
    have hmn : m = [] := by simpa using hm
    subst hmn
    replace b0 := b0.step hb
    replace b1 := b1.step hb
    have z1 := hb.size
    replace hB0 := hB0.trans (hb.mono hB0.size)
    have k0 := b0.cell' (i := 0) rfl
    have f0 := b0.frozen
    have b0' := blk1_set b0 (.slice B1 0 c1)
    have b1' := b1.far (p := ⟨w.heap.size, 0, none⟩) (by simp) (.slice B1 0 c1)
    have k0' := b0'.cell' (i := 0) rfl
    have e1 := b1'.cell' (i := 0) rfl
    have ef := b1'.frozen
    have b2 := blk1_set b1' (.slice B1 0 c1)
    have e2 := b2.cell' (i := 0) rfl
    go_wp2_with fail
    refine bodyPost_ret (v := .tuple #[.agg #[.slice B1 0 c1], .int .i64 11]) (by simp [results, Try.results30, go_sem, e2]) rfl ?_
    refine ⟨B1, c1, rfl, ⟨[], rfl, ?_, OwnWords.nil _ _⟩, (hB0.setCell (p := ⟨w.heap.size, 0, none⟩) (Nat.le_refl _) _).setCell (p := ⟨w.heap.size + 1, 0, none⟩) (by simp) _⟩
    exact ((hO.setFar (p := ⟨w.heap.size, 0, none⟩) (fun e => by have : W.heap.size ≤ w.heap.size := (hO.lt _ e).1; omega) _).setFar (p := ⟨w.heap.size + 1, 0, none⟩) (fun e => by have : W.heap.size ≤ w.heap.size + 1 := (hO.lt _ e).1; omega) _).mono (by omega)
end Go.Proofs.Ytkbaganbfcbioaa
