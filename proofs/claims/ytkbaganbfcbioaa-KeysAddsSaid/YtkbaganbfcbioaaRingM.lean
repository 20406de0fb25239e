/-
  The document's RingMay.
-/
import Derived.Test.YtkbaganbfcbioaaRingP
import Derived.Test.YtkbaganbfcbioaaKeyMay
namespace Go.Proofs.Ytkbaganbfcbioaa
set_option linter.unusedSimpArgs false
set_option linter.unusedVariables false
open Go.RowKit

set_option maxHeartbeats 6400000 in
set_option maxRecDepth 100000 in
theorem rringMay_any (l : List KyR) (L : List Ky) (B : Option Addr) (n d : Nat) (w : World) (hl : l.map KyR.k = L) (hn : L.length = n) (h : RdRing w B l) (hf : RingFits L) :
    Calls Try.prog 44 #[.agg #[.slice B n d]] w fun e w' => e = .returned (.bool (decide (ringOk L))) ∧ Below w.heap.size w w' := by
  obtain ⟨r, hr⟩ : ∃ r, r = decide (ringOk L) := ⟨_, rfl⟩
  rw [← hr]
  have HR := Lib.hid hr
  have HN := Lib.hid hn
  have HI := Lib.hid (@ringOk_iff L)
  by_cases h8 : 8 < n
  · have h8i : (8 : Int) < (n : Int) := by omega
    obtain rfl : r = false := by rw [hr]; exact decide_eq_false (fun k => by have := (ringOk_iff.1 k).1; omega)
    clear hr hl hn h
    go_enter Try.func44, Try.ntmps44
    go_wp2
    go_ret
    exact ⟨rfl, (by repeat (first | with_reducible exact Below.refl _ _ | with_reducible assumption | with_reducible refine below_drewN ?_ _ | with_reducible refine Below.drew ?_ | with_reducible refine Below.alloc ?_ ?_ _ | with_reducible refine Below.setCell ?_ ?_ _ | with_reducible exact Nat.le_refl _ | (simp; omega) | (simp; done)))⟩
  have h8i : ¬ (8 : Int) < (n : Int) := by omega
  have HRd := Lib.hid h
  clear hr h hn
  go_enter Try.func44, Try.ntmps44
  go_wp2_with fail
  go_loopw [3] (fun iv wr => ∃ i : Nat, i ≤ n ∧ iv = .int .i64 (i : Int) ∧ Below w.heap.size w wr ∧ Blk wr w.heap.size 44 #[.slice B n d] ∧ Hid (okTo L i)) (fun iv _ => n - (intOf iv).toNat)
  case atStart => exact ⟨0, Nat.zero_le _, rfl, (by repeat (first | with_reducible exact Below.refl _ _ | with_reducible assumption | with_reducible refine below_drewN ?_ _ | with_reducible refine Below.drew ?_ | with_reducible refine Below.alloc ?_ ?_ _ | with_reducible refine Below.setCell ?_ ?_ _ | with_reducible exact Nat.le_refl _ | (simp; omega) | (simp; done))), Blk.new _ _ _, Lib.hid (okTo_zero L)⟩
  case round =>
    obtain ⟨i, hi, rfl, hB, hK, HO⟩ := hrel
    have k0 := hK.cell' (i := 0) rfl
    by_cases h5 : i < n
    · have h5i : (i : Int) < (n : Int) := by omega
      have hi0 : (0 : Int) ≤ (i : Int) := by omega
      have hiL : i < L.length := by rw [HN.out]; exact h5
      obtain ⟨xA, xd, hx⟩ := ky_at hl hiL
      have HLi := Lib.hid (List.getElem?_eq_getElem hiL)
      have hff := (hf _ (List.getElem_mem hiL)).1
      have hRw := HRd.out.below hB
      have hxw : Rd wr xA (ivs L[i].words) := (HRd.out.2 i _ hx).below hB
      generalize L[i] = kx at *
      obtain ⟨id, words, top, seen⟩ := kx
      obtain ⟨g, o, rfl, x0, x1, x2, x3⟩ := hRw.cells hx
      dsimp only at x0 x1 x2 x3 hxw hff
      have CK := Lib.hid (rkeyMay_any ⟨id, words, top, seen⟩ xA xd wr hxw hff.1 hff.2)
      unfold kyv at CK
      dsimp only at CK
      generalize words.length = m at *
      by_cases hk : keyOk ⟨id, words, top, seen⟩
      · have hkd : decide (keyOk ⟨id, words, top, seen⟩) = true := decide_eq_true hk
        rw [hkd] at CK
        have Hk := Lib.hid hk
        clear hkd hk
        go_wp2_with fail
        refine (CK.out).mono ?_
        rintro e w1 ⟨rfl, hb1⟩
        replace hB := hB.trans (hb1.mono hB.size)
        replace hK := hK.step hb1
        clear CK x0 x1 x2 x3 k0 hRw hxw hff hb1
        go_wp2_with fail
        go_loopw [4] (fun jv wr => ∃ j : Nat, j ≤ i ∧ jv = .int .i64 (j : Int) ∧ Below w.heap.size w wr ∧ Blk wr w.heap.size 44 #[.slice (some ⟨g, o, none⟩) n d] ∧ Hid (∀ a y, a < j → L[a]? = some y → id ≠ y.id)) (fun jv _ => i - (intOf jv).toNat)
        case atStart => exact ⟨0, Nat.zero_le _, rfl, hB, hK, Lib.hid (fun a y h => by omega)⟩
        case round =>
          clear hB hK
          obtain ⟨j, hj, rfl, hB, hK, HJ⟩ := hrel
          have k0 := hK.cell' (i := 0) rfl
          by_cases h6 : j < i
          · have h6i : (j : Int) < (i : Int) := by omega
            have h6n : (j : Int) < (n : Int) := by omega
            have hj0 : (0 : Int) ≤ (j : Int) := by omega
            have hjL : j < L.length := by rw [HN.out]; omega
            obtain ⟨yA, yd, hy⟩ := ky_at hl hjL
            have HLj := Lib.hid (List.getElem?_eq_getElem hjL)
            have hRw := HRd.out.below hB
            generalize L[j] = ky at *
            obtain ⟨id2, words2, top2, seen2⟩ := ky
            obtain ⟨g', o', hgo, x0, _, _, _⟩ := hRw.cells hx
            obtain ⟨rfl, rfl⟩ : g' = g ∧ o' = o := by injection hgo with hgo; injection hgo with e1 e2; exact ⟨e1.symm, e2.symm⟩
            obtain ⟨g'', o'', hgo2, y0, _, _, _⟩ := hRw.cells hy
            obtain ⟨rfl, rfl⟩ : g'' = g' ∧ o'' = o' := by injection hgo2 with hgo2; injection hgo2 with e1 e2; exact ⟨e1.symm, e2.symm⟩
            dsimp only at x0 y0
            clear hgo hgo2
            by_cases he : id = id2
            · subst he
              obtain rfl : r = false := by
                rw [HR.out]
                refine decide_eq_false (fun k => ?_)
                have := (HI.out.1 k).2.2 j i _ _ h6 hiL HLj.out HLi.out
                exact this rfl
              go_wp2_with fail
              go_quiet (fail)
              go_wp2_with fail
              go_ret
              exact ⟨rfl, below_drewN hB _⟩
            · have heb : (id == id2) = false := by simpa using he
              have HJ2 : Hid (∀ a y, a < j + 1 → L[a]? = some y → id ≠ y.id) := Lib.hid (fun a y ha hay => by
                rcases Nat.lt_or_ge a j with h | h
                · exact HJ.out a y h hay
                · obtain rfl : a = j := by omega
                  rw [HLj.out] at hay
                  injection hay with hay
                  subst hay
                  exact he)
              go_wp2_with fail
              go_quiet (fail)
              go_wp2_with fail
              go_roundw
              case rel => exact ⟨j + 1, by omega, by go_num, below_drewN hB _, hK.drewN _, HJ2⟩
              case measure => simp [intOf]; omega
          · obtain rfl : j = i := by omega
            have HO2 := Lib.hid (okTo_succ HO.out HLi.out Hk.out HJ.out)
            go_wp2_with fail
            go_roundw
            case rel => exact ⟨j + 1, by omega, by go_num, hB, hK, HO2⟩
            case measure => simp [intOf]; omega
      · have hkd : decide (keyOk ⟨id, words, top, seen⟩) = false := decide_eq_false hk
        rw [hkd] at CK
        obtain rfl : r = false := by
          rw [HR.out]
          exact decide_eq_false (fun k => hk ((HI.out.1 k).2.1 i _ hiL HLi.out))
        clear hkd hk
        go_wp2_with fail
        refine (CK.out).mono ?_
        rintro e w1 ⟨rfl, hb1⟩
        go_wp2_with fail
        go_ret
        exact ⟨rfl, hB.trans (hb1.mono hB.size)⟩
    · have h5i : ¬ (i : Int) < (n : Int) := by omega
      obtain rfl : r = true := by
        rw [HR.out]
        refine decide_eq_true (HI.out.2 ⟨by have := HN.out; omega, ?_⟩)
        rw [HN.out]
        obtain rfl : i = n := by omega
        exact HO.out
      go_wp2_with fail
      go_ret
      exact ⟨rfl, hB⟩
end Go.Proofs.Ytkbaganbfcbioaa
