/-
  keys.find: which key of a ring has an id (slices.IndexFunc over a func that has caught the id).
-/
import Derived.Test.YtkbaganbfcbioaaRingW
namespace Go.Proofs.Ytkbaganbfcbioaa
set_option linter.unusedSimpArgs false
set_option linter.unusedVariables false
open Go.RowKit

def kidx (L : List Ky) (id : Int) : Int := match kfind L id with | some i => (i : Int) | none => -1
theorem find1_any (k : Ky) (A : Option Addr) (c : Nat) (p : Nat) (id : Int) (w : World) (hp : w.cell? ⟨p, 0, none⟩ = some (.int .i64 id)) :
    Calls Try.prog 69 #[kyv k A c, .pointer (some ⟨p, 0, none⟩)] w fun e w' => e = .returned (.bool (k.id == id)) ∧ Below w.heap.size w w' := by
  obtain ⟨kid, words, top, seen⟩ := k
  unfold kyv
  dsimp only
  have hlt := World.block_lt_of_cell? _ _ hp
  have hp2 : ∀ o, (w.alloc o).cell? ⟨p, 0, none⟩ = some (.int .i64 id) := fun o => (((Below.refl w.heap.size w).alloc (Nat.le_refl _) o).cell (p := ⟨p, 0, none⟩) hlt).trans hp
  go_enter Try.func69, Try.ntmps69
  go_wp2
  go_ret
  exact ⟨rfl, (by repeat (first | with_reducible exact Below.refl _ _ | with_reducible assumption | with_reducible refine below_drewN ?_ _ | with_reducible refine Below.drew ?_ | with_reducible refine Below.alloc ?_ ?_ _ | with_reducible refine Below.setCell ?_ ?_ _ | with_reducible exact Nat.le_refl _ | (simp; omega) | (simp; done)))⟩

set_option maxHeartbeats 3200000 in
set_option maxRecDepth 100000 in
theorem indexK_any (l : List KyR) (L : List Ky) (B : Option Addr) (n d : Nat) (p : Nat) (id : Int) (w : World) (hl : l.map KyR.k = L) (hn : L.length = n) (h : RdRing w B l) (hp : w.cell? ⟨p, 0, none⟩ = some (.int .i64 id)) (hnn : n ≤ 8) :
    Calls Try.prog 68 #[.slice B n d, .func (.func 69) #[] #[.pointer (some ⟨p, 0, none⟩)]] w fun e w' => e = .returned (.int .i64 (kidx L id)) ∧ Below w.heap.size w w' := by
  obtain ⟨r, hr⟩ : ∃ r, r = kidx L id := ⟨_, rfl⟩
  rw [← hr]
  have HR := Lib.hid hr
  have HN := Lib.hid hn
  have HRd := Lib.hid h
  have HP := Lib.hid hp
  have hlt := World.block_lt_of_cell? _ _ hp
  clear hr hn h hp
  go_enter Try.func68, Try.ntmps68
  go_wp2_with fail
  go_loopw [8] (fun iv wr => ∃ i : Nat, i ≤ n ∧ iv = .int .i64 (i : Int) ∧ Below w.heap.size w wr ∧ Hid (∀ a y, a < i → L[a]? = some y → y.id ≠ id)) (fun iv _ => n - (intOf iv).toNat)
  case atStart => exact ⟨0, Nat.zero_le _, rfl, Below.refl _ _, Lib.hid (fun a y h => by omega)⟩
  case round =>
    obtain ⟨i, hi, rfl, hB, HF⟩ := hrel
    by_cases h5 : i < n
    · have h5i : (i : Int) < (n : Int) := by omega
      have hip : (0 : Int) ≤ (i : Int) := by omega
      have hiL : i < L.length := by rw [HN.out]; exact h5
      obtain ⟨xA, xd, hx⟩ := ky_at hl hiL
      have HLi := Lib.hid (List.getElem?_eq_getElem hiL)
      have hRw := HRd.out.below hB
      generalize L[i] = kx at *
      obtain ⟨id2, words, top, seen⟩ := kx
      obtain ⟨g, o, rfl, x0, x1, x2, x3⟩ := hRw.cells hx
      dsimp only at x0 x1 x2 x3
      have CF := Lib.hid (find1_any ⟨id2, words, top, seen⟩ xA xd p id wr ((hB.cell (p := ⟨p, 0, none⟩) hlt).trans HP.out))
      unfold kyv at CF
      dsimp only at CF
      by_cases he : id2 = id
      · have heb : (id2 == id) = true := by simpa using he
        rw [heb] at CF
        obtain rfl : r = (i : Int) := by
          rw [HR.out]
          unfold kidx
          rw [kfind_some HLi.out he HF.out]
        clear he heb
        go_wp2_with (go_at_call 69; refine (CF.out).mono ?_; rintro e w1 ⟨rfl, hb1⟩)
        go_ret
        exact ⟨rfl, hB.trans (hb1.mono hB.size)⟩
      · have heb : (id2 == id) = false := by simpa using he
        rw [heb] at CF
        have HF2 : Hid (∀ a y, a < i + 1 → L[a]? = some y → y.id ≠ id) := Lib.hid (fun a y ha hay => by
          rcases Nat.lt_or_ge a i with h | h
          · exact HF.out a y h hay
          · obtain rfl : a = i := by omega
            rw [HLi.out] at hay
            injection hay with hay
            subst hay
            exact he)
        clear he heb
        go_wp2_with (go_at_call 69; refine (CF.out).mono ?_; rintro e w1 ⟨rfl, hb1⟩)
        go_roundw
        case rel => exact ⟨i + 1, by omega, by go_num, hB.trans (hb1.mono hB.size), HF2⟩
        case measure => simp [intOf]; omega
    · obtain rfl : i = n := by omega
      have h5i : ¬ (i : Int) < (i : Int) := by omega
      obtain rfl : r = -1 := by
        rw [HR.out]
        unfold kidx
        rw [kfind_none (fun a y hay => HF.out a y (by have := (List.getElem?_eq_some_iff.1 hay).1; rw [HN.out] at this; exact this) hay)]
      go_wp2_with fail
      go_ret
      exact ⟨rfl, hB⟩
set_option maxHeartbeats 3200000 in
set_option maxRecDepth 100000 in
theorem find_any (l : List KyR) (L : List Ky) (B : Option Addr) (n d : Nat) (id : Int) (w : World) (hl : l.map KyR.k = L) (hn : L.length = n) (h : RdRing w B l) (hnn : n ≤ 8) :
    Calls Try.prog 48 #[.agg #[.slice B n d], .int .i64 id] w fun e w' => e = .returned (.int .i64 (kidx L id)) ∧ Below w.heap.size w w' := by
  obtain ⟨b0, b1, hB0, hz0⟩ := box2 w #[.slice B n d] #[.int .i64 id] 44 3
  have HI := Lib.hid (indexK_any l L B n d (w.heap.size + 1) id _ hl hn (h.step hB0) (b1.cell' (i := 0) rfl) hnn)
  go_enter Try.func48, Try.ntmps48
  go_wp2_with fail
  refine (HI.out).mono ?_
  rintro e w1 ⟨rfl, hb1⟩
  go_wp2_with fail
  go_ret
  exact ⟨rfl, hB0.trans (hb1.mono hB0.size)⟩
end Go.Proofs.Ytkbaganbfcbioaa
