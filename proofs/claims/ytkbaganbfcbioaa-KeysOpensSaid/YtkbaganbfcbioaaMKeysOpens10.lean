/-
  sameKey of two keys that read the same. sameRing of two rings that read the same.
-/
import Derived.Test.YtkbaganbfcbioaaMKeysOpens3
import Derived.Test.YtkbaganbfcbioaaMKeysOpens1
import Derived.Test.YtkbaganbfcbioaaMKeysOpens5
import Derived.Test.YtkbaganbfcbioaaMKeysOpens9
import Derived.StillTail
import Derived.StillTactics
import Derived.StillTailTactics
namespace Go.Proofs.Ytkbaganbfcbioaa
set_option linter.unusedSimpArgs false
set_option linter.unusedVariables false
open Go.RowKit

set_option maxHeartbeats 1600000 in
set_option maxRecDepth 100000 in
theorem sameInts_yes (A B : Option Addr) (l : List Int) (m n c d : Nat) (w : World) (hm : l.length = m) (hn : l.length = n) (hz : l.length ≤ 140737488351300) (ha : Rd w A (ivs l)) (hb : Rd w B (ivs l)) :
    Calls Try.prog 19 #[.slice A m c, .slice B n d] w fun e w' => e = .returned (.bool true) ∧ ∃ k, w' = w.drewN k := by
  subst hm
  subst hn
  go_enter Try.func19, Try.ntmps19
  go_wp2_with fail
  go_loopw [5] (fun i wr => ∃ k m : Nat, k ≤ l.length ∧ i = .int .i64 k ∧ wr = w.drewN m) (fun i _ => l.length - (intOf i).toNat)
  case atStart => exact ⟨0, 0, by omega, by simp, rfl⟩
  case round =>
    obtain ⟨k, m, hk, rfl, rfl⟩ := hrel
    by_cases h5 : k < l.length
    · obtain ⟨b1, o1, rfl, hc1⟩ := ha.int h5
      obtain ⟨b2, o2, rfl, hc2⟩ := hb.int h5
      generalize l[k] = x at *
      go_wp2
      go_quiet (fail)
      go_wp2
      go_roundw
      case rel => exact ⟨k + 1, _, by omega, by go_num, rfl⟩
      case measure => simp [intOf]; omega
    · go_wp2
      go_ret
      exact ⟨rfl, _, rfl⟩
end Go.Proofs.Ytkbaganbfcbioaa
namespace Go.Proofs.Ytkbaganbfcbioaa
set_option linter.unusedSimpArgs false
set_option linter.unusedVariables false
open Go.RowKit

set_option maxHeartbeats 1600000 in
set_option maxRecDepth 100000 in
theorem sameKey_yes (x : Ky) (A B : Option Addr) (c d : Nat) (w : World) (hn : x.words.length ≤ 17592186044400) (ha : Rd w A (ivs x.words)) (hb : Rd w B (ivs x.words)) :
    Calls Try.prog 24 #[kyv x A c, kyv x B d] w fun e w' => e = .returned (.bool true) ∧ Below w.heap.size w w' := by
  obtain ⟨id, words, top, seen⟩ := x
  unfold kyv
  dsimp only at hn ha hb ⊢
  have HS := Lib.hid (fun (w : World) (ha : Rd w A (ivs words)) (hb : Rd w B (ivs words)) => sameInts_yes A B words words.length words.length c d w rfl rfl (by omega) ha hb)
  have haB : ∀ t1 cs1 t2 cs2, Rd ((w.alloc (.cells cs1 t1)).alloc (.cells cs2 t2)) A (ivs words) := fun t1 cs1 t2 cs2 => (ha.alloc _).alloc _
  have hbB : ∀ t1 cs1 t2 cs2, Rd ((w.alloc (.cells cs1 t1)).alloc (.cells cs2 t2)) B (ivs words) := fun t1 cs1 t2 cs2 => (hb.alloc _).alloc _
  have HB : ∀ t1 cs1 t2 cs2, Below w.heap.size w ((w.alloc (.cells cs1 t1)).alloc (.cells cs2 t2)) := fun t1 cs1 t2 cs2 => (by repeat (first | with_reducible exact Below.refl _ _ | with_reducible assumption | with_reducible refine below_drewN ?_ _ | with_reducible refine Below.drew ?_ | with_reducible refine Below.alloc ?_ ?_ _ | with_reducible refine Below.setCell ?_ ?_ _ | with_reducible exact Nat.le_refl _ | (simp; omega) | (simp; done)))
  generalize words.length = n at *
  clear ha hb
  go_enter Try.func24, Try.ntmps24
  go_wp2_with (go_at_call 19; (with_reducible refine (HS.out _ (haB _ _ _ _) (hbB _ _ _ _)).mono ?_); rintro e w1 ⟨rfl, nq, rfl⟩)
  go_ret
  exact ⟨rfl, below_drewN (HB _ _ _ _) _⟩
end Go.Proofs.Ytkbaganbfcbioaa
namespace Go.Proofs.Ytkbaganbfcbioaa
set_option linter.unusedSimpArgs false
set_option linter.unusedVariables false
open Go.RowKit

set_option maxHeartbeats 3200000 in
set_option maxRecDepth 100000 in
theorem sameRing_yes (l m : List KyR) (L : List Ky) (B C : Option Addr) (n c d : Nat) (w : World) (hl : l.map KyR.k = L) (hm : m.map KyR.k = L) (hn : L.length = n) (h : RdRing w B l) (h' : RdRing w C m) (hf : RingFits L) (hnn : n ≤ 2932031007317) :
    Calls Try.prog 27 #[.agg #[.slice B n c], .agg #[.slice C n d]] w fun e w' => e = .returned (.bool true) ∧ Below w.heap.size w w' := by
  obtain ⟨b0, b1, hB0, hz0⟩ := box2 w #[.slice B n c] #[.slice C n d] 44 44
  have HN := Lib.hid hn
  have HRd := Lib.hid h
  have HRd' := Lib.hid h'
  clear hn h h'
  have k0 := b0.cell' (i := 0) rfl
  have k1 := b1.cell' (i := 0) rfl
  go_enter Try.func27, Try.ntmps27
  go_wp2_with fail
  clear k0 k1
  generalize (w.alloc (.cells #[.slice B n c] 44)).alloc (.cells #[.slice C n d] 44) = W at *
  go_loopw [5] (fun iv wr => ∃ i : Nat, i ≤ n ∧ iv = .int .i64 (i : Int) ∧ Below w.heap.size w wr ∧ Blk wr w.heap.size 44 #[.slice B n c] ∧ Blk wr (w.heap.size + 1) 44 #[.slice C n d]) (fun iv _ => n - (intOf iv).toNat)
  case atStart => exact ⟨0, Nat.zero_le _, rfl, hB0, b0, b1⟩
  case round =>
    clear hB0 b0 b1 hz0
    obtain ⟨i, hi, rfl, hB, b0, b1⟩ := hrel
    have k0 := b0.cell' (i := 0) rfl
    have k1 := b1.cell' (i := 0) rfl
    by_cases h5 : i < n
    · have h5i : (i : Int) < (n : Int) := by omega
      have hip : (0 : Int) ≤ (i : Int) := by omega
      have hiL : i < L.length := by rw [HN.out]; exact h5
      obtain ⟨xA, xd, hx⟩ := ky_at hl hiL
      obtain ⟨yA, yd, hy⟩ := ky_at hm hiL
      have hff := (hf _ (List.getElem_mem hiL)).1
      have hRx := HRd.out.below hB
      have hRy := HRd'.out.below hB
      generalize L[i] = kx at *
      obtain ⟨id, words, top, seen⟩ := kx
      obtain ⟨g, o, rfl, x0, x1, x2, x3⟩ := hRx.cells hx
      obtain ⟨g', o', rfl, y0, y1, y2, y3⟩ := hRy.cells hy
      have hxw := (hRx.2 i _ hx).drew
      have hyw := (hRy.2 i _ hy).drew
      dsimp only at x0 x1 x2 x3 y0 y1 y2 y3 hff hxw hyw
      have CS := Lib.hid (sameKey_yes ⟨id, words, top, seen⟩ xA yA xd yd wr.drew hff.1 hxw hyw)
      unfold kyv at CS
      dsimp only at CS
      generalize words.length = q at *
      clear hRx hRy
      go_wp2_with fail
      go_still_tail 10, (by kernel_rfl)
      go_wp2_with fail
      refine (CS.out).mono ?_
      rintro e w1 ⟨rfl, hb1⟩
      have hb1' : Below wr.heap.size wr w1 := ((Below.refl wr.heap.size wr).drew).trans hb1
      have b0' := b0.step hb1'
      have b1' := b1.step hb1'
      have hB' := hB.trans (hb1'.mono hB.size)
      clear x0 x1 x2 x3 y0 y1 y2 y3 k0 k1 CS hb1 hb1' b0 b1 hB
      go_wp2_with fail
      go_roundw
      case rel => exact ⟨i + 1, by omega, by go_num, hB', b0', b1'⟩
      case measure => simp [intOf]; omega
    · have h5i : ¬ (i : Int) < (n : Int) := by omega
      go_wp2_with fail
      go_ret
      exact ⟨rfl, hB⟩
end Go.Proofs.Ytkbaganbfcbioaa
