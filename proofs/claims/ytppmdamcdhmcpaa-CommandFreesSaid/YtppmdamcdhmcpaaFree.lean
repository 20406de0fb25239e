/-
  command.Free: any hand goes on.
-/
import Derived.Test.YtppmdamcdhmcpaaWithFree
import Derived.Test.YtppmdamcdhmcpaaWithNo
import Derived.Test.YtppmdamcdhmcpaaFreeDo
namespace Go.Proofs.Ytppmdamcdhmcpaa
set_option linter.unusedSimpArgs false
set_option linter.unusedVariables false
open Go.RowKit

theorem withFree_all (h : Hnd) (S : Option Addr) (n1 c : Nat) (A : Option Addr) (n2 d : Nat) (w : World) (hS : RdRows w S h.sent) (hA : RdRows w A h.asked) (hn1 : h.sent.length = n1) (hn2 : h.asked.length = n2) (f1 : RowsFit h.sent n1) (f2 : RowsFit h.asked n2)
    (H : Hnd) (m1 m2 : Nat) (rows : List (List UInt8)) (nR : Nat) (err : Int) (hR : freeR h = (H, rows, err)) (hm1 : H.sent.length = m1) (hm2 : H.asked.length = m2) (hnR : rows.length = nR) :
    Calls Try.prog 21 #[hvn h S n1 c A n2 d, .func (.func 29) #[] #[]] w fun e w' => HandOut w w' H m1 m2 rows nR err e := by
  by_cases hok : handOk h
  · have hR' : freeS h = (H, rows, err) := by unfold freeR at hR; rw [if_pos hok] at hR; exact hR
    refine with_Free h S n1 c A n2 d w hS hA hn1 hn2 f1 f2 H m1 m2 rows nR err hok ?_
    intro W p ck dk base Sk Ak sl al hB hba hbp hp hsl hal hOs hOa hdj
    exact free1_any h n1 n2 p ck dk base Sk Ak sl al W hp hbp hsl hal hOs hOa hdj H m1 m2 rows nR err hR' hm1 hm2 hnR
  · obtain ⟨rfl, rfl, rfl⟩ : H = Hnd.zero ∧ rows = [] ∧ err = 11 := by unfold freeR at hR; rw [if_neg hok] at hR; simp only [Prod.mk.injEq] at hR; exact ⟨hR.1.symm, hR.2.1.symm, hR.2.2.symm⟩
    obtain rfl : m1 = 0 := by rw [← hm1]; rfl
    obtain rfl : m2 = 0 := by rw [← hm2]; rfl
    obtain rfl : nR = 0 := by rw [← hnR]; rfl
    exact with_no _ h S n1 c A n2 d w hS hA hn1 hn2 f1 f2 hok

set_option maxHeartbeats 12800000 in
set_option maxRecDepth 100000 in
theorem pfree_any (h : Hnd) (S : Option Addr) (n1 c : Nat) (A : Option Addr) (n2 d : Nat) (w : World) (hS : RdRows w S h.sent) (hA : RdRows w A h.asked) (hn1 : h.sent.length = n1) (hn2 : h.asked.length = n2) (f1 : RowsFit h.sent n1) (f2 : RowsFit h.asked n2)
    (H : Hnd) (m1 m2 : Nat) (rows : List (List UInt8)) (nR : Nat) (err : Int) (hR : freeR h = (H, rows, err)) (hm1 : H.sent.length = m1) (hm2 : H.asked.length = m2) (hnR : rows.length = nR) :
    Calls Try.prog 16 #[hvn h S n1 c A n2 d] w fun e w' => HandOut w w' H m1 m2 rows nR err e := by
  have CW := Lib.hid (fun w (hS : RdRows w S h.sent) (hA : RdRows w A h.asked) => withFree_all h S n1 c A n2 d w hS hA hn1 hn2 f1 f2 H m1 m2 rows nR err hR hm1 hm2 hnR)
  have HS := Lib.hid hS
  have HA := Lib.hid hA
  clear hS hA hn1 hn2 f1 f2 hR hm1 hm2 hnR
  unfold hvn at CW ⊢
  have b1 := (Blk.new w 25 #[.int .i64 h.craft, .int .i64 h.next, .int .i64 h.ahead, .slice S n1 c, .slice A n2 d, .int .i64 h.timer, .int .i64 h.patience, .int .i64 h.tries, .int .i64 h.limit, .int .i64 h.since, .int .i64 h.pause, .int .i64 h.halt]).alloc (.cells #[.int .i64 0, .int .i64 0, .int .i64 0, .slice none 0 0, .slice none 0 0, .int .i64 0, .int .i64 0, .int .i64 0, .int .i64 0, .int .i64 0, .int .i64 0, .int .i64 0] 25)
  have b2 := Blk.new (w.alloc (.cells #[.int .i64 h.craft, .int .i64 h.next, .int .i64 h.ahead, .slice S n1 c, .slice A n2 d, .int .i64 h.timer, .int .i64 h.patience, .int .i64 h.tries, .int .i64 h.limit, .int .i64 h.since, .int .i64 h.pause, .int .i64 h.halt] 25)) 25 #[.int .i64 0, .int .i64 0, .int .i64 0, .slice none 0 0, .slice none 0 0, .int .i64 0, .int .i64 0, .int .i64 0, .int .i64 0, .int .i64 0, .int .i64 0, .int .i64 0]
  rw [show (w.alloc (.cells #[.int .i64 h.craft, .int .i64 h.next, .int .i64 h.ahead, .slice S n1 c, .slice A n2 d, .int .i64 h.timer, .int .i64 h.patience, .int .i64 h.tries, .int .i64 h.limit, .int .i64 h.since, .int .i64 h.pause, .int .i64 h.halt] 25)).heap.size = w.heap.size + 1 by simp] at b2
  have hB : Below w.heap.size w ((w.alloc (.cells #[.int .i64 h.craft, .int .i64 h.next, .int .i64 h.ahead, .slice S n1 c, .slice A n2 d, .int .i64 h.timer, .int .i64 h.patience, .int .i64 h.tries, .int .i64 h.limit, .int .i64 h.since, .int .i64 h.pause, .int .i64 h.halt] 25)).alloc (.cells #[.int .i64 0, .int .i64 0, .int .i64 0, .slice none 0 0, .slice none 0 0, .int .i64 0, .int .i64 0, .int .i64 0, .int .i64 0, .int .i64 0, .int .i64 0, .int .i64 0] 25)) := ((Below.refl _ _).alloc (Nat.le_refl _) _).alloc (by simp) _
  have s0 : ((w.alloc (.cells #[.int .i64 h.craft, .int .i64 h.next, .int .i64 h.ahead, .slice S n1 c, .slice A n2 d, .int .i64 h.timer, .int .i64 h.patience, .int .i64 h.tries, .int .i64 h.limit, .int .i64 h.since, .int .i64 h.pause, .int .i64 h.halt] 25)).alloc (.cells #[.int .i64 0, .int .i64 0, .int .i64 0, .slice none 0 0, .slice none 0 0, .int .i64 0, .int .i64 0, .int .i64 0, .int .i64 0, .int .i64 0, .int .i64 0, .int .i64 0] 25)).heap.size = w.heap.size + 2 := by simp
  go_enter Try.func16, Try.ntmps16
  go_wp2_with (refine wpList_load_row rfl 25 (.tmp 1) rfl (w.heap.size) rfl 25 #[.int .i64 h.craft, .int .i64 h.next, .int .i64 h.ahead, .slice S n1 c, .slice A n2 d, .int .i64 h.timer, .int .i64 h.patience, .int .i64 h.tries, .int .i64 h.limit, .int .i64 h.since, .int .i64 h.pause, .int .i64 h.halt] (0, 0) _ b1 Try.underlying25 rfl handsz ?_)
  generalize ((w.alloc (.cells #[.int .i64 h.craft, .int .i64 h.next, .int .i64 h.ahead, .slice S n1 c, .slice A n2 d, .int .i64 h.timer, .int .i64 h.patience, .int .i64 h.tries, .int .i64 h.limit, .int .i64 h.since, .int .i64 h.pause, .int .i64 h.halt] 25)).alloc (.cells #[.int .i64 0, .int .i64 0, .int .i64 0, .slice none 0 0, .slice none 0 0, .int .i64 0, .int .i64 0, .int .i64 0, .int .i64 0, .int .i64 0, .int .i64 0, .int .i64 0] 25)) = W0 at *
  refine (CW.out W0 (HS.out.below hB) (HA.out.below hB)).mono ?_
  rintro e w1 ⟨S9, c9, A9, d9, R9, cR9, sl9, al9, rl9, rfl, ⟨h91, h92, h93⟩, hO9s, hO9a, hO9r, dj1, dj2, dj3, hb⟩
  have H91 := Lib.hid h91
  have H92 := Lib.hid h92
  have H93 := Lib.hid h93
  have D1 := Lib.hid dj1
  have D2 := Lib.hid dj2
  have D3 := Lib.hid dj3
  clear CW h91 h92 h93 dj1 dj2 dj3
  have s1 := hb.size
  replace b2 := b2.step hb
  replace hB := hB.trans (hb.mono hB.size)
  clear hb
  unfold hvn
  go_wp2_with (first
    | (refine wpList_store_row rfl 25 (.tmp 2) (.tmp 7) rfl (w.heap.size + 1) #[.int .i64 H.craft, .int .i64 H.next, .int .i64 H.ahead, .slice S9 m1 c9, .slice A9 m2 d9, .int .i64 H.timer, .int .i64 H.patience, .int .i64 H.tries, .int .i64 H.limit, .int .i64 H.since, .int .i64 H.pause, .int .i64 H.halt] rfl rfl 25 _ b2 handsz rfl (hand_one H S9 m1 c9 A9 m2 d9) ?_))
  have b2' := b2.row #[.int .i64 H.craft, .int .i64 H.next, .int .i64 H.ahead, .slice S9 m1 c9, .slice A9 m2 d9, .int .i64 H.timer, .int .i64 H.patience, .int .i64 H.tries, .int .i64 H.limit, .int .i64 H.since, .int .i64 H.pause, .int .i64 H.halt]
  refine bodyPost_ret (v := .tuple #[.agg #[.int .i64 H.craft, .int .i64 H.next, .int .i64 H.ahead, .slice S9 m1 c9, .slice A9 m2 d9, .int .i64 H.timer, .int .i64 H.patience, .int .i64 H.tries, .int .i64 H.limit, .int .i64 H.since, .int .i64 H.pause, .int .i64 H.halt], .slice R9 nR cR9, .int .i64 err]) (results_cell_slot2 (ty := 25) Try.results16 _ _ (w.heap.size + 1) 25 _ (0, 0) _ rfl rfl rfl b2' Try.underlying25 rfl handsz) rfl ?_
  exact ⟨S9, c9, A9, d9, R9, cR9, sl9, al9, rl9, rfl, ⟨H91.out, H92.out, H93.out⟩, (hO9s.lowRow (by omega) _).mono (by omega), (hO9a.lowRow (by omega) _).mono (by omega), (hO9r.lowRow (by omega) _).mono (by omega), D1.out, D2.out, D3.out, below_row hB (by omega) _⟩
end Go.Proofs.Ytppmdamcdhmcpaa
