/-
  CommandFrees's walk.
-/
import Derived.Test.YtppmdamcdhmcpaaHandAsF
import Derived.Test.YtppmdamcdhmcpaaFree
import Derived.Test.YtppmdamcdhmcpaaFreeR
import Derived.Test.YtppmdamcdhmcpaaAllocRow
import Derived.Test.YtppmdamcdhmcpaaOpenHand
namespace Go.Proofs.Ytppmdamcdhmcpaa
set_option linter.unusedSimpArgs false
set_option linter.unusedVariables false
open Go.RowKit

set_option maxHeartbeats 12800000 in
set_option maxRecDepth 100000 in
theorem commandFrees_go (h : Hnd) (S : Option Addr) (n1 c : Nat) (A : Option Addr) (n2 d : Nat) (w : World) (hS : RdRows w S h.sent) (hA : RdRows w A h.asked) (hn1 : h.sent.length = n1) (hn2 : h.asked.length = n2) (f1 : RowsFit h.sent n1) (f2 : RowsFit h.asked n2) :
    Calls Try.prog 4 #[hvn h S n1 c A n2 d] w fun e w' => e = .returned (.bool true) ∧ Below w.heap.size w w' := by
  obtain ⟨H, rows, err, hR⟩ : ∃ H rows err, freeR h = (H, rows, err) := ⟨_, _, _, rfl⟩
  obtain ⟨f3, f4, f5⟩ := freeR_fits (h := h) (by rw [hn1]; exact f1) (by rw [hn2]; exact f2)
  rw [hR] at f3 f4 f5
  dsimp only at f3 f4 f5
  obtain ⟨m1, hm1⟩ : ∃ m1, H.sent.length = m1 := ⟨_, rfl⟩
  obtain ⟨m2, hm2⟩ : ∃ m2, H.asked.length = m2 := ⟨_, rfl⟩
  obtain ⟨nR, hnR⟩ : ∃ nR, rows.length = nR := ⟨_, rfl⟩
  rw [hm1] at f3
  rw [hm2] at f4
  rw [hnR] at f5
  have CU := Lib.hid (fun (w : World) (hS : RdRows w S h.sent) (hA : RdRows w A h.asked) => rfree_any h S n1 c A n2 d w hS hA hn1 hn2 f1 f2 H m1 m2 rows nR err hR hm1 hm2 hnR)
  have HC := Lib.hid (fun (W : World) (S' A' : Option Addr) (c' d' : Nat) (hS : RdRows W S' h.sent) (hA : RdRows W A' h.asked) => pfree_any h S' n1 c' A' n2 d' W hS hA hn1 hn2 f1 f2 H m1 m2 rows nR err hR hm1 hm2 hnR)
  have HS := Lib.hid hS
  have HA := Lib.hid hA
  have N1 := Lib.hid hn1
  have N2 := Lib.hid hn2
  have M1 := Lib.hid hm1
  have M2 := Lib.hid hm2
  have NR := Lib.hid hnR
  have F1 := Lib.hid f1
  have F2 := Lib.hid f2
  have F3 := Lib.hid f3
  have F4 := Lib.hid f4
  have F5 := Lib.hid f5
  clear hR hS hA hn1 hn2 hm1 hm2 hnR f1 f2 f3 f4 f5
  unfold hvn at CU ⊢
  have b1 := Blk.new w 25 #[.int .i64 h.craft, .int .i64 h.next, .int .i64 h.ahead, .slice S n1 c, .slice A n2 d, .int .i64 h.timer, .int .i64 h.patience, .int .i64 h.tries, .int .i64 h.limit, .int .i64 h.since, .int .i64 h.pause, .int .i64 h.halt]
  have hB : Below w.heap.size w (w.alloc (.cells #[.int .i64 h.craft, .int .i64 h.next, .int .i64 h.ahead, .slice S n1 c, .slice A n2 d, .int .i64 h.timer, .int .i64 h.patience, .int .i64 h.tries, .int .i64 h.limit, .int .i64 h.since, .int .i64 h.pause, .int .i64 h.halt] 25)) := (Below.refl _ _).alloc (Nat.le_refl _) _
  have s0 : (w.alloc (.cells #[.int .i64 h.craft, .int .i64 h.next, .int .i64 h.ahead, .slice S n1 c, .slice A n2 d, .int .i64 h.timer, .int .i64 h.patience, .int .i64 h.tries, .int .i64 h.limit, .int .i64 h.since, .int .i64 h.pause, .int .i64 h.halt] 25)).heap.size = w.heap.size + 1 := by simp
  go_enter Try.func4, Try.ntmps4
  go_wp2_with (refine wpList_load_row rfl 25 (.tmp 1) rfl (w.heap.size) rfl 25 #[.int .i64 h.craft, .int .i64 h.next, .int .i64 h.ahead, .slice S n1 c, .slice A n2 d, .int .i64 h.timer, .int .i64 h.patience, .int .i64 h.tries, .int .i64 h.limit, .int .i64 h.since, .int .i64 h.pause, .int .i64 h.halt] (0, 0) _ b1 Try.underlying25 rfl handsz ?_)
  generalize w.alloc (.cells #[.int .i64 h.craft, .int .i64 h.next, .int .i64 h.ahead, .slice S n1 c, .slice A n2 d, .int .i64 h.timer, .int .i64 h.patience, .int .i64 h.tries, .int .i64 h.limit, .int .i64 h.since, .int .i64 h.pause, .int .i64 h.halt] 25) = W0 at *
  refine (CU.out W0 (HS.out.below hB) (HA.out.below hB)).mono ?_
  rintro e w1 ⟨S9, c9, A9, d9, R9, cR9, sl9, al9, rl9, rfl, ⟨h91, h92, h93⟩, hO9s, hO9a, hO9r, dj1, dj2, dj3, hb⟩
  have H91 := Lib.hid h91
  have H92 := Lib.hid h92
  have H93 := Lib.hid h93
  clear CU h91 h92 h93 dj1 dj2 dj3
  have s1 := hb.size
  replace b1 := b1.step hb
  replace hB := hB.trans (hb.mono hB.size)
  clear hb
  unfold hvn
  have b3 := Blk.new w1 25 #[.int .i64 0, .int .i64 0, .int .i64 0, .slice none 0 0, .slice none 0 0, .int .i64 0, .int .i64 0, .int .i64 0, .int .i64 0, .int .i64 0, .int .i64 0, .int .i64 0]
  have b1' := (b1.alloc (.cells #[.int .i64 0, .int .i64 0, .int .i64 0, .slice none 0 0, .slice none 0 0, .int .i64 0, .int .i64 0, .int .i64 0, .int .i64 0, .int .i64 0, .int .i64 0, .int .i64 0] 25)).farRow (g := w1.heap.size) (by omega) #[.int .i64 H.craft, .int .i64 H.next, .int .i64 H.ahead, .slice S9 m1 c9, .slice A9 m2 d9, .int .i64 H.timer, .int .i64 H.patience, .int .i64 H.tries, .int .i64 H.limit, .int .i64 H.since, .int .i64 H.pause, .int .i64 H.halt]
  have hO9s' := hO9s.allocRow (.cells #[.int .i64 0, .int .i64 0, .int .i64 0, .slice none 0 0, .slice none 0 0, .int .i64 0, .int .i64 0, .int .i64 0, .int .i64 0, .int .i64 0, .int .i64 0, .int .i64 0] 25) #[.int .i64 H.craft, .int .i64 H.next, .int .i64 H.ahead, .slice S9 m1 c9, .slice A9 m2 d9, .int .i64 H.timer, .int .i64 H.patience, .int .i64 H.tries, .int .i64 H.limit, .int .i64 H.since, .int .i64 H.pause, .int .i64 H.halt]
  have hO9a' := hO9a.allocRow (.cells #[.int .i64 0, .int .i64 0, .int .i64 0, .slice none 0 0, .slice none 0 0, .int .i64 0, .int .i64 0, .int .i64 0, .int .i64 0, .int .i64 0, .int .i64 0, .int .i64 0] 25) #[.int .i64 H.craft, .int .i64 H.next, .int .i64 H.ahead, .slice S9 m1 c9, .slice A9 m2 d9, .int .i64 H.timer, .int .i64 H.patience, .int .i64 H.tries, .int .i64 H.limit, .int .i64 H.since, .int .i64 H.pause, .int .i64 H.halt]
  have hO9r' := hO9r.allocRow (.cells #[.int .i64 0, .int .i64 0, .int .i64 0, .slice none 0 0, .slice none 0 0, .int .i64 0, .int .i64 0, .int .i64 0, .int .i64 0, .int .i64 0, .int .i64 0, .int .i64 0] 25) #[.int .i64 H.craft, .int .i64 H.next, .int .i64 H.ahead, .slice S9 m1 c9, .slice A9 m2 d9, .int .i64 H.timer, .int .i64 H.patience, .int .i64 H.tries, .int .i64 H.limit, .int .i64 H.since, .int .i64 H.pause, .int .i64 H.halt]
  have hB' := below_allocRow hB hB.size (.cells #[.int .i64 0, .int .i64 0, .int .i64 0, .slice none 0 0, .slice none 0 0, .int .i64 0, .int .i64 0, .int .i64 0, .int .i64 0, .int .i64 0, .int .i64 0, .int .i64 0] 25) #[.int .i64 H.craft, .int .i64 H.next, .int .i64 H.ahead, .slice S9 m1 c9, .slice A9 m2 d9, .int .i64 H.timer, .int .i64 H.patience, .int .i64 H.tries, .int .i64 H.limit, .int .i64 H.since, .int .i64 H.pause, .int .i64 H.halt]
  have b3' := b3.row #[.int .i64 H.craft, .int .i64 H.next, .int .i64 H.ahead, .slice S9 m1 c9, .slice A9 m2 d9, .int .i64 H.timer, .int .i64 H.patience, .int .i64 H.tries, .int .i64 H.limit, .int .i64 H.since, .int .i64 H.pause, .int .i64 H.halt]
  go_upto_region 2 with (refine wpList_store_row rfl 25 (.tmp 3) (.tmp 9) rfl (w1.heap.size) #[.int .i64 H.craft, .int .i64 H.next, .int .i64 H.ahead, .slice S9 m1 c9, .slice A9 m2 d9, .int .i64 H.timer, .int .i64 H.patience, .int .i64 H.tries, .int .i64 H.limit, .int .i64 H.since, .int .i64 H.pause, .int .i64 H.halt] rfl rfl 25 _ b3 handsz rfl (hand_one H S9 m1 c9 A9 m2 d9) ?_)
  obtain ⟨q, hq⟩ : ∃ q, q = w1.heap.size := ⟨_, rfl⟩
  rw [← hq] at b3' b1' hO9s' hO9a' hO9r' hB' ⊢
  clear b3 b1 hO9s hO9a hO9r hB hq
  generalize (w1.alloc (.cells #[.int .i64 0, .int .i64 0, .int .i64 0, .slice none 0 0, .slice none 0 0, .int .i64 0, .int .i64 0, .int .i64 0, .int .i64 0, .int .i64 0, .int .i64 0, .int .i64 0] 25)).setRow q #[.int .i64 H.craft, .int .i64 H.next, .int .i64 H.ahead, .slice S9 m1 c9, .slice A9 m2 d9, .int .i64 H.timer, .int .i64 H.patience, .int .i64 H.tries, .int .i64 H.limit, .int .i64 H.since, .int .i64 H.pause, .int .i64 H.halt] = W2 at *
  go_wp2_with (first
    | (refine wpList_load_row rfl 25 (.tmp 1) rfl (w.heap.size) rfl 25 #[.int .i64 h.craft, .int .i64 h.next, .int .i64 h.ahead, .slice S n1 c, .slice A n2 d, .int .i64 h.timer, .int .i64 h.patience, .int .i64 h.tries, .int .i64 h.limit, .int .i64 h.since, .int .i64 h.pause, .int .i64 h.halt] (0, 0) _ b1' Try.underlying25 rfl handsz ?_)
    | (refine wpList_load_row rfl 25 (.tmp 3) rfl (q) rfl 25 #[.int .i64 H.craft, .int .i64 H.next, .int .i64 H.ahead, .slice S9 m1 c9, .slice A9 m2 d9, .int .i64 H.timer, .int .i64 H.patience, .int .i64 H.tries, .int .i64 H.limit, .int .i64 H.since, .int .i64 H.pause, .int .i64 H.halt] (0, 0) _ b3' Try.underlying25 rfl handsz ?_))
  refine (handAs_F h H rows err S A S9 A9 R9 n1 n2 c d m1 m2 c9 d9 nR cR9 W2 (HS.out.below hB') (HA.out.below hB') N1.out N2.out F1.out F2.out (by rw [← H91.out]; exact hO9s'.rd) (by rw [← H92.out]; exact hO9a'.rd) M1.out M2.out F3.out F4.out (by rw [← H93.out]; exact hO9r'.rd) NR.out F5.out (fun W S' A' c' d' _ hS' hA' => HC.out W S' A' c' d' hS' hA')).mono ?_
  rintro e w3 ⟨rfl, hb3⟩
  go_wp2_with fail
  go_ret
  exact ⟨rfl, hB'.trans (hb3.mono hB'.size)⟩
theorem commandFrees_walk (x : HandA) (w : World) (hx : HandArg w x) :
    Calls Try.prog 4 #[hav x] w fun e w' => e = .returned (.bool true) ∧ Below w.heap.size w w' := by
  obtain ⟨hS, hA, f1, f2⟩ := hx
  exact commandFrees_go x.h x.S _ x.c x.A _ x.d w hS hA rfl rfl f1 f2
end Go.Proofs.Ytppmdamcdhmcpaa
