/-
  What a call on a hand gives; hands that are the same, over letters. handAs: a call is made twice on a hand; the first answer, and what was handed in, is written over.
-/
import Derived.Test.YtppmdamcdhmcpaaMCommandSteps9
import Derived.Deep.DeepCutAuto
namespace Go.Proofs.Ytppmdamcdhmcpaa
set_option linter.unusedSimpArgs false
set_option linter.unusedVariables false
open Go.RowKit

def RowsFit (ls : List (List UInt8)) (n : Nat) : Prop := n ≤ 5864062014634 ∧ ∀ l ∈ ls, l.length ≤ 140737488351300
/-- What comes of a call: a hand, rows that go up, an error; all in memory of its own. -/
def HandOut (w w' : World) (H : Hnd) (m1 m2 : Nat) (rows : List (List UInt8)) (nR : Nat) (err : Int) (e : Ending) : Prop :=
  ∃ S c A d R cR sl al rl, e = .returned (.tuple #[hvn H S m1 c A m2 d, .slice R nR cR, .int .i64 err]) ∧ (sl.map RowR.b = H.sent ∧ al.map RowR.b = H.asked ∧ rl.map RowR.b = rows) ∧
    OwnRs w' w.heap.size S m1 c sl ∧ OwnRs w' w.heap.size A m2 d al ∧ OwnRs w' w.heap.size R nR cR rl ∧ Disj S sl A al ∧ Disj S sl R rl ∧ Disj A al R rl ∧ Below w.heap.size w w'
theorem sameHand_n (h : Hnd) (S : Option Addr) (n1 c : Nat) (A : Option Addr) (n2 d : Nat) (S' : Option Addr) (c' : Nat) (A' : Option Addr) (d' : Nat) (w : World) (hn1 : h.sent.length = n1) (hn2 : h.asked.length = n2) (hS : RdRows w S h.sent) (hA : RdRows w A h.asked) (hS' : RdRows w S' h.sent) (hA' : RdRows w A' h.asked) (b1 : n1 ≤ 5864062014634) (b2 : n2 ≤ 5864062014634) :
    Calls Try.prog 14 #[.agg #[.int .i64 h.craft, .int .i64 h.next, .int .i64 h.ahead, .slice S n1 c, .slice A n2 d, .int .i64 h.timer, .int .i64 h.patience, .int .i64 h.tries, .int .i64 h.limit, .int .i64 h.since, .int .i64 h.pause, .int .i64 h.halt], .agg #[.int .i64 h.craft, .int .i64 h.next, .int .i64 h.ahead, .slice S' n1 c', .slice A' n2 d', .int .i64 h.timer, .int .i64 h.patience, .int .i64 h.tries, .int .i64 h.limit, .int .i64 h.since, .int .i64 h.pause, .int .i64 h.halt]] w fun e w' => e = .returned (.bool true) ∧ Below w.heap.size w w' := by
  subst hn1
  subst hn2
  exact sameHand_yes h S c A d S' c' A' d' w hS hA hS' hA' (by omega) (by omega)
theorem fit_rows {l : List RowR} {ls : List (List UInt8)} {M : Nat} (hm : l.map RowR.b = ls) (h : ∀ x ∈ ls, x.length ≤ M) (i : Nat) (r : RowR) (hr : l[i]? = some r) : r.b.length ≤ M := by
  subst hm
  exact h _ (List.mem_map.2 ⟨r, List.mem_of_getElem? hr, rfl⟩)
end Go.Proofs.Ytppmdamcdhmcpaa
namespace Go.Proofs.Ytppmdamcdhmcpaa
set_option linter.unusedSimpArgs false
set_option linter.unusedVariables false
open Go.RowKit

set_option maxHeartbeats 12800000 in
set_option maxRecDepth 100000 in
theorem handAs_Step (q0 q1 : Value) ( h H : Hnd) (rows : List (List UInt8)) (err : Int) (S A S2 A2 R : Option Addr) (n1 n2 c d m1 m2 c2 d2 nR cR : Nat) (w : World)
    (hS : RdRows w S h.sent) (hA : RdRows w A h.asked) (hn1 : h.sent.length = n1) (hn2 : h.asked.length = n2) (f1 : RowsFit h.sent n1) (f2 : RowsFit h.asked n2)
    (hS2 : RdRows w S2 H.sent) (hA2 : RdRows w A2 H.asked) (hm1 : H.sent.length = m1) (hm2 : H.asked.length = m2) (f3 : RowsFit H.sent m1) (f4 : RowsFit H.asked m2)
    (hR : RdRows w R rows) (hnR : rows.length = nR) (f5 : RowsFit rows nR)
    (HC : ∀ (W : World) (S' A' : Option Addr) (c' d' : Nat), Below w.heap.size w W → RdRows W S' h.sent → RdRows W A' h.asked → Calls Try.prog 18 #[hvn h S' n1 c' A' n2 d', q0, q1] W fun e w' => HandOut W w' H m1 m2 rows nR err e) :
    Calls Try.prog 10 #[.func (.func 18) #[] #[q0, q1], hvn h S n1 c A n2 d, hvn H S2 m1 c2 A2 m2 d2, .slice R nR cR, .int .i64 err] w fun e w' => e = .returned (.bool true) ∧ Below w.heap.size w w' := by
  obtain ⟨i0, hi0, hz0', hz1, hz2⟩ := info_parts u8info
  obtain ⟨j0, hj0, hy0, hy1, hy2⟩ := info_parts rowsinfo
  have HCc := Lib.hid HC
  have HS := Lib.hid hS
  have HA := Lib.hid hA
  have HS2 := Lib.hid hS2
  have HA2 := Lib.hid hA2
  have HRr := Lib.hid hR
  have N1 := Lib.hid hn1
  have N2 := Lib.hid hn2
  have M1 := Lib.hid hm1
  have M2 := Lib.hid hm2
  have NR := Lib.hid hnR
  have F1 := Lib.hid f1
  have F2 := Lib.hid f2
  have F3 := Lib.hid f3
  have F4 := Lib.hid f4
  have F5 := Lib.hid f5
  clear HC hS hA hS2 hA2 hR hn1 hn2 hm1 hm2 hnR f1 f2 f3 f4 f5
  unfold hvn
  have b6 := (Blk.new w 25 #[.int .i64 h.craft, .int .i64 h.next, .int .i64 h.ahead, .slice S n1 c, .slice A n2 d, .int .i64 h.timer, .int .i64 h.patience, .int .i64 h.tries, .int .i64 h.limit, .int .i64 h.since, .int .i64 h.pause, .int .i64 h.halt]).alloc (.cells #[.int .i64 H.craft, .int .i64 H.next, .int .i64 H.ahead, .slice S2 m1 c2, .slice A2 m2 d2, .int .i64 H.timer, .int .i64 H.patience, .int .i64 H.tries, .int .i64 H.limit, .int .i64 H.since, .int .i64 H.pause, .int .i64 H.halt] 25)
  have b7 := Blk.new (w.alloc (.cells #[.int .i64 h.craft, .int .i64 h.next, .int .i64 h.ahead, .slice S n1 c, .slice A n2 d, .int .i64 h.timer, .int .i64 h.patience, .int .i64 h.tries, .int .i64 h.limit, .int .i64 h.since, .int .i64 h.pause, .int .i64 h.halt] 25)) 25 #[.int .i64 H.craft, .int .i64 H.next, .int .i64 H.ahead, .slice S2 m1 c2, .slice A2 m2 d2, .int .i64 H.timer, .int .i64 H.patience, .int .i64 H.tries, .int .i64 H.limit, .int .i64 H.since, .int .i64 H.pause, .int .i64 H.halt]
  rw [show (w.alloc (.cells #[.int .i64 h.craft, .int .i64 h.next, .int .i64 h.ahead, .slice S n1 c, .slice A n2 d, .int .i64 h.timer, .int .i64 h.patience, .int .i64 h.tries, .int .i64 h.limit, .int .i64 h.since, .int .i64 h.pause, .int .i64 h.halt] 25)).heap.size = w.heap.size + 1 by simp] at b7
  have hB : Below w.heap.size w ((w.alloc (.cells #[.int .i64 h.craft, .int .i64 h.next, .int .i64 h.ahead, .slice S n1 c, .slice A n2 d, .int .i64 h.timer, .int .i64 h.patience, .int .i64 h.tries, .int .i64 h.limit, .int .i64 h.since, .int .i64 h.pause, .int .i64 h.halt] 25)).alloc (.cells #[.int .i64 H.craft, .int .i64 H.next, .int .i64 H.ahead, .slice S2 m1 c2, .slice A2 m2 d2, .int .i64 H.timer, .int .i64 H.patience, .int .i64 H.tries, .int .i64 H.limit, .int .i64 H.since, .int .i64 H.pause, .int .i64 H.halt] 25)) := ((Below.refl _ _).alloc (Nat.le_refl _) _).alloc (by simp) _
  have s0 : ((w.alloc (.cells #[.int .i64 h.craft, .int .i64 h.next, .int .i64 h.ahead, .slice S n1 c, .slice A n2 d, .int .i64 h.timer, .int .i64 h.patience, .int .i64 h.tries, .int .i64 h.limit, .int .i64 h.since, .int .i64 h.pause, .int .i64 h.halt] 25)).alloc (.cells #[.int .i64 H.craft, .int .i64 H.next, .int .i64 H.ahead, .slice S2 m1 c2, .slice A2 m2 d2, .int .i64 H.timer, .int .i64 H.patience, .int .i64 H.tries, .int .i64 H.limit, .int .i64 H.since, .int .i64 H.pause, .int .i64 H.halt] 25)).heap.size = w.heap.size + 2 := by simp
  go_enter Try.func10, Try.ntmps10
  go_wp2_with (refine wpList_load_row rfl 25 (.tmp 6) rfl (w.heap.size) rfl 25 #[.int .i64 h.craft, .int .i64 h.next, .int .i64 h.ahead, .slice S n1 c, .slice A n2 d, .int .i64 h.timer, .int .i64 h.patience, .int .i64 h.tries, .int .i64 h.limit, .int .i64 h.since, .int .i64 h.pause, .int .i64 h.halt] (0, 0) _ b6 Try.underlying25 rfl handsz ?_)
  generalize (w.alloc (.cells #[.int .i64 h.craft, .int .i64 h.next, .int .i64 h.ahead, .slice S n1 c, .slice A n2 d, .int .i64 h.timer, .int .i64 h.patience, .int .i64 h.tries, .int .i64 h.limit, .int .i64 h.since, .int .i64 h.pause, .int .i64 h.halt] 25)).alloc (.cells #[.int .i64 H.craft, .int .i64 H.next, .int .i64 H.ahead, .slice S2 m1 c2, .slice A2 m2 d2, .int .i64 H.timer, .int .i64 H.patience, .int .i64 H.tries, .int .i64 H.limit, .int .i64 H.since, .int .i64 H.pause, .int .i64 H.halt] 25) = W0 at *
  refine (rhandOf_any h S n1 c A n2 d W0 N1.out N2.out (HS.out.below hB) (HA.out.below hB) F1.out.1 F2.out.1 F1.out.2 F2.out.2).mono ?_
  rintro e w1 ⟨Sk, ck, Ak, dk, slk, alk, rfl, hslk, halk, hOks, hOka, dk1, hb⟩
  have Dk1 := Lib.hid dk1
  have Mks := Lib.hid hslk
  have Mka := Lib.hid halk
  clear dk1 hslk halk
  have s1 := hb.size
  replace b6 := b6.step hb
  replace b7 := b7.step hb
  replace hB := hB.trans (hb.mono hB.size)
  clear hb
  have Lks := Lib.hid (fun (q : Nat) (hq : Touch Sk slk q) => hOks.lt hq)
  have Lka := Lib.hid (fun (q : Nat) (hq : Touch Ak alk q) => hOka.lt hq)
  unfold hvn
  have b11 := Blk.new w1 25 #[.int .i64 h.craft, .int .i64 h.next, .int .i64 h.ahead, .slice Sk n1 ck, .slice Ak n2 dk, .int .i64 h.timer, .int .i64 h.patience, .int .i64 h.tries, .int .i64 h.limit, .int .i64 h.since, .int .i64 h.pause, .int .i64 h.halt]
  replace b6 := b6.alloc (.cells #[.int .i64 h.craft, .int .i64 h.next, .int .i64 h.ahead, .slice Sk n1 ck, .slice Ak n2 dk, .int .i64 h.timer, .int .i64 h.patience, .int .i64 h.tries, .int .i64 h.limit, .int .i64 h.since, .int .i64 h.pause, .int .i64 h.halt] 25)
  replace b7 := b7.alloc (.cells #[.int .i64 h.craft, .int .i64 h.next, .int .i64 h.ahead, .slice Sk n1 ck, .slice Ak n2 dk, .int .i64 h.timer, .int .i64 h.patience, .int .i64 h.tries, .int .i64 h.limit, .int .i64 h.since, .int .i64 h.pause, .int .i64 h.halt] 25)
  replace hOks := hOks.alloc (.cells #[.int .i64 h.craft, .int .i64 h.next, .int .i64 h.ahead, .slice Sk n1 ck, .slice Ak n2 dk, .int .i64 h.timer, .int .i64 h.patience, .int .i64 h.tries, .int .i64 h.limit, .int .i64 h.since, .int .i64 h.pause, .int .i64 h.halt] 25)
  replace hOka := hOka.alloc (.cells #[.int .i64 h.craft, .int .i64 h.next, .int .i64 h.ahead, .slice Sk n1 ck, .slice Ak n2 dk, .int .i64 h.timer, .int .i64 h.patience, .int .i64 h.tries, .int .i64 h.limit, .int .i64 h.since, .int .i64 h.pause, .int .i64 h.halt] 25)
  replace hB := hB.alloc hB.size (.cells #[.int .i64 h.craft, .int .i64 h.next, .int .i64 h.ahead, .slice Sk n1 ck, .slice Ak n2 dk, .int .i64 h.timer, .int .i64 h.patience, .int .i64 h.tries, .int .i64 h.limit, .int .i64 h.since, .int .i64 h.pause, .int .i64 h.halt] 25)
  have t1 : (w1.alloc (.cells #[.int .i64 h.craft, .int .i64 h.next, .int .i64 h.ahead, .slice Sk n1 ck, .slice Ak n2 dk, .int .i64 h.timer, .int .i64 h.patience, .int .i64 h.tries, .int .i64 h.limit, .int .i64 h.since, .int .i64 h.pause, .int .i64 h.halt] 25)).heap.size = w1.heap.size + 1 := by simp
  go_wp2_with (refine wpList_load_row rfl 25 (.tmp 11) rfl (w1.heap.size) rfl 25 #[.int .i64 h.craft, .int .i64 h.next, .int .i64 h.ahead, .slice Sk n1 ck, .slice Ak n2 dk, .int .i64 h.timer, .int .i64 h.patience, .int .i64 h.tries, .int .i64 h.limit, .int .i64 h.since, .int .i64 h.pause, .int .i64 h.halt] (0, 0) _ b11 Try.underlying25 rfl handsz ?_)
  generalize w1.alloc (.cells #[.int .i64 h.craft, .int .i64 h.next, .int .i64 h.ahead, .slice Sk n1 ck, .slice Ak n2 dk, .int .i64 h.timer, .int .i64 h.patience, .int .i64 h.tries, .int .i64 h.limit, .int .i64 h.since, .int .i64 h.pause, .int .i64 h.halt] 25) = W1 at *
  refine (HCc.out W1 Sk Ak ck dk hB (by rw [← Mks.out]; exact hOks.rd) (by rw [← Mka.out]; exact hOka.rd)).mono ?_
  rintro e w2 ⟨Sx, cx, Ax, dx, Rx, cRx, slx, alx, rlx, rfl, ⟨hsl, hal, hrl⟩, hOxs, hOxa, hOxr, dd1, dd2, dd3, hb⟩
  have Dx1 := Lib.hid dd1
  have Dx2 := Lib.hid dd2
  have Dx3 := Lib.hid dd3
  have Mxs := Lib.hid hsl
  have Mxa := Lib.hid hal
  have Mxr := Lib.hid hrl
  clear dd1 dd2 dd3 hsl hal hrl
  have s2 := hb.size
  replace b6 := b6.step hb
  replace b7 := b7.step hb
  replace b11 := b11.step hb
  replace hOks := hOks.step hb
  replace hOka := hOka.step hb
  replace hB := hB.trans (hb.mono hB.size)
  clear hb
  have Lxs := Lib.hid (fun (q : Nat) (hq : Touch Sx slx q) => hOxs.lt hq)
  have Lxa := Lib.hid (fun (q : Nat) (hq : Touch Ax alx q) => hOxa.lt hq)
  have Lxr := Lib.hid (fun (q : Nat) (hq : Touch Rx rlx q) => hOxr.lt hq)
  unfold hvn
  have b12 := Blk.new w2 25 #[.int .i64 H.craft, .int .i64 H.next, .int .i64 H.ahead, .slice Sx m1 cx, .slice Ax m2 dx, .int .i64 H.timer, .int .i64 H.patience, .int .i64 H.tries, .int .i64 H.limit, .int .i64 H.since, .int .i64 H.pause, .int .i64 H.halt]
  replace b6 := b6.alloc (.cells #[.int .i64 H.craft, .int .i64 H.next, .int .i64 H.ahead, .slice Sx m1 cx, .slice Ax m2 dx, .int .i64 H.timer, .int .i64 H.patience, .int .i64 H.tries, .int .i64 H.limit, .int .i64 H.since, .int .i64 H.pause, .int .i64 H.halt] 25)
  replace b7 := b7.alloc (.cells #[.int .i64 H.craft, .int .i64 H.next, .int .i64 H.ahead, .slice Sx m1 cx, .slice Ax m2 dx, .int .i64 H.timer, .int .i64 H.patience, .int .i64 H.tries, .int .i64 H.limit, .int .i64 H.since, .int .i64 H.pause, .int .i64 H.halt] 25)
  replace b11 := b11.alloc (.cells #[.int .i64 H.craft, .int .i64 H.next, .int .i64 H.ahead, .slice Sx m1 cx, .slice Ax m2 dx, .int .i64 H.timer, .int .i64 H.patience, .int .i64 H.tries, .int .i64 H.limit, .int .i64 H.since, .int .i64 H.pause, .int .i64 H.halt] 25)
  replace hOks := hOks.alloc (.cells #[.int .i64 H.craft, .int .i64 H.next, .int .i64 H.ahead, .slice Sx m1 cx, .slice Ax m2 dx, .int .i64 H.timer, .int .i64 H.patience, .int .i64 H.tries, .int .i64 H.limit, .int .i64 H.since, .int .i64 H.pause, .int .i64 H.halt] 25)
  replace hOka := hOka.alloc (.cells #[.int .i64 H.craft, .int .i64 H.next, .int .i64 H.ahead, .slice Sx m1 cx, .slice Ax m2 dx, .int .i64 H.timer, .int .i64 H.patience, .int .i64 H.tries, .int .i64 H.limit, .int .i64 H.since, .int .i64 H.pause, .int .i64 H.halt] 25)
  replace hOxs := hOxs.alloc (.cells #[.int .i64 H.craft, .int .i64 H.next, .int .i64 H.ahead, .slice Sx m1 cx, .slice Ax m2 dx, .int .i64 H.timer, .int .i64 H.patience, .int .i64 H.tries, .int .i64 H.limit, .int .i64 H.since, .int .i64 H.pause, .int .i64 H.halt] 25)
  replace hOxa := hOxa.alloc (.cells #[.int .i64 H.craft, .int .i64 H.next, .int .i64 H.ahead, .slice Sx m1 cx, .slice Ax m2 dx, .int .i64 H.timer, .int .i64 H.patience, .int .i64 H.tries, .int .i64 H.limit, .int .i64 H.since, .int .i64 H.pause, .int .i64 H.halt] 25)
  replace hOxr := hOxr.alloc (.cells #[.int .i64 H.craft, .int .i64 H.next, .int .i64 H.ahead, .slice Sx m1 cx, .slice Ax m2 dx, .int .i64 H.timer, .int .i64 H.patience, .int .i64 H.tries, .int .i64 H.limit, .int .i64 H.since, .int .i64 H.pause, .int .i64 H.halt] 25)
  replace hB := hB.alloc hB.size (.cells #[.int .i64 H.craft, .int .i64 H.next, .int .i64 H.ahead, .slice Sx m1 cx, .slice Ax m2 dx, .int .i64 H.timer, .int .i64 H.patience, .int .i64 H.tries, .int .i64 H.limit, .int .i64 H.since, .int .i64 H.pause, .int .i64 H.halt] 25)
  have t2 : (w2.alloc (.cells #[.int .i64 H.craft, .int .i64 H.next, .int .i64 H.ahead, .slice Sx m1 cx, .slice Ax m2 dx, .int .i64 H.timer, .int .i64 H.patience, .int .i64 H.tries, .int .i64 H.limit, .int .i64 H.since, .int .i64 H.pause, .int .i64 H.halt] 25)).heap.size = w2.heap.size + 1 := by simp
  go_wp2_with (refine wpList_load_row rfl 25 (.tmp 11) rfl (w1.heap.size) rfl 25 #[.int .i64 h.craft, .int .i64 h.next, .int .i64 h.ahead, .slice Sk n1 ck, .slice Ak n2 dk, .int .i64 h.timer, .int .i64 h.patience, .int .i64 h.tries, .int .i64 h.limit, .int .i64 h.since, .int .i64 h.pause, .int .i64 h.halt] (0, 0) _ b11 Try.underlying25 rfl handsz ?_)
  generalize w2.alloc (.cells #[.int .i64 H.craft, .int .i64 H.next, .int .i64 H.ahead, .slice Sx m1 cx, .slice Ax m2 dx, .int .i64 H.timer, .int .i64 H.patience, .int .i64 H.tries, .int .i64 H.limit, .int .i64 H.since, .int .i64 H.pause, .int .i64 H.halt] 25) = W2 at *
  refine (HCc.out W2 Sk Ak ck dk hB (by rw [← Mks.out]; exact hOks.rd) (by rw [← Mka.out]; exact hOka.rd)).mono ?_
  rintro e w3 ⟨Sy, cy, Ay, dy, Ry, cRy, sly, aly, rly, rfl, ⟨hsl, hal, hrl⟩, hOys, hOya, hOyr, dd1, dd2, dd3, hb⟩
  have Dy1 := Lib.hid dd1
  have Dy2 := Lib.hid dd2
  have Dy3 := Lib.hid dd3
  have Mys := Lib.hid hsl
  have Mya := Lib.hid hal
  have Myr := Lib.hid hrl
  clear dd1 dd2 dd3 hsl hal hrl
  have s3 := hb.size
  replace b6 := b6.step hb
  replace b7 := b7.step hb
  replace b11 := b11.step hb
  replace b12 := b12.step hb
  replace hOks := hOks.step hb
  replace hOka := hOka.step hb
  replace hOxs := hOxs.step hb
  replace hOxa := hOxa.step hb
  replace hOxr := hOxr.step hb
  replace hB := hB.trans (hb.mono hB.size)
  clear hb
  have Lys := Lib.hid (fun (q : Nat) (hq : Touch Sy sly q) => hOys.lt hq)
  have Lya := Lib.hid (fun (q : Nat) (hq : Touch Ay aly q) => hOya.lt hq)
  have Lyr := Lib.hid (fun (q : Nat) (hq : Touch Ry rly q) => hOyr.lt hq)
  unfold hvn
  have b15 := Blk.new w3 25 #[.int .i64 H.craft, .int .i64 H.next, .int .i64 H.ahead, .slice Sy m1 cy, .slice Ay m2 dy, .int .i64 H.timer, .int .i64 H.patience, .int .i64 H.tries, .int .i64 H.limit, .int .i64 H.since, .int .i64 H.pause, .int .i64 H.halt]
  replace b6 := b6.alloc (.cells #[.int .i64 H.craft, .int .i64 H.next, .int .i64 H.ahead, .slice Sy m1 cy, .slice Ay m2 dy, .int .i64 H.timer, .int .i64 H.patience, .int .i64 H.tries, .int .i64 H.limit, .int .i64 H.since, .int .i64 H.pause, .int .i64 H.halt] 25)
  replace b7 := b7.alloc (.cells #[.int .i64 H.craft, .int .i64 H.next, .int .i64 H.ahead, .slice Sy m1 cy, .slice Ay m2 dy, .int .i64 H.timer, .int .i64 H.patience, .int .i64 H.tries, .int .i64 H.limit, .int .i64 H.since, .int .i64 H.pause, .int .i64 H.halt] 25)
  replace b11 := b11.alloc (.cells #[.int .i64 H.craft, .int .i64 H.next, .int .i64 H.ahead, .slice Sy m1 cy, .slice Ay m2 dy, .int .i64 H.timer, .int .i64 H.patience, .int .i64 H.tries, .int .i64 H.limit, .int .i64 H.since, .int .i64 H.pause, .int .i64 H.halt] 25)
  replace b12 := b12.alloc (.cells #[.int .i64 H.craft, .int .i64 H.next, .int .i64 H.ahead, .slice Sy m1 cy, .slice Ay m2 dy, .int .i64 H.timer, .int .i64 H.patience, .int .i64 H.tries, .int .i64 H.limit, .int .i64 H.since, .int .i64 H.pause, .int .i64 H.halt] 25)
  replace hOks := hOks.alloc (.cells #[.int .i64 H.craft, .int .i64 H.next, .int .i64 H.ahead, .slice Sy m1 cy, .slice Ay m2 dy, .int .i64 H.timer, .int .i64 H.patience, .int .i64 H.tries, .int .i64 H.limit, .int .i64 H.since, .int .i64 H.pause, .int .i64 H.halt] 25)
  replace hOka := hOka.alloc (.cells #[.int .i64 H.craft, .int .i64 H.next, .int .i64 H.ahead, .slice Sy m1 cy, .slice Ay m2 dy, .int .i64 H.timer, .int .i64 H.patience, .int .i64 H.tries, .int .i64 H.limit, .int .i64 H.since, .int .i64 H.pause, .int .i64 H.halt] 25)
  replace hOxs := hOxs.alloc (.cells #[.int .i64 H.craft, .int .i64 H.next, .int .i64 H.ahead, .slice Sy m1 cy, .slice Ay m2 dy, .int .i64 H.timer, .int .i64 H.patience, .int .i64 H.tries, .int .i64 H.limit, .int .i64 H.since, .int .i64 H.pause, .int .i64 H.halt] 25)
  replace hOxa := hOxa.alloc (.cells #[.int .i64 H.craft, .int .i64 H.next, .int .i64 H.ahead, .slice Sy m1 cy, .slice Ay m2 dy, .int .i64 H.timer, .int .i64 H.patience, .int .i64 H.tries, .int .i64 H.limit, .int .i64 H.since, .int .i64 H.pause, .int .i64 H.halt] 25)
  replace hOxr := hOxr.alloc (.cells #[.int .i64 H.craft, .int .i64 H.next, .int .i64 H.ahead, .slice Sy m1 cy, .slice Ay m2 dy, .int .i64 H.timer, .int .i64 H.patience, .int .i64 H.tries, .int .i64 H.limit, .int .i64 H.since, .int .i64 H.pause, .int .i64 H.halt] 25)
  replace hOys := hOys.alloc (.cells #[.int .i64 H.craft, .int .i64 H.next, .int .i64 H.ahead, .slice Sy m1 cy, .slice Ay m2 dy, .int .i64 H.timer, .int .i64 H.patience, .int .i64 H.tries, .int .i64 H.limit, .int .i64 H.since, .int .i64 H.pause, .int .i64 H.halt] 25)
  replace hOya := hOya.alloc (.cells #[.int .i64 H.craft, .int .i64 H.next, .int .i64 H.ahead, .slice Sy m1 cy, .slice Ay m2 dy, .int .i64 H.timer, .int .i64 H.patience, .int .i64 H.tries, .int .i64 H.limit, .int .i64 H.since, .int .i64 H.pause, .int .i64 H.halt] 25)
  replace hOyr := hOyr.alloc (.cells #[.int .i64 H.craft, .int .i64 H.next, .int .i64 H.ahead, .slice Sy m1 cy, .slice Ay m2 dy, .int .i64 H.timer, .int .i64 H.patience, .int .i64 H.tries, .int .i64 H.limit, .int .i64 H.since, .int .i64 H.pause, .int .i64 H.halt] 25)
  replace hB := hB.alloc hB.size (.cells #[.int .i64 H.craft, .int .i64 H.next, .int .i64 H.ahead, .slice Sy m1 cy, .slice Ay m2 dy, .int .i64 H.timer, .int .i64 H.patience, .int .i64 H.tries, .int .i64 H.limit, .int .i64 H.since, .int .i64 H.pause, .int .i64 H.halt] 25)
  have t3 : (w3.alloc (.cells #[.int .i64 H.craft, .int .i64 H.next, .int .i64 H.ahead, .slice Sy m1 cy, .slice Ay m2 dy, .int .i64 H.timer, .int .i64 H.patience, .int .i64 H.tries, .int .i64 H.limit, .int .i64 H.since, .int .i64 H.pause, .int .i64 H.halt] 25)).heap.size = w3.heap.size + 1 := by simp
  obtain ⟨b12k0, b12k1, b12k2, b12k3, b12k4, b12k5, b12k6, b12k7, b12k8, b12k9, b12k10, b12k11, b12kf⟩ := b12.twelve
  obtain ⟨b7k0, b7k1, b7k2, b7k3, b7k4, b7k5, b7k6, b7k7, b7k8, b7k9, b7k10, b7k11, b7kf⟩ := b7.twelve
  go_wp2_with fail
  clear b12k0 b12k1 b12k2 b12k3 b12k4 b12k5 b12k6 b12k7 b12k8 b12k9 b12k10 b12k11 b12kf b7k0 b7k1 b7k2 b7k3 b7k4 b7k5 b7k6 b7k7 b7k8 b7k9 b7k10 b7k11 b7kf
  generalize w3.alloc (.cells #[.int .i64 H.craft, .int .i64 H.next, .int .i64 H.ahead, .slice Sy m1 cy, .slice Ay m2 dy, .int .i64 H.timer, .int .i64 H.patience, .int .i64 H.tries, .int .i64 H.limit, .int .i64 H.since, .int .i64 H.pause, .int .i64 H.halt] 25) = W3 at *
  have F1b := F1.out.1
  have F2b := F2.out.1
  have F3b := F3.out.1
  have F4b := F4.out.1
  have F5b := F5.out.1
  refine (sameHand_n H Sx m1 cx Ax m2 dx S2 c2 A2 d2 _ M1.out M2.out ?_ ?_ ?_ ?_ (by omega) (by omega)).mono ?_
  · exact (by rw [← Mxs.out]; exact hOxs.rd)
  · exact (by rw [← Mxa.out]; exact hOxa.rd)
  · exact HS2.out.below hB
  · exact HA2.out.below hB
  rintro e v1 ⟨rfl, hb⟩
  have u1 := hb.size
  replace b6 := b6.step hb
  replace b7 := b7.step hb
  replace b11 := b11.step hb
  replace b12 := b12.step hb
  replace b15 := b15.step hb
  replace hOks := hOks.step hb
  replace hOka := hOka.step hb
  replace hOxs := hOxs.step hb
  replace hOxa := hOxa.step hb
  replace hOxr := hOxr.step hb
  replace hOys := hOys.step hb
  replace hOya := hOya.step hb
  replace hOyr := hOyr.step hb
  replace hB := hB.trans (hb.mono hB.size)
  clear hb
  obtain ⟨b15k0, b15k1, b15k2, b15k3, b15k4, b15k5, b15k6, b15k7, b15k8, b15k9, b15k10, b15k11, b15kf⟩ := b15.twelve
  obtain ⟨b7k0, b7k1, b7k2, b7k3, b7k4, b7k5, b7k6, b7k7, b7k8, b7k9, b7k10, b7k11, b7kf⟩ := b7.twelve
  go_wp2_with fail
  clear b15k0 b15k1 b15k2 b15k3 b15k4 b15k5 b15k6 b15k7 b15k8 b15k9 b15k10 b15k11 b15kf b7k0 b7k1 b7k2 b7k3 b7k4 b7k5 b7k6 b7k7 b7k8 b7k9 b7k10 b7k11 b7kf
  refine (sameHand_n H Sy m1 cy Ay m2 dy S2 c2 A2 d2 _ M1.out M2.out ?_ ?_ ?_ ?_ (by omega) (by omega)).mono ?_
  · exact (by rw [← Mys.out]; exact hOys.rd)
  · exact (by rw [← Mya.out]; exact hOya.rd)
  · exact HS2.out.below hB
  · exact HA2.out.below hB
  rintro e v2 ⟨rfl, hb⟩
  have u2 := hb.size
  replace b6 := b6.step hb
  replace b7 := b7.step hb
  replace b11 := b11.step hb
  replace b12 := b12.step hb
  replace b15 := b15.step hb
  replace hOks := hOks.step hb
  replace hOka := hOka.step hb
  replace hOxs := hOxs.step hb
  replace hOxa := hOxa.step hb
  replace hOxr := hOxr.step hb
  replace hOys := hOys.step hb
  replace hOya := hOya.step hb
  replace hOyr := hOyr.step hb
  replace hB := hB.trans (hb.mono hB.size)
  clear hb
  obtain ⟨b11k0, b11k1, b11k2, b11k3, b11k4, b11k5, b11k6, b11k7, b11k8, b11k9, b11k10, b11k11, b11kf⟩ := b11.twelve
  obtain ⟨b6k0, b6k1, b6k2, b6k3, b6k4, b6k5, b6k6, b6k7, b6k8, b6k9, b6k10, b6k11, b6kf⟩ := b6.twelve
  go_wp2_with fail
  clear b11k0 b11k1 b11k2 b11k3 b11k4 b11k5 b11k6 b11k7 b11k8 b11k9 b11k10 b11k11 b11kf b6k0 b6k1 b6k2 b6k3 b6k4 b6k5 b6k6 b6k7 b6k8 b6k9 b6k10 b6k11 b6kf
  refine (sameHand_n h Sk n1 ck Ak n2 dk S c A d _ N1.out N2.out ?_ ?_ ?_ ?_ (by omega) (by omega)).mono ?_
  · exact (by rw [← Mks.out]; exact hOks.rd)
  · exact (by rw [← Mka.out]; exact hOka.rd)
  · exact HS.out.below hB
  · exact HA.out.below hB
  rintro e v3 ⟨rfl, hb⟩
  have u3 := hb.size
  replace b6 := b6.step hb
  replace b7 := b7.step hb
  replace b11 := b11.step hb
  replace b12 := b12.step hb
  replace b15 := b15.step hb
  replace hOks := hOks.step hb
  replace hOka := hOka.step hb
  replace hOxs := hOxs.step hb
  replace hOxa := hOxa.step hb
  replace hOxr := hOxr.step hb
  replace hOys := hOys.step hb
  replace hOya := hOya.step hb
  replace hOyr := hOyr.step hb
  replace hB := hB.trans (hb.mono hB.size)
  clear hb
  go_wp2_with fail
  refine (sameRows_yes Rx R rows nR nR cRx cR _ NR.out NR.out (by rw [NR.out]; omega) (by rw [← Mxr.out]; exact hOxr.rd) (HRr.out.below hB)).mono ?_
  rintro e w' ⟨rfl, nq, rfl⟩
  generalize hv4 : v3.drewN nq = v4 at *
  have hb : Below v3.heap.size v3 v4 := by rw [← hv4]; exact below_drewN (Below.refl _ _) nq
  clear hv4
  have u4 := hb.size
  replace b6 := b6.step hb
  replace b7 := b7.step hb
  replace b11 := b11.step hb
  replace b12 := b12.step hb
  replace b15 := b15.step hb
  replace hOks := hOks.step hb
  replace hOka := hOka.step hb
  replace hOxs := hOxs.step hb
  replace hOxa := hOxa.step hb
  replace hOxr := hOxr.step hb
  replace hOys := hOys.step hb
  replace hOya := hOya.step hb
  replace hOyr := hOyr.step hb
  replace hB := hB.trans (hb.mono hB.size)
  clear hb
  go_wp2_with fail
  refine (sameRows_yes Ry R rows nR nR cRy cR _ NR.out NR.out (by rw [NR.out]; omega) (by rw [← Myr.out]; exact hOyr.rd) (HRr.out.below hB)).mono ?_
  rintro e w' ⟨rfl, nq, rfl⟩
  generalize hv5 : v4.drewN nq = v5 at *
  have hb : Below v4.heap.size v4 v5 := by rw [← hv5]; exact below_drewN (Below.refl _ _) nq
  clear hv5
  have u5 := hb.size
  replace b6 := b6.step hb
  replace b7 := b7.step hb
  replace b11 := b11.step hb
  replace b12 := b12.step hb
  replace b15 := b15.step hb
  replace hOks := hOks.step hb
  replace hOka := hOka.step hb
  replace hOxs := hOxs.step hb
  replace hOxa := hOxa.step hb
  replace hOxr := hOxr.step hb
  replace hOys := hOys.step hb
  replace hOya := hOya.step hb
  replace hOyr := hOyr.step hb
  replace hB := hB.trans (hb.mono hB.size)
  clear hb
  go_wp2_with (refine wpList_load_row rfl 25 (.tmp 7) rfl (w.heap.size + 1) rfl 25 #[.int .i64 H.craft, .int .i64 H.next, .int .i64 H.ahead, .slice S2 m1 c2, .slice A2 m2 d2, .int .i64 H.timer, .int .i64 H.patience, .int .i64 H.tries, .int .i64 H.limit, .int .i64 H.since, .int .i64 H.pause, .int .i64 H.halt] (0, 0) _ b7 Try.underlying25 rfl handsz ?_)
  refine (rhandOf_any H S2 m1 c2 A2 m2 d2 v5 M1.out M2.out (HS2.out.below hB) (HA2.out.below hB) F3.out.1 F4.out.1 F3.out.2 F4.out.2).mono ?_
  rintro e w8 ⟨Sp, cp, Ap, dp, slp, alp, rfl, hslp, halp, hOps, hOpa, dp1, hb⟩
  have Mps := Lib.hid hslp
  have Mpa := Lib.hid halp
  clear dp1 hslp halp
  have s8 := hb.size
  replace b6 := b6.step hb
  replace b7 := b7.step hb
  replace b11 := b11.step hb
  replace b12 := b12.step hb
  replace b15 := b15.step hb
  replace hOks := hOks.step hb
  replace hOka := hOka.step hb
  replace hOxs := hOxs.step hb
  replace hOxa := hOxa.step hb
  replace hOxr := hOxr.step hb
  replace hOys := hOys.step hb
  replace hOya := hOya.step hb
  replace hOyr := hOyr.step hb
  replace hB := hB.trans (hb.mono hB.size)
  clear hb
  have Lps := Lib.hid (fun (q : Nat) (hq : Touch Sp slp q) => hOps.lt hq)
  have Lpa := Lib.hid (fun (q : Nat) (hq : Touch Ap alp q) => hOpa.lt hq)
  unfold hvn
  have b18 := Blk.new w8 25 #[.int .i64 H.craft, .int .i64 H.next, .int .i64 H.ahead, .slice Sp m1 cp, .slice Ap m2 dp, .int .i64 H.timer, .int .i64 H.patience, .int .i64 H.tries, .int .i64 H.limit, .int .i64 H.since, .int .i64 H.pause, .int .i64 H.halt]
  replace b6 := b6.alloc (.cells #[.int .i64 H.craft, .int .i64 H.next, .int .i64 H.ahead, .slice Sp m1 cp, .slice Ap m2 dp, .int .i64 H.timer, .int .i64 H.patience, .int .i64 H.tries, .int .i64 H.limit, .int .i64 H.since, .int .i64 H.pause, .int .i64 H.halt] 25)
  replace b7 := b7.alloc (.cells #[.int .i64 H.craft, .int .i64 H.next, .int .i64 H.ahead, .slice Sp m1 cp, .slice Ap m2 dp, .int .i64 H.timer, .int .i64 H.patience, .int .i64 H.tries, .int .i64 H.limit, .int .i64 H.since, .int .i64 H.pause, .int .i64 H.halt] 25)
  replace b11 := b11.alloc (.cells #[.int .i64 H.craft, .int .i64 H.next, .int .i64 H.ahead, .slice Sp m1 cp, .slice Ap m2 dp, .int .i64 H.timer, .int .i64 H.patience, .int .i64 H.tries, .int .i64 H.limit, .int .i64 H.since, .int .i64 H.pause, .int .i64 H.halt] 25)
  replace b12 := b12.alloc (.cells #[.int .i64 H.craft, .int .i64 H.next, .int .i64 H.ahead, .slice Sp m1 cp, .slice Ap m2 dp, .int .i64 H.timer, .int .i64 H.patience, .int .i64 H.tries, .int .i64 H.limit, .int .i64 H.since, .int .i64 H.pause, .int .i64 H.halt] 25)
  replace b15 := b15.alloc (.cells #[.int .i64 H.craft, .int .i64 H.next, .int .i64 H.ahead, .slice Sp m1 cp, .slice Ap m2 dp, .int .i64 H.timer, .int .i64 H.patience, .int .i64 H.tries, .int .i64 H.limit, .int .i64 H.since, .int .i64 H.pause, .int .i64 H.halt] 25)
  replace hOks := hOks.alloc (.cells #[.int .i64 H.craft, .int .i64 H.next, .int .i64 H.ahead, .slice Sp m1 cp, .slice Ap m2 dp, .int .i64 H.timer, .int .i64 H.patience, .int .i64 H.tries, .int .i64 H.limit, .int .i64 H.since, .int .i64 H.pause, .int .i64 H.halt] 25)
  replace hOka := hOka.alloc (.cells #[.int .i64 H.craft, .int .i64 H.next, .int .i64 H.ahead, .slice Sp m1 cp, .slice Ap m2 dp, .int .i64 H.timer, .int .i64 H.patience, .int .i64 H.tries, .int .i64 H.limit, .int .i64 H.since, .int .i64 H.pause, .int .i64 H.halt] 25)
  replace hOxs := hOxs.alloc (.cells #[.int .i64 H.craft, .int .i64 H.next, .int .i64 H.ahead, .slice Sp m1 cp, .slice Ap m2 dp, .int .i64 H.timer, .int .i64 H.patience, .int .i64 H.tries, .int .i64 H.limit, .int .i64 H.since, .int .i64 H.pause, .int .i64 H.halt] 25)
  replace hOxa := hOxa.alloc (.cells #[.int .i64 H.craft, .int .i64 H.next, .int .i64 H.ahead, .slice Sp m1 cp, .slice Ap m2 dp, .int .i64 H.timer, .int .i64 H.patience, .int .i64 H.tries, .int .i64 H.limit, .int .i64 H.since, .int .i64 H.pause, .int .i64 H.halt] 25)
  replace hOxr := hOxr.alloc (.cells #[.int .i64 H.craft, .int .i64 H.next, .int .i64 H.ahead, .slice Sp m1 cp, .slice Ap m2 dp, .int .i64 H.timer, .int .i64 H.patience, .int .i64 H.tries, .int .i64 H.limit, .int .i64 H.since, .int .i64 H.pause, .int .i64 H.halt] 25)
  replace hOys := hOys.alloc (.cells #[.int .i64 H.craft, .int .i64 H.next, .int .i64 H.ahead, .slice Sp m1 cp, .slice Ap m2 dp, .int .i64 H.timer, .int .i64 H.patience, .int .i64 H.tries, .int .i64 H.limit, .int .i64 H.since, .int .i64 H.pause, .int .i64 H.halt] 25)
  replace hOya := hOya.alloc (.cells #[.int .i64 H.craft, .int .i64 H.next, .int .i64 H.ahead, .slice Sp m1 cp, .slice Ap m2 dp, .int .i64 H.timer, .int .i64 H.patience, .int .i64 H.tries, .int .i64 H.limit, .int .i64 H.since, .int .i64 H.pause, .int .i64 H.halt] 25)
  replace hOyr := hOyr.alloc (.cells #[.int .i64 H.craft, .int .i64 H.next, .int .i64 H.ahead, .slice Sp m1 cp, .slice Ap m2 dp, .int .i64 H.timer, .int .i64 H.patience, .int .i64 H.tries, .int .i64 H.limit, .int .i64 H.since, .int .i64 H.pause, .int .i64 H.halt] 25)
  replace hOps := hOps.alloc (.cells #[.int .i64 H.craft, .int .i64 H.next, .int .i64 H.ahead, .slice Sp m1 cp, .slice Ap m2 dp, .int .i64 H.timer, .int .i64 H.patience, .int .i64 H.tries, .int .i64 H.limit, .int .i64 H.since, .int .i64 H.pause, .int .i64 H.halt] 25)
  replace hOpa := hOpa.alloc (.cells #[.int .i64 H.craft, .int .i64 H.next, .int .i64 H.ahead, .slice Sp m1 cp, .slice Ap m2 dp, .int .i64 H.timer, .int .i64 H.patience, .int .i64 H.tries, .int .i64 H.limit, .int .i64 H.since, .int .i64 H.pause, .int .i64 H.halt] 25)
  replace hB := hB.alloc hB.size (.cells #[.int .i64 H.craft, .int .i64 H.next, .int .i64 H.ahead, .slice Sp m1 cp, .slice Ap m2 dp, .int .i64 H.timer, .int .i64 H.patience, .int .i64 H.tries, .int .i64 H.limit, .int .i64 H.since, .int .i64 H.pause, .int .i64 H.halt] 25)
  have t8 : (w8.alloc (.cells #[.int .i64 H.craft, .int .i64 H.next, .int .i64 H.ahead, .slice Sp m1 cp, .slice Ap m2 dp, .int .i64 H.timer, .int .i64 H.patience, .int .i64 H.tries, .int .i64 H.limit, .int .i64 H.since, .int .i64 H.pause, .int .i64 H.halt] 25)).heap.size = w8.heap.size + 1 := by simp
  go_wp2_with fail
  generalize w8.alloc (.cells #[.int .i64 H.craft, .int .i64 H.next, .int .i64 H.ahead, .slice Sp m1 cp, .slice Ap m2 dp, .int .i64 H.timer, .int .i64 H.patience, .int .i64 H.tries, .int .i64 H.limit, .int .i64 H.since, .int .i64 H.pause, .int .i64 H.halt] 25) = W8 at *
  go_loopw [19, 20] (fun ov iv wr => ∃ (k : Nat) (l : List RowR) (B : Option Addr) (d : Nat), k ≤ nR ∧ Hid (l.map RowR.b = rows.take k) ∧ ov = .slice B k d ∧ iv = .int .i64 (k : Int) ∧ OwnRs wr W8.heap.size B k d l ∧ Below W8.heap.size W8 wr) (fun _ iv _ => nR - (intOf iv).toNat)
  case atStart => exact ⟨0, [], none, 0, Nat.zero_le _, Lib.hid rfl, rfl, rfl, OwnRs.nil _ _, Below.refl _ _⟩
  case round =>
    obtain ⟨k, l, B, dz, hk, HSS, rfl, rfl, hO, hbl⟩ := hrel
    by_cases h5 : k < nR
    · have h5i : (k : Int) < (nR : Int) := by omega
      have hkl : k < rows.length := by rw [NR.out]; exact h5
      have hbk := F5.out.2 _ (List.getElem_mem hkl)
      have HTk : Hid (rows.take (k + 1) = rows.take k ++ [rows[k]]) := Lib.hid (List.take_succ_eq_append_getElem hkl)
      have hBw := hB.trans (hbl.mono hB.size)
      obtain ⟨g, o, D, dc, rfl, hc, hRD, hdc⟩ := (HRr.out.below hBw).at_ hkl
      generalize rows[k] = x at *
      obtain ⟨m, hm⟩ : ∃ m, x.length = m := ⟨_, rfl⟩
      rw [hm] at hc hdc hbk
      have q1 : Hid ((bvs x).length = m * 1) := Lib.hid (by simp [bvs, hm])
      have HM := Lib.hid hm
      clear hm
      have q2 : 0 + m ≤ maxLen := by unfold maxLen; omega
      have q3 : (0 + m) * 1 ≤ 140737488355328 := by omega
      have q4 : k + 1 ≤ maxLen := by unfold maxLen; omega
      have q5 : (k + 1) * 24 ≤ 140737488355328 := by omega
      have hbs := hbl.size
      have hOa := hO.arr
      go_wp2_with (at_builtin; first
        | ((with_reducible refine wpList_append_Own _ rfl (.const (.slice none 0 0)) (.tmp 87) 26 rfl W8.heap.size 5 i0 _ 1 1 Try.underlying26 hi0 hz0' hz1 hz2 rfl none 0 0 [] rfl (Own.none_ _ _ _ _) D m dc (bvs x) rfl q1.out hRD (bvs_one _) q2 q3 hbs ?_); intro A4 c4 w4 hO4 hg4 hor4; rw [Nat.zero_add, List.nil_append] at hO4; have hb4 := below_of_grown hg4; have hB5 := (hOa.step hb4).alloc (.cells #[.slice A4 m c4] 26); have hR5 := Rd_new w4 [.slice A4 m c4] 26; have hbs5 : W8.heap.size ≤ (w4.alloc (.cells #[.slice A4 m c4] 26)).heap.size := (by have := hb4.size; simp; omega))
        | ((with_reducible refine wpList_append_Own (w4.alloc (.cells #[.slice A4 m c4] 26)) rfl (.tmp 83) (.tmp 89) 22 rfl W8.heap.size 26 j0 _ 1 24 Try.underlying22 hj0 hy0 hy1 hy2 rfl B k dz (rowvs l) rfl hB5 (some ⟨w4.heap.size, 0, none⟩) 1 1 [.slice A4 m c4] rfl rfl hR5 (one_slice A4 m c4) q4 q5 hbs5 ?_); intro B6 d6 w6 hB6 hg6 hor6))
      have hb5 : Below wr.heap.size wr (w4.alloc (.cells #[.slice A4 m c4] 26)) := hb4.alloc hb4.size _
      have hx5 : Own (w4.alloc (.cells #[.slice A4 m c4] 26)) W8.heap.size 5 1 A4 x.length c4 (bvs x) := by rw [HM.out]; exact hO4.alloc _
      have hxm : ∀ q, blk A4 = some q → wr.heap.size ≤ q := fun q hq => by
        rcases hor4 with h | h
        · rw [h] at hq; simp [blk] at hq
        · rw [h] at hq; injection hq with hq; omega
      have hO6 := add_row (x := ⟨x, A4, c4⟩) (hO.bs.step hb5) hx5 hB5 hg6 (m := wr.heap.size) (fun i y hy q hq => (hO.bs.lt hy hq).2) hxm (by show Own _ _ _ _ _ _ _ (rowvs l ++ [.slice A4 x.length c4]); rw [HM.out]; exact hB6)
      refine ⟨⟨k + 1, l ++ [⟨x, A4, c4⟩], B6, d6, by omega, Lib.hid ?_, rfl, by go_num, hO6, ?_⟩, by simp [intOf]; omega⟩
      · rw [List.map_append, HSS.out, HTk.out]; rfl
      · exact Below.grown' (hbl.trans (hb5.mono hbs)) hg6 hbs5 (fun q hq => (hOa.lt q hq).1)
    · obtain rfl : nR = k := by omega
      have h5i : ¬ (nR : Int) < (nR : Int) := by omega
      have MK : Hid (l.map RowR.b = rows) := Lib.hid (by rw [HSS.out, ← NR.out, List.take_length])
      clear HSS
      have s9 := hbl.size
      replace b6 := b6.step hbl
      replace b7 := b7.step hbl
      replace b11 := b11.step hbl
      replace b12 := b12.step hbl
      replace b15 := b15.step hbl
      replace b18 := b18.step hbl
      replace hOks := hOks.step hbl
      replace hOka := hOka.step hbl
      replace hOxs := hOxs.step hbl
      replace hOxa := hOxa.step hbl
      replace hOxr := hOxr.step hbl
      replace hOys := hOys.step hbl
      replace hOya := hOya.step hbl
      replace hOyr := hOyr.step hbl
      replace hOps := hOps.step hbl
      replace hOpa := hOpa.step hbl
      replace hB := hB.trans (hbl.mono hB.size)
      clear hbl
      have hOkk := hO
      clear hO
      have Lkk := Lib.hid (fun (q : Nat) (hq : Touch B l q) => hOkk.lt hq)
      clear b6
      clear b7
      have ec := b12.cell' (i := 3) rfl
      go_wp2_with fail
      clear ec
      refine (spoilRows_any W1.heap.size Sx m1 cx slx wr hOxs F3.out.1 (fit_rows Mxs.out F3.out.2) (by omega)).mono ?_
      rintro e x1 ⟨rfl, hT⟩
      have y1 := hT.size
      replace b11 := b11.turned hT (fun ht => by have := Lxs.out _ ht; omega)
      replace b12 := b12.turned hT (fun ht => by have := Lxs.out _ ht; omega)
      replace b15 := b15.turned hT (fun ht => by have := Lxs.out _ ht; omega)
      replace b18 := b18.turned hT (fun ht => by have := Lxs.out _ ht; omega)
      replace hOks := hOks.turned hT (fun q hq ht => by have h1 := Lks.out q hq; have h2 := Lxs.out q ht; omega)
      replace hOka := hOka.turned hT (fun q hq ht => by have h1 := Lka.out q hq; have h2 := Lxs.out q ht; omega)
      replace hOxa := hOxa.turned hT (Disj.symm Dx1.out)
      replace hOxr := hOxr.turned hT (Disj.symm Dx2.out)
      replace hOys := hOys.turned hT (fun q hq ht => by have h1 := Lys.out q hq; have h2 := Lxs.out q ht; omega)
      replace hOya := hOya.turned hT (fun q hq ht => by have h1 := Lya.out q hq; have h2 := Lxs.out q ht; omega)
      replace hOyr := hOyr.turned hT (fun q hq ht => by have h1 := Lyr.out q hq; have h2 := Lxs.out q ht; omega)
      replace hOps := hOps.turned hT (fun q hq ht => by have h1 := Lps.out q hq; have h2 := Lxs.out q ht; omega)
      replace hOpa := hOpa.turned hT (fun q hq ht => by have h1 := Lpa.out q hq; have h2 := Lxs.out q ht; omega)
      replace hOkk := hOkk.turned hT (fun q hq ht => by have h1 := Lkk.out q hq; have h2 := Lxs.out q ht; omega)
      replace hB := hB.trans (hT.below (N := w.heap.size) (fun q ht => by have := Lxs.out q ht; omega) hB.size)
      clear hT
      have ec := b12.cell' (i := 4) rfl
      go_wp2_with fail
      clear ec
      refine (spoilRows_any W1.heap.size Ax m2 dx alx x1 hOxa F4.out.1 (fit_rows Mxa.out F4.out.2) (by omega)).mono ?_
      rintro e x2 ⟨rfl, hT⟩
      have y2 := hT.size
      replace b11 := b11.turned hT (fun ht => by have := Lxa.out _ ht; omega)
      replace b12 := b12.turned hT (fun ht => by have := Lxa.out _ ht; omega)
      replace b15 := b15.turned hT (fun ht => by have := Lxa.out _ ht; omega)
      replace b18 := b18.turned hT (fun ht => by have := Lxa.out _ ht; omega)
      replace hOks := hOks.turned hT (fun q hq ht => by have h1 := Lks.out q hq; have h2 := Lxa.out q ht; omega)
      replace hOka := hOka.turned hT (fun q hq ht => by have h1 := Lka.out q hq; have h2 := Lxa.out q ht; omega)
      replace hOxr := hOxr.turned hT (Disj.symm Dx3.out)
      replace hOys := hOys.turned hT (fun q hq ht => by have h1 := Lys.out q hq; have h2 := Lxa.out q ht; omega)
      replace hOya := hOya.turned hT (fun q hq ht => by have h1 := Lya.out q hq; have h2 := Lxa.out q ht; omega)
      replace hOyr := hOyr.turned hT (fun q hq ht => by have h1 := Lyr.out q hq; have h2 := Lxa.out q ht; omega)
      replace hOps := hOps.turned hT (fun q hq ht => by have h1 := Lps.out q hq; have h2 := Lxa.out q ht; omega)
      replace hOpa := hOpa.turned hT (fun q hq ht => by have h1 := Lpa.out q hq; have h2 := Lxa.out q ht; omega)
      replace hOkk := hOkk.turned hT (fun q hq ht => by have h1 := Lkk.out q hq; have h2 := Lxa.out q ht; omega)
      replace hB := hB.trans (hT.below (N := w.heap.size) (fun q ht => by have := Lxa.out q ht; omega) hB.size)
      clear hT
      have ec := b11.cell' (i := 3) rfl
      go_wp2_with fail
      clear ec
      refine (spoilRows_any W0.heap.size Sk n1 ck slk x2 hOks F1.out.1 (fit_rows Mks.out F1.out.2) (by omega)).mono ?_
      rintro e x3 ⟨rfl, hT⟩
      have y3 := hT.size
      replace b11 := b11.turned hT (fun ht => by have := Lks.out _ ht; omega)
      replace b12 := b12.turned hT (fun ht => by have := Lks.out _ ht; omega)
      replace b15 := b15.turned hT (fun ht => by have := Lks.out _ ht; omega)
      replace b18 := b18.turned hT (fun ht => by have := Lks.out _ ht; omega)
      replace hOka := hOka.turned hT (Disj.symm Dk1.out)
      replace hOxr := hOxr.turned hT (fun q hq ht => by have h1 := Lxr.out q hq; have h2 := Lks.out q ht; omega)
      replace hOys := hOys.turned hT (fun q hq ht => by have h1 := Lys.out q hq; have h2 := Lks.out q ht; omega)
      replace hOya := hOya.turned hT (fun q hq ht => by have h1 := Lya.out q hq; have h2 := Lks.out q ht; omega)
      replace hOyr := hOyr.turned hT (fun q hq ht => by have h1 := Lyr.out q hq; have h2 := Lks.out q ht; omega)
      replace hOps := hOps.turned hT (fun q hq ht => by have h1 := Lps.out q hq; have h2 := Lks.out q ht; omega)
      replace hOpa := hOpa.turned hT (fun q hq ht => by have h1 := Lpa.out q hq; have h2 := Lks.out q ht; omega)
      replace hOkk := hOkk.turned hT (fun q hq ht => by have h1 := Lkk.out q hq; have h2 := Lks.out q ht; omega)
      replace hB := hB.trans (hT.below (N := w.heap.size) (fun q ht => by have := Lks.out q ht; omega) hB.size)
      clear hT
      have ec := b11.cell' (i := 4) rfl
      go_wp2_with fail
      clear ec
      refine (spoilRows_any W0.heap.size Ak n2 dk alk x3 hOka F2.out.1 (fit_rows Mka.out F2.out.2) (by omega)).mono ?_
      rintro e x4 ⟨rfl, hT⟩
      have y4 := hT.size
      replace b11 := b11.turned hT (fun ht => by have := Lka.out _ ht; omega)
      replace b12 := b12.turned hT (fun ht => by have := Lka.out _ ht; omega)
      replace b15 := b15.turned hT (fun ht => by have := Lka.out _ ht; omega)
      replace b18 := b18.turned hT (fun ht => by have := Lka.out _ ht; omega)
      replace hOxr := hOxr.turned hT (fun q hq ht => by have h1 := Lxr.out q hq; have h2 := Lka.out q ht; omega)
      replace hOys := hOys.turned hT (fun q hq ht => by have h1 := Lys.out q hq; have h2 := Lka.out q ht; omega)
      replace hOya := hOya.turned hT (fun q hq ht => by have h1 := Lya.out q hq; have h2 := Lka.out q ht; omega)
      replace hOyr := hOyr.turned hT (fun q hq ht => by have h1 := Lyr.out q hq; have h2 := Lka.out q ht; omega)
      replace hOps := hOps.turned hT (fun q hq ht => by have h1 := Lps.out q hq; have h2 := Lka.out q ht; omega)
      replace hOpa := hOpa.turned hT (fun q hq ht => by have h1 := Lpa.out q hq; have h2 := Lka.out q ht; omega)
      replace hOkk := hOkk.turned hT (fun q hq ht => by have h1 := Lkk.out q hq; have h2 := Lka.out q ht; omega)
      replace hB := hB.trans (hT.below (N := w.heap.size) (fun q ht => by have := Lka.out q ht; omega) hB.size)
      clear hT
      go_wp2_with fail
      refine (spoilRows_any W1.heap.size Rx nR cRx rlx x4 hOxr F5.out.1 (fit_rows Mxr.out F5.out.2) (by omega)).mono ?_
      rintro e x5 ⟨rfl, hT⟩
      have y5 := hT.size
      replace b11 := b11.turned hT (fun ht => by have := Lxr.out _ ht; omega)
      replace b12 := b12.turned hT (fun ht => by have := Lxr.out _ ht; omega)
      replace b15 := b15.turned hT (fun ht => by have := Lxr.out _ ht; omega)
      replace b18 := b18.turned hT (fun ht => by have := Lxr.out _ ht; omega)
      replace hOys := hOys.turned hT (fun q hq ht => by have h1 := Lys.out q hq; have h2 := Lxr.out q ht; omega)
      replace hOya := hOya.turned hT (fun q hq ht => by have h1 := Lya.out q hq; have h2 := Lxr.out q ht; omega)
      replace hOyr := hOyr.turned hT (fun q hq ht => by have h1 := Lyr.out q hq; have h2 := Lxr.out q ht; omega)
      replace hOps := hOps.turned hT (fun q hq ht => by have h1 := Lps.out q hq; have h2 := Lxr.out q ht; omega)
      replace hOpa := hOpa.turned hT (fun q hq ht => by have h1 := Lpa.out q hq; have h2 := Lxr.out q ht; omega)
      replace hOkk := hOkk.turned hT (fun q hq ht => by have h1 := Lkk.out q hq; have h2 := Lxr.out q ht; omega)
      replace hB := hB.trans (hT.below (N := w.heap.size) (fun q ht => by have := Lxr.out q ht; omega) hB.size)
      clear hT
      go_wp2_with (first
        | (refine wpList_load_row rfl 25 (.tmp 15) rfl (w3.heap.size) rfl 25 #[.int .i64 H.craft, .int .i64 H.next, .int .i64 H.ahead, .slice Sy m1 cy, .slice Ay m2 dy, .int .i64 H.timer, .int .i64 H.patience, .int .i64 H.tries, .int .i64 H.limit, .int .i64 H.since, .int .i64 H.pause, .int .i64 H.halt] (0, 0) _ b15 Try.underlying25 rfl handsz ?_)
        | (refine wpList_load_row rfl 25 (.tmp 18) rfl (w8.heap.size) rfl 25 #[.int .i64 H.craft, .int .i64 H.next, .int .i64 H.ahead, .slice Sp m1 cp, .slice Ap m2 dp, .int .i64 H.timer, .int .i64 H.patience, .int .i64 H.tries, .int .i64 H.limit, .int .i64 H.since, .int .i64 H.pause, .int .i64 H.halt] (0, 0) _ b18 Try.underlying25 rfl handsz ?_))
      refine (sameHand_n H Sy m1 cy Ay m2 dy Sp cp Ap dp _ M1.out M2.out ?_ ?_ ?_ ?_ (by omega) (by omega)).mono ?_
      · exact (by rw [← Mys.out]; exact hOys.rd)
      · exact (by rw [← Mya.out]; exact hOya.rd)
      · exact (by rw [← Mps.out]; exact hOps.rd)
      · exact (by rw [← Mpa.out]; exact hOpa.rd)
      rintro e v6 ⟨rfl, hb⟩
      have u6 := hb.size
      replace b11 := b11.step hb
      replace b12 := b12.step hb
      replace b15 := b15.step hb
      replace b18 := b18.step hb
      replace hOys := hOys.step hb
      replace hOya := hOya.step hb
      replace hOyr := hOyr.step hb
      replace hOps := hOps.step hb
      replace hOpa := hOpa.step hb
      replace hOkk := hOkk.step hb
      replace hB := hB.trans (hb.mono hB.size)
      clear hb
      go_wp2_with fail
      refine (sameRows_yes Ry B rows nR nR cRy dz _ NR.out NR.out (by rw [NR.out]; omega) (by rw [← Myr.out]; exact hOyr.rd) (by rw [← MK.out]; exact hOkk.rd)).mono ?_
      rintro e w' ⟨rfl, nq, rfl⟩
      go_wp2_with fail
      go_ret
      exact ⟨rfl, below_drewN hB nq⟩
end Go.Proofs.Ytppmdamcdhmcpaa
