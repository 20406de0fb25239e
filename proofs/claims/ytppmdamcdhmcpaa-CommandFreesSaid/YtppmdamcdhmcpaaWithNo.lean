/-
  command.with: nothing is done to a hand that can't be.
-/
import Derived.Test.YtppmdamcdhmcpaaDoOut
namespace Go.Proofs.Ytppmdamcdhmcpaa
set_option linter.unusedSimpArgs false
set_option linter.unusedVariables false
open Go.RowKit

set_option maxHeartbeats 12800000 in
set_option maxRecDepth 100000 in
theorem with_no (F : Value) (h : Hnd) (S : Option Addr) (n1 c : Nat) (A : Option Addr) (n2 d : Nat) (w : World) (hS : RdRows w S h.sent) (hA : RdRows w A h.asked) (hn1 : h.sent.length = n1) (hn2 : h.asked.length = n2) (f1 : RowsFit h.sent n1) (f2 : RowsFit h.asked n2) (hok : ¬ handOk h) :
    Calls Try.prog 21 #[hvn h S n1 c A n2 d, F] w fun e w' => HandOut w w' Hnd.zero 0 0 [] 0 11 e := by
  have CM := Lib.hid (fun w (hS : RdRows w S h.sent) (hA : RdRows w A h.asked) => pready_any h S c A d w hS hA (by rw [hn1]; exact f1.1) (by rw [hn2]; exact f2.1) f1.2 f2.2)
  rw [← hvn_hdv, hn1, hn2] at CM
  rw [show handB h = false from decide_eq_false hok] at CM
  have HS := Lib.hid hS
  have HA := Lib.hid hA
  clear hS hA hn1 hn2 f1 f2 hok
  unfold hvn at CM ⊢
  have b2 := (Blk.new w 25 #[.int .i64 h.craft, .int .i64 h.next, .int .i64 h.ahead, .slice S n1 c, .slice A n2 d, .int .i64 h.timer, .int .i64 h.patience, .int .i64 h.tries, .int .i64 h.limit, .int .i64 h.since, .int .i64 h.pause, .int .i64 h.halt]).alloc (.cells #[.int .i64 0, .int .i64 0, .int .i64 0, .slice none 0 0, .slice none 0 0, .int .i64 0, .int .i64 0, .int .i64 0, .int .i64 0, .int .i64 0, .int .i64 0, .int .i64 0] 25)
  have b4 := Blk.new (w.alloc (.cells #[.int .i64 h.craft, .int .i64 h.next, .int .i64 h.ahead, .slice S n1 c, .slice A n2 d, .int .i64 h.timer, .int .i64 h.patience, .int .i64 h.tries, .int .i64 h.limit, .int .i64 h.since, .int .i64 h.pause, .int .i64 h.halt] 25)) 25 #[.int .i64 0, .int .i64 0, .int .i64 0, .slice none 0 0, .slice none 0 0, .int .i64 0, .int .i64 0, .int .i64 0, .int .i64 0, .int .i64 0, .int .i64 0, .int .i64 0]
  rw [show (w.alloc (.cells #[.int .i64 h.craft, .int .i64 h.next, .int .i64 h.ahead, .slice S n1 c, .slice A n2 d, .int .i64 h.timer, .int .i64 h.patience, .int .i64 h.tries, .int .i64 h.limit, .int .i64 h.since, .int .i64 h.pause, .int .i64 h.halt] 25)).heap.size = w.heap.size + 1 by simp] at b4
  have hB : Below w.heap.size w ((w.alloc (.cells #[.int .i64 h.craft, .int .i64 h.next, .int .i64 h.ahead, .slice S n1 c, .slice A n2 d, .int .i64 h.timer, .int .i64 h.patience, .int .i64 h.tries, .int .i64 h.limit, .int .i64 h.since, .int .i64 h.pause, .int .i64 h.halt] 25)).alloc (.cells #[.int .i64 0, .int .i64 0, .int .i64 0, .slice none 0 0, .slice none 0 0, .int .i64 0, .int .i64 0, .int .i64 0, .int .i64 0, .int .i64 0, .int .i64 0, .int .i64 0] 25)) := ((Below.refl _ _).alloc (Nat.le_refl _) _).alloc (by simp) _
  have s0 : ((w.alloc (.cells #[.int .i64 h.craft, .int .i64 h.next, .int .i64 h.ahead, .slice S n1 c, .slice A n2 d, .int .i64 h.timer, .int .i64 h.patience, .int .i64 h.tries, .int .i64 h.limit, .int .i64 h.since, .int .i64 h.pause, .int .i64 h.halt] 25)).alloc (.cells #[.int .i64 0, .int .i64 0, .int .i64 0, .slice none 0 0, .slice none 0 0, .int .i64 0, .int .i64 0, .int .i64 0, .int .i64 0, .int .i64 0, .int .i64 0, .int .i64 0] 25)).heap.size = w.heap.size + 2 := by simp
  go_enter Try.func21, Try.ntmps21
  go_wp2_with (refine wpList_load_row rfl 25 (.tmp 2) rfl (w.heap.size) rfl 25 #[.int .i64 h.craft, .int .i64 h.next, .int .i64 h.ahead, .slice S n1 c, .slice A n2 d, .int .i64 h.timer, .int .i64 h.patience, .int .i64 h.tries, .int .i64 h.limit, .int .i64 h.since, .int .i64 h.pause, .int .i64 h.halt] (0, 0) _ b2 Try.underlying25 rfl handsz ?_)
  generalize (w.alloc (.cells #[.int .i64 h.craft, .int .i64 h.next, .int .i64 h.ahead, .slice S n1 c, .slice A n2 d, .int .i64 h.timer, .int .i64 h.patience, .int .i64 h.tries, .int .i64 h.limit, .int .i64 h.since, .int .i64 h.pause, .int .i64 h.halt] 25)).alloc (.cells #[.int .i64 0, .int .i64 0, .int .i64 0, .slice none 0 0, .slice none 0 0, .int .i64 0, .int .i64 0, .int .i64 0, .int .i64 0, .int .i64 0, .int .i64 0, .int .i64 0] 25) = W0 at *
  refine (CM.out W0 (HS.out.below hB) (HA.out.below hB)).mono ?_
  rintro e w1 ⟨rfl, hb⟩
  clear CM
  have s1 := hb.size
  replace b4 := b4.step hb
  replace hB := hB.trans (hb.mono hB.size)
  go_wp2_with (first | (refine wpList_store_row rfl 25 (.tmp 4) (.tmp 12) rfl (w.heap.size + 1) #[.int .i64 0, .int .i64 0, .int .i64 0, .slice none 0 0, .slice none 0 0, .int .i64 0, .int .i64 0, .int .i64 0, .int .i64 0, .int .i64 0, .int .i64 0, .int .i64 0] rfl rfl 25 _ b4 handsz rfl (by simp [Value.oneCell']) ?_))
  have b4' := b4.row #[.int .i64 0, .int .i64 0, .int .i64 0, .slice none 0 0, .slice none 0 0, .int .i64 0, .int .i64 0, .int .i64 0, .int .i64 0, .int .i64 0, .int .i64 0, .int .i64 0]
  refine bodyPost_ret (v := .tuple #[.agg #[.int .i64 0, .int .i64 0, .int .i64 0, .slice none 0 0, .slice none 0 0, .int .i64 0, .int .i64 0, .int .i64 0, .int .i64 0, .int .i64 0, .int .i64 0, .int .i64 0], .slice none 0 0, .int .i64 11]) (results_cell_slot2 (ty := 25) Try.results21 _ _ (w.heap.size + 1) 25 _ (0, 0) _ rfl rfl rfl b4' Try.underlying25 rfl handsz) rfl ?_
  exact ⟨none, 0, none, 0, none, 0, [], [], [], rfl, ⟨rfl, rfl, rfl⟩, OwnRs.nil _ _, OwnRs.nil _ _, OwnRs.nil _ _, Disj.nil _ _, Disj.nil _ _, Disj.nil _ _, below_row hB (by omega) _⟩
end Go.Proofs.Ytppmdamcdhmcpaa
