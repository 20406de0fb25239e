/-
  CommandAsks's walk.
-/
import Derived.Test.YtppmdamcdhmcpaaHandAsAsk
import Derived.Test.YtppmdamcdhmcpaaAsk
import Derived.Test.YtppmdamcdhmcpaaAsked
import Derived.Test.YtppmdamcdhmcpaaOpenHand
import Derived.Test.YtppmdamcdhmcpaaRoomy
import Derived.Test.YtppmdamcdhmcpaaLeft
import Derived.Test.YtppmdamcdhmcpaaSpoil
namespace Go.Proofs.Ytppmdamcdhmcpaa
set_option linter.unusedSimpArgs false
set_option linter.unusedVariables false
open Go.RowKit

theorem askR_fits {h : Hnd} {l : List UInt8} (f1 : RowsFit h.sent h.sent.length) (f2 : RowsFit h.asked h.asked.length) : RowsFit (askR h l).1.sent (askR h l).1.sent.length ∧ RowsFit (askR h l).1.asked (askR h l).1.asked.length := by
  have z : RowsFit [] 0 := ⟨by decide, fun l hl => by cases hl⟩
  unfold askR
  split
  · split
    · rename_i hk
      split
      · exact ⟨f1, f2⟩
      · refine ⟨f1, ?_, fun x hx => ?_⟩
        · simp only [List.length_append, List.length_singleton]; omega
        · rcases List.mem_append.1 hx with h1 | h1
          · exact f2.2 x h1
          · obtain rfl : x = l := by simpa using h1
            have := hk.2; omega
    · exact ⟨f1, f2⟩
  · exact ⟨z, z⟩
theorem OwnRs.allocRow {w : World} {base n c : Nat} {A : Option Addr} {l : List RowR} (h : OwnRs w base A n c l) (o : Obj) (ds : Array Value) : OwnRs ((w.alloc o).setRow w.heap.size ds) base A n c l :=
  (h.alloc o).keep fun q hq => setRow_other _ _ q _ (by have := (h.lt hq).2; omega)
theorem below_allocRow {N : Nat} {w0 w : World} (h : Below N w0 w) (hN : N ≤ w.heap.size) (o : Obj) (ds : Array Value) : Below N w0 ((w.alloc o).setRow w.heap.size ds) := below_row (h.alloc hN o) hN ds

set_option maxHeartbeats 12800000 in
set_option maxRecDepth 100000 in
theorem asks1_any (h : Hnd) (S : Option Addr) (n1 c : Nat) (A : Option Addr) (n2 d : Nat) (l : List UInt8) (p g nl : Nat) (w : World) (hS : RdRows w S h.sent) (hA : RdRows w A h.asked) (hn1 : h.sent.length = n1) (hn2 : h.asked.length = n2) (f1 : RowsFit h.sent n1) (f2 : RowsFit h.asked n2)
    (hp : w.cell? ⟨p, 0, none⟩ = some (.slice (some ⟨g, 0, none⟩) nl (nl + 5))) (hX : Rd w (some ⟨g, 0, none⟩) (bvs l)) (hnl : l.length = nl) (H : Hnd) (m1 m2 : Nat) (err : Int) (hR : askR h l = (H, err)) (hm1 : H.sent.length = m1) (hm2 : H.asked.length = m2) :
    Calls Try.prog 8 #[hvn h S n1 c A n2 d, .pointer (some ⟨p, 0, none⟩)] w fun e w' => HandOut w w' H m1 m2 [] 0 err e := by
  have CW := Lib.hid (fun w (hS : RdRows w S h.sent) (hA : RdRows w A h.asked) (hX : Rd w (some ⟨g, 0, none⟩) (bvs l)) => pask_any h S n1 c A n2 d (some ⟨g, 0, none⟩) l nl (nl + 5) w hS hA hn1 hn2 f1 f2 hX hnl H m1 m2 err hR hm1 hm2)
  have HS := Lib.hid hS
  have HA := Lib.hid hA
  have HX := Lib.hid hX
  have hlt := World.block_lt_of_cell? _ _ hp
  clear hS hA hX hn1 hn2 f1 f2 hnl hR hm1 hm2
  unfold hvn at CW ⊢
  have e1 : (w.alloc (.cells #[.int .i64 h.craft, .int .i64 h.next, .int .i64 h.ahead, .slice S n1 c, .slice A n2 d, .int .i64 h.timer, .int .i64 h.patience, .int .i64 h.tries, .int .i64 h.limit, .int .i64 h.since, .int .i64 h.pause, .int .i64 h.halt] 25)).heap.size = w.heap.size + 1 := by simp
  have s0 : ((w.alloc (.cells #[.int .i64 h.craft, .int .i64 h.next, .int .i64 h.ahead, .slice S n1 c, .slice A n2 d, .int .i64 h.timer, .int .i64 h.patience, .int .i64 h.tries, .int .i64 h.limit, .int .i64 h.since, .int .i64 h.pause, .int .i64 h.halt] 25)).alloc (.cells #[.int .i64 0, .int .i64 0, .int .i64 0, .slice none 0 0, .slice none 0 0, .int .i64 0, .int .i64 0, .int .i64 0, .int .i64 0, .int .i64 0, .int .i64 0, .int .i64 0] 25)).heap.size = w.heap.size + 2 := by simp
  have b2 := (Blk.new w 25 #[.int .i64 h.craft, .int .i64 h.next, .int .i64 h.ahead, .slice S n1 c, .slice A n2 d, .int .i64 h.timer, .int .i64 h.patience, .int .i64 h.tries, .int .i64 h.limit, .int .i64 h.since, .int .i64 h.pause, .int .i64 h.halt]).alloc (.cells #[.int .i64 0, .int .i64 0, .int .i64 0, .slice none 0 0, .slice none 0 0, .int .i64 0, .int .i64 0, .int .i64 0, .int .i64 0, .int .i64 0, .int .i64 0, .int .i64 0] 25)
  have b3 := Blk.new (w.alloc (.cells #[.int .i64 h.craft, .int .i64 h.next, .int .i64 h.ahead, .slice S n1 c, .slice A n2 d, .int .i64 h.timer, .int .i64 h.patience, .int .i64 h.tries, .int .i64 h.limit, .int .i64 h.since, .int .i64 h.pause, .int .i64 h.halt] 25)) 25 #[.int .i64 0, .int .i64 0, .int .i64 0, .slice none 0 0, .slice none 0 0, .int .i64 0, .int .i64 0, .int .i64 0, .int .i64 0, .int .i64 0, .int .i64 0, .int .i64 0]
  rw [e1] at b3
  have hB : Below w.heap.size w ((w.alloc (.cells #[.int .i64 h.craft, .int .i64 h.next, .int .i64 h.ahead, .slice S n1 c, .slice A n2 d, .int .i64 h.timer, .int .i64 h.patience, .int .i64 h.tries, .int .i64 h.limit, .int .i64 h.since, .int .i64 h.pause, .int .i64 h.halt] 25)).alloc (.cells #[.int .i64 0, .int .i64 0, .int .i64 0, .slice none 0 0, .slice none 0 0, .int .i64 0, .int .i64 0, .int .i64 0, .int .i64 0, .int .i64 0, .int .i64 0, .int .i64 0] 25)) := ((Below.refl _ _).alloc (Nat.le_refl _) _).alloc (by simp) _
  clear e1
  have hp2 := (hB.cell (p := ⟨p, 0, none⟩) hlt).trans hp
  go_enter Try.func8, Try.ntmps8
  go_wp2_with (refine wpList_load_row rfl 25 (.tmp 2) rfl (w.heap.size) rfl 25 #[.int .i64 h.craft, .int .i64 h.next, .int .i64 h.ahead, .slice S n1 c, .slice A n2 d, .int .i64 h.timer, .int .i64 h.patience, .int .i64 h.tries, .int .i64 h.limit, .int .i64 h.since, .int .i64 h.pause, .int .i64 h.halt] (0, 0) _ b2 Try.underlying25 rfl handsz ?_)
  clear hp2
  generalize (w.alloc (.cells #[.int .i64 h.craft, .int .i64 h.next, .int .i64 h.ahead, .slice S n1 c, .slice A n2 d, .int .i64 h.timer, .int .i64 h.patience, .int .i64 h.tries, .int .i64 h.limit, .int .i64 h.since, .int .i64 h.pause, .int .i64 h.halt] 25)).alloc (.cells #[.int .i64 0, .int .i64 0, .int .i64 0, .slice none 0 0, .slice none 0 0, .int .i64 0, .int .i64 0, .int .i64 0, .int .i64 0, .int .i64 0, .int .i64 0, .int .i64 0] 25) = W0 at *
  refine (CW.out W0 (HS.out.below hB) (HA.out.below hB) (HX.out.below hB)).mono ?_
  rintro e w1 ⟨S9, c9, A9, d9, sl9, al9, rfl, ⟨h91, h92⟩, hO9s, hO9a, dj1, hb⟩
  have H91 := Lib.hid h91
  have H92 := Lib.hid h92
  have D1 := Lib.hid dj1
  clear CW h91 h92 dj1
  have s1 := hb.size
  replace b3 := b3.step hb
  replace hB := hB.trans (hb.mono hB.size)
  clear hb b2
  unfold hvn
  have b6 := Blk.new w1 25 #[.int .i64 0, .int .i64 0, .int .i64 0, .slice none 0 0, .slice none 0 0, .int .i64 0, .int .i64 0, .int .i64 0, .int .i64 0, .int .i64 0, .int .i64 0, .int .i64 0]
  have b3' := (b3.alloc (.cells #[.int .i64 0, .int .i64 0, .int .i64 0, .slice none 0 0, .slice none 0 0, .int .i64 0, .int .i64 0, .int .i64 0, .int .i64 0, .int .i64 0, .int .i64 0, .int .i64 0] 25)).farRow (g := w1.heap.size) (by omega) #[.int .i64 H.craft, .int .i64 H.next, .int .i64 H.ahead, .slice S9 m1 c9, .slice A9 m2 d9, .int .i64 H.timer, .int .i64 H.patience, .int .i64 H.tries, .int .i64 H.limit, .int .i64 H.since, .int .i64 H.pause, .int .i64 H.halt]
  have hO9s' := hO9s.allocRow (.cells #[.int .i64 0, .int .i64 0, .int .i64 0, .slice none 0 0, .slice none 0 0, .int .i64 0, .int .i64 0, .int .i64 0, .int .i64 0, .int .i64 0, .int .i64 0, .int .i64 0] 25) #[.int .i64 H.craft, .int .i64 H.next, .int .i64 H.ahead, .slice S9 m1 c9, .slice A9 m2 d9, .int .i64 H.timer, .int .i64 H.patience, .int .i64 H.tries, .int .i64 H.limit, .int .i64 H.since, .int .i64 H.pause, .int .i64 H.halt]
  have hO9a' := hO9a.allocRow (.cells #[.int .i64 0, .int .i64 0, .int .i64 0, .slice none 0 0, .slice none 0 0, .int .i64 0, .int .i64 0, .int .i64 0, .int .i64 0, .int .i64 0, .int .i64 0, .int .i64 0] 25) #[.int .i64 H.craft, .int .i64 H.next, .int .i64 H.ahead, .slice S9 m1 c9, .slice A9 m2 d9, .int .i64 H.timer, .int .i64 H.patience, .int .i64 H.tries, .int .i64 H.limit, .int .i64 H.since, .int .i64 H.pause, .int .i64 H.halt]
  have hB' := below_allocRow hB hB.size (.cells #[.int .i64 0, .int .i64 0, .int .i64 0, .slice none 0 0, .slice none 0 0, .int .i64 0, .int .i64 0, .int .i64 0, .int .i64 0, .int .i64 0, .int .i64 0, .int .i64 0] 25) #[.int .i64 H.craft, .int .i64 H.next, .int .i64 H.ahead, .slice S9 m1 c9, .slice A9 m2 d9, .int .i64 H.timer, .int .i64 H.patience, .int .i64 H.tries, .int .i64 H.limit, .int .i64 H.since, .int .i64 H.pause, .int .i64 H.halt]
  have b6' := b6.row #[.int .i64 H.craft, .int .i64 H.next, .int .i64 H.ahead, .slice S9 m1 c9, .slice A9 m2 d9, .int .i64 H.timer, .int .i64 H.patience, .int .i64 H.tries, .int .i64 H.limit, .int .i64 H.since, .int .i64 H.pause, .int .i64 H.halt]
  have s3 : ((w1.alloc (.cells #[.int .i64 0, .int .i64 0, .int .i64 0, .slice none 0 0, .slice none 0 0, .int .i64 0, .int .i64 0, .int .i64 0, .int .i64 0, .int .i64 0, .int .i64 0, .int .i64 0] 25)).setRow w1.heap.size #[.int .i64 H.craft, .int .i64 H.next, .int .i64 H.ahead, .slice S9 m1 c9, .slice A9 m2 d9, .int .i64 H.timer, .int .i64 H.patience, .int .i64 H.tries, .int .i64 H.limit, .int .i64 H.since, .int .i64 H.pause, .int .i64 H.halt]).heap.size = w1.heap.size + 1 := by rw [setRow_size]; simp
  go_upto_region 2 with (refine wpList_store_row rfl 25 (.tmp 6) (.tmp 12) rfl (w1.heap.size) #[.int .i64 H.craft, .int .i64 H.next, .int .i64 H.ahead, .slice S9 m1 c9, .slice A9 m2 d9, .int .i64 H.timer, .int .i64 H.patience, .int .i64 H.tries, .int .i64 H.limit, .int .i64 H.since, .int .i64 H.pause, .int .i64 H.halt] rfl rfl 25 _ b6 handsz rfl (hand_one H S9 m1 c9 A9 m2 d9) ?_)
  obtain ⟨q, hq⟩ : ∃ q, q = w1.heap.size := ⟨_, rfl⟩
  rw [← hq] at b6' b3' hO9s' hO9a' hB' s3 ⊢
  clear b6 b3 hO9s hO9a hB
  generalize (w1.alloc (.cells #[.int .i64 0, .int .i64 0, .int .i64 0, .slice none 0 0, .slice none 0 0, .int .i64 0, .int .i64 0, .int .i64 0, .int .i64 0, .int .i64 0, .int .i64 0, .int .i64 0] 25)).setRow q #[.int .i64 H.craft, .int .i64 H.next, .int .i64 H.ahead, .slice S9 m1 c9, .slice A9 m2 d9, .int .i64 H.timer, .int .i64 H.patience, .int .i64 H.tries, .int .i64 H.limit, .int .i64 H.since, .int .i64 H.pause, .int .i64 H.halt] = W2 at *
  go_wp2_with (first | (refine wpList_load_row rfl 25 (.tmp 6) rfl (q) rfl 25 #[.int .i64 H.craft, .int .i64 H.next, .int .i64 H.ahead, .slice S9 m1 c9, .slice A9 m2 d9, .int .i64 H.timer, .int .i64 H.patience, .int .i64 H.tries, .int .i64 H.limit, .int .i64 H.since, .int .i64 H.pause, .int .i64 H.halt] (0, 0) _ b6' Try.underlying25 rfl handsz ?_) | (refine wpList_store_row rfl 25 (.tmp 3) (.tmp 14) rfl (w.heap.size + 1) #[.int .i64 H.craft, .int .i64 H.next, .int .i64 H.ahead, .slice S9 m1 c9, .slice A9 m2 d9, .int .i64 H.timer, .int .i64 H.patience, .int .i64 H.tries, .int .i64 H.limit, .int .i64 H.since, .int .i64 H.pause, .int .i64 H.halt] rfl rfl 25 _ b3' handsz rfl (hand_one H S9 m1 c9 A9 m2 d9) ?_))
  have b3'' := b3'.row #[.int .i64 H.craft, .int .i64 H.next, .int .i64 H.ahead, .slice S9 m1 c9, .slice A9 m2 d9, .int .i64 H.timer, .int .i64 H.patience, .int .i64 H.tries, .int .i64 H.limit, .int .i64 H.since, .int .i64 H.pause, .int .i64 H.halt]
  refine bodyPost_ret (v := .tuple #[.agg #[.int .i64 H.craft, .int .i64 H.next, .int .i64 H.ahead, .slice S9 m1 c9, .slice A9 m2 d9, .int .i64 H.timer, .int .i64 H.patience, .int .i64 H.tries, .int .i64 H.limit, .int .i64 H.since, .int .i64 H.pause, .int .i64 H.halt], .slice none 0 0, .int .i64 err]) (results_cell_slot2 (ty := 25) Try.results8 _ _ (w.heap.size + 1) 25 _ (0, 0) _ rfl rfl rfl b3'' Try.underlying25 rfl handsz) rfl ?_
  exact ⟨S9, c9, A9, d9, none, 0, sl9, al9, [], rfl, ⟨H91.out, H92.out, rfl⟩, (hO9s'.lowRow (by omega) _).mono (by omega), (hO9a'.lowRow (by omega) _).mono (by omega), OwnRs.nil _ _, D1.out, Disj.nil _ _, Disj.nil _ _, below_row hB' (by omega) _⟩
end Go.Proofs.Ytppmdamcdhmcpaa
