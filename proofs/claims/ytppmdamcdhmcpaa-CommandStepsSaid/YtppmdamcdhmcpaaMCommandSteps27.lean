/-
  command.Step: a tick of any hand. A row that is stored into a block just made.
-/
import Derived.Test.YtppmdamcdhmcpaaMCommandSteps14
import Derived.Test.YtppmdamcdhmcpaaMCommandSteps15
import Derived.Test.YtppmdamcdhmcpaaMCommandSteps26
import Derived.Test.YtppmdamcdhmcpaaMCommandSteps9
namespace Go.Proofs.Ytppmdamcdhmcpaa
set_option linter.unusedSimpArgs false
set_option linter.unusedVariables false
open Go.RowKit

theorem withStep_all (h : Hnd) (st : Int) (heard : Bool) (b1 b2 : Nat) (S : Option Addr) (n1 c : Nat) (A : Option Addr) (n2 d : Nat) (w : World) (hS : RdRows w S h.sent) (hA : RdRows w A h.asked) (hn1 : h.sent.length = n1) (hn2 : h.asked.length = n2) (f1 : RowsFit h.sent n1) (f2 : RowsFit h.asked n2)
    (hb1 : Blk w b1 3 #[.int .i64 st]) (hb2 : Blk w b2 4 #[.bool heard]) (H : Hnd) (m1 m2 : Nat) (rows : List (List UInt8)) (nR : Nat) (err : Int) (hR : stepR h st heard = (H, rows, err)) (hm1 : H.sent.length = m1) (hm2 : H.asked.length = m2) (hnR : rows.length = nR) :
    Calls Try.prog 21 #[hvn h S n1 c A n2 d, .func (.func 33) #[] #[.pointer (some ⟨b1, 0, none⟩), .pointer (some ⟨b2, 0, none⟩)]] w fun e w' => HandOut w w' H m1 m2 rows nR err e := by
  by_cases hok : handOk h
  · have hR' : stepS h st heard = (H, rows, err) := by unfold stepR at hR; rw [if_pos hok] at hR; exact hR
    refine with_Step _ _ h S n1 c A n2 d w hS hA hn1 hn2 f1 f2 H m1 m2 rows nR err hok ?_
    intro W p ck dk base Sk Ak sl al hB hba hbp hp hsl hal hOs hOa hdj
    exact step1_any h st heard b1 b2 n1 n2 p ck dk base Sk Ak sl al W hp (hb1.step hB) (hb2.step hB) hbp (by have := hb1.lt; omega) (by have := hb2.lt; omega) hsl hal hOs hOa hdj hok H m1 m2 rows nR err hR' hm1 hm2 hnR
  · obtain ⟨rfl, rfl, rfl⟩ : H = Hnd.zero ∧ rows = [] ∧ err = 11 := by unfold stepR at hR; rw [if_neg hok] at hR; simp only [Prod.mk.injEq] at hR; exact ⟨hR.1.symm, hR.2.1.symm, hR.2.2.symm⟩
    obtain rfl : m1 = 0 := by rw [← hm1]; rfl
    obtain rfl : m2 = 0 := by rw [← hm2]; rfl
    obtain rfl : nR = 0 := by rw [← hnR]; rfl
    exact with_no _ h S n1 c A n2 d w hS hA hn1 hn2 f1 f2 hok

set_option maxHeartbeats 12800000 in
set_option maxRecDepth 100000 in
theorem pstep_any (h : Hnd) (st : Int) (heard : Bool) (S : Option Addr) (n1 c : Nat) (A : Option Addr) (n2 d : Nat) (w : World) (hS : RdRows w S h.sent) (hA : RdRows w A h.asked) (hn1 : h.sent.length = n1) (hn2 : h.asked.length = n2) (f1 : RowsFit h.sent n1) (f2 : RowsFit h.asked n2)
    (H : Hnd) (m1 m2 : Nat) (rows : List (List UInt8)) (nR : Nat) (err : Int) (hR : stepR h st heard = (H, rows, err)) (hm1 : H.sent.length = m1) (hm2 : H.asked.length = m2) (hnR : rows.length = nR) :
    Calls Try.prog 19 #[hvn h S n1 c A n2 d, .int .i64 st, .bool heard] w fun e w' => HandOut w w' H m1 m2 rows nR err e := by
  have CW := Lib.hid (fun (b1 b2 : Nat) w (hS : RdRows w S h.sent) (hA : RdRows w A h.asked) (hb1 : Blk w b1 3 #[.int .i64 st]) (hb2 : Blk w b2 4 #[.bool heard]) => withStep_all h st heard b1 b2 S n1 c A n2 d w hS hA hn1 hn2 f1 f2 hb1 hb2 H m1 m2 rows nR err hR hm1 hm2 hnR)
  have HS := Lib.hid hS
  have HA := Lib.hid hA
  clear hS hA hn1 hn2 f1 f2 hR hm1 hm2 hnR
  unfold hvn at CW ⊢
  have e1 : (w.alloc (.cells #[.int .i64 h.craft, .int .i64 h.next, .int .i64 h.ahead, .slice S n1 c, .slice A n2 d, .int .i64 h.timer, .int .i64 h.patience, .int .i64 h.tries, .int .i64 h.limit, .int .i64 h.since, .int .i64 h.pause, .int .i64 h.halt] 25)).heap.size = w.heap.size + 1 := by simp
  have e2 : ((w.alloc (.cells #[.int .i64 h.craft, .int .i64 h.next, .int .i64 h.ahead, .slice S n1 c, .slice A n2 d, .int .i64 h.timer, .int .i64 h.patience, .int .i64 h.tries, .int .i64 h.limit, .int .i64 h.since, .int .i64 h.pause, .int .i64 h.halt] 25)).alloc (.cells #[.int .i64 st] 3)).heap.size = w.heap.size + 2 := by simp
  have e3 : (((w.alloc (.cells #[.int .i64 h.craft, .int .i64 h.next, .int .i64 h.ahead, .slice S n1 c, .slice A n2 d, .int .i64 h.timer, .int .i64 h.patience, .int .i64 h.tries, .int .i64 h.limit, .int .i64 h.since, .int .i64 h.pause, .int .i64 h.halt] 25)).alloc (.cells #[.int .i64 st] 3)).alloc (.cells #[.bool heard] 4)).heap.size = w.heap.size + 3 := by simp
  have s0 : ((((w.alloc (.cells #[.int .i64 h.craft, .int .i64 h.next, .int .i64 h.ahead, .slice S n1 c, .slice A n2 d, .int .i64 h.timer, .int .i64 h.patience, .int .i64 h.tries, .int .i64 h.limit, .int .i64 h.since, .int .i64 h.pause, .int .i64 h.halt] 25)).alloc (.cells #[.int .i64 st] 3)).alloc (.cells #[.bool heard] 4)).alloc (.cells #[.int .i64 0, .int .i64 0, .int .i64 0, .slice none 0 0, .slice none 0 0, .int .i64 0, .int .i64 0, .int .i64 0, .int .i64 0, .int .i64 0, .int .i64 0, .int .i64 0] 25)).heap.size = w.heap.size + 4 := by simp
  have b3 := (((Blk.new w 25 #[.int .i64 h.craft, .int .i64 h.next, .int .i64 h.ahead, .slice S n1 c, .slice A n2 d, .int .i64 h.timer, .int .i64 h.patience, .int .i64 h.tries, .int .i64 h.limit, .int .i64 h.since, .int .i64 h.pause, .int .i64 h.halt]).alloc (.cells #[.int .i64 st] 3)).alloc (.cells #[.bool heard] 4)).alloc (.cells #[.int .i64 0, .int .i64 0, .int .i64 0, .slice none 0 0, .slice none 0 0, .int .i64 0, .int .i64 0, .int .i64 0, .int .i64 0, .int .i64 0, .int .i64 0, .int .i64 0] 25)
  have b4 := ((Blk.new (w.alloc (.cells #[.int .i64 h.craft, .int .i64 h.next, .int .i64 h.ahead, .slice S n1 c, .slice A n2 d, .int .i64 h.timer, .int .i64 h.patience, .int .i64 h.tries, .int .i64 h.limit, .int .i64 h.since, .int .i64 h.pause, .int .i64 h.halt] 25)) 3 #[.int .i64 st]).alloc (.cells #[.bool heard] 4)).alloc (.cells #[.int .i64 0, .int .i64 0, .int .i64 0, .slice none 0 0, .slice none 0 0, .int .i64 0, .int .i64 0, .int .i64 0, .int .i64 0, .int .i64 0, .int .i64 0, .int .i64 0] 25)
  rw [e1] at b4
  have b5 := (Blk.new ((w.alloc (.cells #[.int .i64 h.craft, .int .i64 h.next, .int .i64 h.ahead, .slice S n1 c, .slice A n2 d, .int .i64 h.timer, .int .i64 h.patience, .int .i64 h.tries, .int .i64 h.limit, .int .i64 h.since, .int .i64 h.pause, .int .i64 h.halt] 25)).alloc (.cells #[.int .i64 st] 3)) 4 #[.bool heard]).alloc (.cells #[.int .i64 0, .int .i64 0, .int .i64 0, .slice none 0 0, .slice none 0 0, .int .i64 0, .int .i64 0, .int .i64 0, .int .i64 0, .int .i64 0, .int .i64 0, .int .i64 0] 25)
  rw [e2] at b5
  have b6 := Blk.new (((w.alloc (.cells #[.int .i64 h.craft, .int .i64 h.next, .int .i64 h.ahead, .slice S n1 c, .slice A n2 d, .int .i64 h.timer, .int .i64 h.patience, .int .i64 h.tries, .int .i64 h.limit, .int .i64 h.since, .int .i64 h.pause, .int .i64 h.halt] 25)).alloc (.cells #[.int .i64 st] 3)).alloc (.cells #[.bool heard] 4)) 25 #[.int .i64 0, .int .i64 0, .int .i64 0, .slice none 0 0, .slice none 0 0, .int .i64 0, .int .i64 0, .int .i64 0, .int .i64 0, .int .i64 0, .int .i64 0, .int .i64 0]
  rw [e3] at b6
  have hB : Below w.heap.size w ((((w.alloc (.cells #[.int .i64 h.craft, .int .i64 h.next, .int .i64 h.ahead, .slice S n1 c, .slice A n2 d, .int .i64 h.timer, .int .i64 h.patience, .int .i64 h.tries, .int .i64 h.limit, .int .i64 h.since, .int .i64 h.pause, .int .i64 h.halt] 25)).alloc (.cells #[.int .i64 st] 3)).alloc (.cells #[.bool heard] 4)).alloc (.cells #[.int .i64 0, .int .i64 0, .int .i64 0, .slice none 0 0, .slice none 0 0, .int .i64 0, .int .i64 0, .int .i64 0, .int .i64 0, .int .i64 0, .int .i64 0, .int .i64 0] 25)) := ((((Below.refl _ _).alloc (Nat.le_refl _) _).alloc (by simp) _).alloc (by simp; omega) _).alloc (by simp; omega) _
  clear e1 e2 e3
  go_enter Try.func19, Try.ntmps19
  go_wp2_with (refine wpList_load_row rfl 25 (.tmp 3) rfl (w.heap.size) rfl 25 #[.int .i64 h.craft, .int .i64 h.next, .int .i64 h.ahead, .slice S n1 c, .slice A n2 d, .int .i64 h.timer, .int .i64 h.patience, .int .i64 h.tries, .int .i64 h.limit, .int .i64 h.since, .int .i64 h.pause, .int .i64 h.halt] (0, 0) _ b3 Try.underlying25 rfl handsz ?_)
  generalize ((((w.alloc (.cells #[.int .i64 h.craft, .int .i64 h.next, .int .i64 h.ahead, .slice S n1 c, .slice A n2 d, .int .i64 h.timer, .int .i64 h.patience, .int .i64 h.tries, .int .i64 h.limit, .int .i64 h.since, .int .i64 h.pause, .int .i64 h.halt] 25)).alloc (.cells #[.int .i64 st] 3)).alloc (.cells #[.bool heard] 4)).alloc (.cells #[.int .i64 0, .int .i64 0, .int .i64 0, .slice none 0 0, .slice none 0 0, .int .i64 0, .int .i64 0, .int .i64 0, .int .i64 0, .int .i64 0, .int .i64 0, .int .i64 0] 25)) = W0 at *
  refine (CW.out (w.heap.size + 1) (w.heap.size + 2) W0 (HS.out.below hB) (HA.out.below hB) b4 b5).mono ?_
  rintro e w1 ⟨S9, c9, A9, d9, R9, cR9, sl9, al9, rl9, rfl, ⟨h91, h92, h93⟩, hO9s, hO9a, hO9r, dj1, dj2, dj3, hb⟩
  have H91 := Lib.hid h91
  have H92 := Lib.hid h92
  have H93 := Lib.hid h93
  have D1 := Lib.hid dj1
  have D2 := Lib.hid dj2
  have D3 := Lib.hid dj3
  clear CW h91 h92 h93 dj1 dj2 dj3
  have s1 := hb.size
  replace b6 := b6.step hb
  replace hB := hB.trans (hb.mono hB.size)
  clear hb
  unfold hvn
  go_wp2_with (first
    | (refine wpList_store_row rfl 25 (.tmp 6) (.tmp 12) rfl (w.heap.size + 3) #[.int .i64 H.craft, .int .i64 H.next, .int .i64 H.ahead, .slice S9 m1 c9, .slice A9 m2 d9, .int .i64 H.timer, .int .i64 H.patience, .int .i64 H.tries, .int .i64 H.limit, .int .i64 H.since, .int .i64 H.pause, .int .i64 H.halt] rfl rfl 25 _ b6 handsz rfl (hand_one H S9 m1 c9 A9 m2 d9) ?_))
  have b6' := b6.row #[.int .i64 H.craft, .int .i64 H.next, .int .i64 H.ahead, .slice S9 m1 c9, .slice A9 m2 d9, .int .i64 H.timer, .int .i64 H.patience, .int .i64 H.tries, .int .i64 H.limit, .int .i64 H.since, .int .i64 H.pause, .int .i64 H.halt]
  refine bodyPost_ret (v := .tuple #[.agg #[.int .i64 H.craft, .int .i64 H.next, .int .i64 H.ahead, .slice S9 m1 c9, .slice A9 m2 d9, .int .i64 H.timer, .int .i64 H.patience, .int .i64 H.tries, .int .i64 H.limit, .int .i64 H.since, .int .i64 H.pause, .int .i64 H.halt], .slice R9 nR cR9, .int .i64 err]) (results_cell_slot2 (ty := 25) Try.results19 _ _ (w.heap.size + 3) 25 _ (0, 0) _ rfl rfl rfl b6' Try.underlying25 rfl handsz) rfl ?_
  exact ⟨S9, c9, A9, d9, R9, cR9, sl9, al9, rl9, rfl, ⟨H91.out, H92.out, H93.out⟩, (hO9s.lowRow (by omega) _).mono (by omega), (hO9a.lowRow (by omega) _).mono (by omega), (hO9r.lowRow (by omega) _).mono (by omega), D1.out, D2.out, D3.out, below_row hB (by omega) _⟩

set_option maxHeartbeats 12800000 in
set_option maxRecDepth 100000 in
theorem steps1_any (h : Hnd) (st : Int) (heard : Bool) (S : Option Addr) (n1 c : Nat) (A : Option Addr) (n2 d p1 p2 : Nat) (w : World) (hS : RdRows w S h.sent) (hA : RdRows w A h.asked) (hn1 : h.sent.length = n1) (hn2 : h.asked.length = n2) (f1 : RowsFit h.sent n1) (f2 : RowsFit h.asked n2)
    (hp1 : w.cell? ⟨p1, 0, none⟩ = some (.int .i64 st)) (hp2 : w.cell? ⟨p2, 0, none⟩ = some (.bool heard)) (H : Hnd) (m1 m2 : Nat) (rows : List (List UInt8)) (nR : Nat) (err : Int) (hR : stepR h st heard = (H, rows, err)) (hm1 : H.sent.length = m1) (hm2 : H.asked.length = m2) (hnR : rows.length = nR) :
    Calls Try.prog 18 #[hvn h S n1 c A n2 d, .pointer (some ⟨p1, 0, none⟩), .pointer (some ⟨p2, 0, none⟩)] w fun e w' => HandOut w w' H m1 m2 rows nR err e := by
  have CW := Lib.hid (fun w (hS : RdRows w S h.sent) (hA : RdRows w A h.asked) => pstep_any h st heard S n1 c A n2 d w hS hA hn1 hn2 f1 f2 H m1 m2 rows nR err hR hm1 hm2 hnR)
  have HS := Lib.hid hS
  have HA := Lib.hid hA
  have l1 := World.block_lt_of_cell? _ _ hp1
  have l2 := World.block_lt_of_cell? _ _ hp2
  clear hS hA hn1 hn2 f1 f2 hR hm1 hm2 hnR
  unfold hvn at CW ⊢
  have e1 : (w.alloc (.cells #[.int .i64 h.craft, .int .i64 h.next, .int .i64 h.ahead, .slice S n1 c, .slice A n2 d, .int .i64 h.timer, .int .i64 h.patience, .int .i64 h.tries, .int .i64 h.limit, .int .i64 h.since, .int .i64 h.pause, .int .i64 h.halt] 25)).heap.size = w.heap.size + 1 := by simp
  have s0 : ((w.alloc (.cells #[.int .i64 h.craft, .int .i64 h.next, .int .i64 h.ahead, .slice S n1 c, .slice A n2 d, .int .i64 h.timer, .int .i64 h.patience, .int .i64 h.tries, .int .i64 h.limit, .int .i64 h.since, .int .i64 h.pause, .int .i64 h.halt] 25)).alloc (.cells #[.int .i64 0, .int .i64 0, .int .i64 0, .slice none 0 0, .slice none 0 0, .int .i64 0, .int .i64 0, .int .i64 0, .int .i64 0, .int .i64 0, .int .i64 0, .int .i64 0] 25)).heap.size = w.heap.size + 2 := by simp
  have b3 := (Blk.new w 25 #[.int .i64 h.craft, .int .i64 h.next, .int .i64 h.ahead, .slice S n1 c, .slice A n2 d, .int .i64 h.timer, .int .i64 h.patience, .int .i64 h.tries, .int .i64 h.limit, .int .i64 h.since, .int .i64 h.pause, .int .i64 h.halt]).alloc (.cells #[.int .i64 0, .int .i64 0, .int .i64 0, .slice none 0 0, .slice none 0 0, .int .i64 0, .int .i64 0, .int .i64 0, .int .i64 0, .int .i64 0, .int .i64 0, .int .i64 0] 25)
  have b4 := Blk.new (w.alloc (.cells #[.int .i64 h.craft, .int .i64 h.next, .int .i64 h.ahead, .slice S n1 c, .slice A n2 d, .int .i64 h.timer, .int .i64 h.patience, .int .i64 h.tries, .int .i64 h.limit, .int .i64 h.since, .int .i64 h.pause, .int .i64 h.halt] 25)) 25 #[.int .i64 0, .int .i64 0, .int .i64 0, .slice none 0 0, .slice none 0 0, .int .i64 0, .int .i64 0, .int .i64 0, .int .i64 0, .int .i64 0, .int .i64 0, .int .i64 0]
  rw [e1] at b4
  have hB : Below w.heap.size w ((w.alloc (.cells #[.int .i64 h.craft, .int .i64 h.next, .int .i64 h.ahead, .slice S n1 c, .slice A n2 d, .int .i64 h.timer, .int .i64 h.patience, .int .i64 h.tries, .int .i64 h.limit, .int .i64 h.since, .int .i64 h.pause, .int .i64 h.halt] 25)).alloc (.cells #[.int .i64 0, .int .i64 0, .int .i64 0, .slice none 0 0, .slice none 0 0, .int .i64 0, .int .i64 0, .int .i64 0, .int .i64 0, .int .i64 0, .int .i64 0, .int .i64 0] 25)) := ((Below.refl _ _).alloc (Nat.le_refl _) _).alloc (by simp) _
  clear e1
  have hq1 := (hB.cell (p := ⟨p1, 0, none⟩) l1).trans hp1
  have hq2 := (hB.cell (p := ⟨p2, 0, none⟩) l2).trans hp2
  go_enter Try.func18, Try.ntmps18
  go_wp2_with (refine wpList_load_row rfl 25 (.tmp 3) rfl (w.heap.size) rfl 25 #[.int .i64 h.craft, .int .i64 h.next, .int .i64 h.ahead, .slice S n1 c, .slice A n2 d, .int .i64 h.timer, .int .i64 h.patience, .int .i64 h.tries, .int .i64 h.limit, .int .i64 h.since, .int .i64 h.pause, .int .i64 h.halt] (0, 0) _ b3 Try.underlying25 rfl handsz ?_)
  clear hq1 hq2
  generalize (w.alloc (.cells #[.int .i64 h.craft, .int .i64 h.next, .int .i64 h.ahead, .slice S n1 c, .slice A n2 d, .int .i64 h.timer, .int .i64 h.patience, .int .i64 h.tries, .int .i64 h.limit, .int .i64 h.since, .int .i64 h.pause, .int .i64 h.halt] 25)).alloc (.cells #[.int .i64 0, .int .i64 0, .int .i64 0, .slice none 0 0, .slice none 0 0, .int .i64 0, .int .i64 0, .int .i64 0, .int .i64 0, .int .i64 0, .int .i64 0, .int .i64 0] 25) = W0 at *
  refine (CW.out W0 (HS.out.below hB) (HA.out.below hB)).mono ?_
  rintro e w1 ⟨S9, c9, A9, d9, R9, cR9, sl9, al9, rl9, rfl, ⟨h91, h92, h93⟩, hO9s, hO9a, hO9r, dj1, dj2, dj3, hb⟩
  have H91 := Lib.hid h91
  have H92 := Lib.hid h92
  have H93 := Lib.hid h93
  have D1 := Lib.hid dj1
  have D2 := Lib.hid dj2
  have D3 := Lib.hid dj3
  clear CW h91 h92 h93 dj1 dj2 dj3
  have s1 := hb.size
  replace b4 := b4.step hb
  replace hB := hB.trans (hb.mono hB.size)
  clear hb
  unfold hvn
  go_wp2_with (first
    | (refine wpList_store_row rfl 25 (.tmp 4) (.tmp 11) rfl (w.heap.size + 1) #[.int .i64 H.craft, .int .i64 H.next, .int .i64 H.ahead, .slice S9 m1 c9, .slice A9 m2 d9, .int .i64 H.timer, .int .i64 H.patience, .int .i64 H.tries, .int .i64 H.limit, .int .i64 H.since, .int .i64 H.pause, .int .i64 H.halt] rfl rfl 25 _ b4 handsz rfl (hand_one H S9 m1 c9 A9 m2 d9) ?_))
  have b4' := b4.row #[.int .i64 H.craft, .int .i64 H.next, .int .i64 H.ahead, .slice S9 m1 c9, .slice A9 m2 d9, .int .i64 H.timer, .int .i64 H.patience, .int .i64 H.tries, .int .i64 H.limit, .int .i64 H.since, .int .i64 H.pause, .int .i64 H.halt]
  refine bodyPost_ret (v := .tuple #[.agg #[.int .i64 H.craft, .int .i64 H.next, .int .i64 H.ahead, .slice S9 m1 c9, .slice A9 m2 d9, .int .i64 H.timer, .int .i64 H.patience, .int .i64 H.tries, .int .i64 H.limit, .int .i64 H.since, .int .i64 H.pause, .int .i64 H.halt], .slice R9 nR cR9, .int .i64 err]) (results_cell_slot2 (ty := 25) Try.results18 _ _ (w.heap.size + 1) 25 _ (0, 0) _ rfl rfl rfl b4' Try.underlying25 rfl handsz) rfl ?_
  exact ⟨S9, c9, A9, d9, R9, cR9, sl9, al9, rl9, rfl, ⟨H91.out, H92.out, H93.out⟩, (hO9s.lowRow (by omega) _).mono (by omega), (hO9a.lowRow (by omega) _).mono (by omega), (hO9r.lowRow (by omega) _).mono (by omega), D1.out, D2.out, D3.out, below_row hB (by omega) _⟩
end Go.Proofs.Ytppmdamcdhmcpaa
namespace Go.Proofs.Ytppmdamcdhmcpaa
set_option linter.unusedSimpArgs false
set_option linter.unusedVariables false
open Go.RowKit
theorem OwnRs.allocRow {w : World} {base n c : Nat} {A : Option Addr} {l : List RowR} (h : OwnRs w base A n c l) (o : Obj) (ds : Array Value) : OwnRs ((w.alloc o).setRow w.heap.size ds) base A n c l :=
  (h.alloc o).keep fun q hq => setRow_other _ _ q _ (by have := (h.lt hq).2; omega)
theorem below_allocRow {N : Nat} {w0 w : World} (h : Below N w0 w) (hN : N ≤ w.heap.size) (o : Obj) (ds : Array Value) : Below N w0 ((w.alloc o).setRow w.heap.size ds) := below_row (h.alloc hN o) hN ds
end Go.Proofs.Ytppmdamcdhmcpaa
