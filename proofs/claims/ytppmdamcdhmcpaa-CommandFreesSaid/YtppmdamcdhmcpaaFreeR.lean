/-
  The document's FreeOf.
-/
import Derived.Test.YtppmdamcdhmcpaaFreeP
import Derived.Test.YtppmdamcdhmcpaaDoOut
import Derived.Test.YtppmdamcdhmcpaaOrdEncC
import Derived.Deep.DeepCutAuto
namespace Go.Proofs.Ytppmdamcdhmcpaa
set_option linter.unusedSimpArgs false
set_option linter.unusedVariables false
open Go.RowKit


set_option maxHeartbeats 12800000 in
set_option maxRecDepth 100000 in
theorem rfree_any (h : Hnd) (S : Option Addr) (n1 c : Nat) (A : Option Addr) (n2 d : Nat) (w : World) (hS : RdRows w S h.sent) (hA : RdRows w A h.asked) (hn1 : h.sent.length = n1) (hn2 : h.asked.length = n2) (f1 : RowsFit h.sent n1) (f2 : RowsFit h.asked n2)
    (H : Hnd) (m1 m2 : Nat) (rows : List (List UInt8)) (nR : Nat) (err : Int) (hR : freeR h = (H, rows, err)) (hm1 : H.sent.length = m1) (hm2 : H.asked.length = m2) (hnR : rows.length = nR) :
    Calls Try.prog 15 #[hvn h S n1 c A n2 d] w fun e w' => HandOut w w' H m1 m2 rows nR err e := by
  have CM := Lib.hid (fun w (hS : RdRows w S h.sent) (hA : RdRows w A h.asked) => rhandMay_any h S c A d w hS hA (by rw [hn1]; exact f1.1) (by rw [hn2]; exact f2.1) f1.2 f2.2)
  rw [← hvn_hdv, hn1, hn2] at CM
  have HS := Lib.hid hS
  have HA := Lib.hid hA
  have N1 := Lib.hid hn1
  have N2 := Lib.hid hn2
  have M1 := Lib.hid hm1
  have M2 := Lib.hid hm2
  have NR := Lib.hid hnR
  have F1 := Lib.hid f1
  have F2 := Lib.hid f2
  have HR := Lib.hid hR
  clear hS hA hn1 hn2 hm1 hm2 hnR f1 f2 hR
  unfold hvn at CM ⊢
  have b1 := (Blk.new w 25 #[.int .i64 h.craft, .int .i64 h.next, .int .i64 h.ahead, .slice S n1 c, .slice A n2 d, .int .i64 h.timer, .int .i64 h.patience, .int .i64 h.tries, .int .i64 h.limit, .int .i64 h.since, .int .i64 h.pause, .int .i64 h.halt]).alloc (.cells #[.int .i64 0, .int .i64 0, .int .i64 0, .slice none 0 0, .slice none 0 0, .int .i64 0, .int .i64 0, .int .i64 0, .int .i64 0, .int .i64 0, .int .i64 0, .int .i64 0] 25)
  have b2 := Blk.new (w.alloc (.cells #[.int .i64 h.craft, .int .i64 h.next, .int .i64 h.ahead, .slice S n1 c, .slice A n2 d, .int .i64 h.timer, .int .i64 h.patience, .int .i64 h.tries, .int .i64 h.limit, .int .i64 h.since, .int .i64 h.pause, .int .i64 h.halt] 25)) 25 #[.int .i64 0, .int .i64 0, .int .i64 0, .slice none 0 0, .slice none 0 0, .int .i64 0, .int .i64 0, .int .i64 0, .int .i64 0, .int .i64 0, .int .i64 0, .int .i64 0]
  rw [show (w.alloc (.cells #[.int .i64 h.craft, .int .i64 h.next, .int .i64 h.ahead, .slice S n1 c, .slice A n2 d, .int .i64 h.timer, .int .i64 h.patience, .int .i64 h.tries, .int .i64 h.limit, .int .i64 h.since, .int .i64 h.pause, .int .i64 h.halt] 25)).heap.size = w.heap.size + 1 by simp] at b2
  have hB : Below w.heap.size w ((w.alloc (.cells #[.int .i64 h.craft, .int .i64 h.next, .int .i64 h.ahead, .slice S n1 c, .slice A n2 d, .int .i64 h.timer, .int .i64 h.patience, .int .i64 h.tries, .int .i64 h.limit, .int .i64 h.since, .int .i64 h.pause, .int .i64 h.halt] 25)).alloc (.cells #[.int .i64 0, .int .i64 0, .int .i64 0, .slice none 0 0, .slice none 0 0, .int .i64 0, .int .i64 0, .int .i64 0, .int .i64 0, .int .i64 0, .int .i64 0, .int .i64 0] 25)) := ((Below.refl _ _).alloc (Nat.le_refl _) _).alloc (by simp) _
  have s0 : ((w.alloc (.cells #[.int .i64 h.craft, .int .i64 h.next, .int .i64 h.ahead, .slice S n1 c, .slice A n2 d, .int .i64 h.timer, .int .i64 h.patience, .int .i64 h.tries, .int .i64 h.limit, .int .i64 h.since, .int .i64 h.pause, .int .i64 h.halt] 25)).alloc (.cells #[.int .i64 0, .int .i64 0, .int .i64 0, .slice none 0 0, .slice none 0 0, .int .i64 0, .int .i64 0, .int .i64 0, .int .i64 0, .int .i64 0, .int .i64 0, .int .i64 0] 25)).heap.size = w.heap.size + 2 := by simp
  by_cases hok : handOk h
  · have HR1 : Hid (freeS h = (H, rows, err)) := Lib.hid (by have := HR.out; unfold freeR at this; rw [if_pos hok] at this; exact this)
    rw [show handB h = true from decide_eq_true hok] at CM
    clear HR hok
    go_enter Try.func15, Try.ntmps15
    go_wp2_with (refine wpList_load_row rfl 25 (.tmp 1) rfl (w.heap.size) rfl 25 #[.int .i64 h.craft, .int .i64 h.next, .int .i64 h.ahead, .slice S n1 c, .slice A n2 d, .int .i64 h.timer, .int .i64 h.patience, .int .i64 h.tries, .int .i64 h.limit, .int .i64 h.since, .int .i64 h.pause, .int .i64 h.halt] (0, 0) _ b1 Try.underlying25 rfl handsz ?_)
    generalize ((w.alloc (.cells #[.int .i64 h.craft, .int .i64 h.next, .int .i64 h.ahead, .slice S n1 c, .slice A n2 d, .int .i64 h.timer, .int .i64 h.patience, .int .i64 h.tries, .int .i64 h.limit, .int .i64 h.since, .int .i64 h.pause, .int .i64 h.halt] 25)).alloc (.cells #[.int .i64 0, .int .i64 0, .int .i64 0, .slice none 0 0, .slice none 0 0, .int .i64 0, .int .i64 0, .int .i64 0, .int .i64 0, .int .i64 0, .int .i64 0, .int .i64 0] 25)) = W0 at *
    refine (CM.out W0 (HS.out.below hB) (HA.out.below hB)).mono ?_
    rintro e w1 ⟨rfl, hb⟩
    clear CM
    have s1 := hb.size
    replace b1 := b1.step hb
    replace b2 := b2.step hb
    replace hB := hB.trans (hb.mono hB.size)
    clear hb
    go_wp2_with (refine wpList_load_row rfl 25 (.tmp 1) rfl (w.heap.size) rfl 25 #[.int .i64 h.craft, .int .i64 h.next, .int .i64 h.ahead, .slice S n1 c, .slice A n2 d, .int .i64 h.timer, .int .i64 h.patience, .int .i64 h.tries, .int .i64 h.limit, .int .i64 h.since, .int .i64 h.pause, .int .i64 h.halt] (0, 0) _ b1 Try.underlying25 rfl handsz ?_)
    refine (rhandOf_any h S n1 c A n2 d w1 N1.out N2.out (HS.out.below hB) (HA.out.below hB) F1.out.1 F2.out.1 F1.out.2 F2.out.2).mono ?_
    rintro e w2 ⟨Sk, ck, Ak, dk, sl, al, rfl, hsl, hal, hOs, hOa, dd, hb⟩
    have MS := Lib.hid hsl
    have MA := Lib.hid hal
    have DD := Lib.hid dd
    clear hsl hal dd
    have s2 := hb.size
    replace b1 := b1.step hb
    replace b2 := b2.step hb
    replace hB := hB.trans (hb.mono hB.size)
    clear hb
    unfold hvn
    have b1' := b1.row #[.int .i64 h.craft, .int .i64 h.next, .int .i64 h.ahead, .slice Sk n1 ck, .slice Ak n2 dk, .int .i64 h.timer, .int .i64 h.patience, .int .i64 h.tries, .int .i64 h.limit, .int .i64 h.since, .int .i64 h.pause, .int .i64 h.halt]
    have b2' := b2.farRow (g := w.heap.size) (by omega) #[.int .i64 h.craft, .int .i64 h.next, .int .i64 h.ahead, .slice Sk n1 ck, .slice Ak n2 dk, .int .i64 h.timer, .int .i64 h.patience, .int .i64 h.tries, .int .i64 h.limit, .int .i64 h.since, .int .i64 h.pause, .int .i64 h.halt]
    have hOs' := hOs.lowRow (g := w.heap.size) (by omega) #[.int .i64 h.craft, .int .i64 h.next, .int .i64 h.ahead, .slice Sk n1 ck, .slice Ak n2 dk, .int .i64 h.timer, .int .i64 h.patience, .int .i64 h.tries, .int .i64 h.limit, .int .i64 h.since, .int .i64 h.pause, .int .i64 h.halt]
    have hOa' := hOa.lowRow (g := w.heap.size) (by omega) #[.int .i64 h.craft, .int .i64 h.next, .int .i64 h.ahead, .slice Sk n1 ck, .slice Ak n2 dk, .int .i64 h.timer, .int .i64 h.patience, .int .i64 h.tries, .int .i64 h.limit, .int .i64 h.since, .int .i64 h.pause, .int .i64 h.halt]
    have hB' := below_row hB (g := w.heap.size) (Nat.le_refl _) #[.int .i64 h.craft, .int .i64 h.next, .int .i64 h.ahead, .slice Sk n1 ck, .slice Ak n2 dk, .int .i64 h.timer, .int .i64 h.patience, .int .i64 h.tries, .int .i64 h.limit, .int .i64 h.since, .int .i64 h.pause, .int .i64 h.halt]
    have s3 := setRow_size w2 w.heap.size #[.int .i64 h.craft, .int .i64 h.next, .int .i64 h.ahead, .slice Sk n1 ck, .slice Ak n2 dk, .int .i64 h.timer, .int .i64 h.patience, .int .i64 h.tries, .int .i64 h.limit, .int .i64 h.since, .int .i64 h.pause, .int .i64 h.halt]
    go_upto_region 4 with (refine wpList_store_row rfl 25 (.tmp 1) (.tmp 12) rfl (w.heap.size) #[.int .i64 h.craft, .int .i64 h.next, .int .i64 h.ahead, .slice Sk n1 ck, .slice Ak n2 dk, .int .i64 h.timer, .int .i64 h.patience, .int .i64 h.tries, .int .i64 h.limit, .int .i64 h.since, .int .i64 h.pause, .int .i64 h.halt] rfl rfl 25 _ b1 handsz rfl (hand_one h Sk n1 ck Ak n2 dk) ?_)
    replace s3 : w2.heap.size ≤ (w2.setRow w.heap.size #[.int .i64 h.craft, .int .i64 h.next, .int .i64 h.ahead, .slice Sk n1 ck, .slice Ak n2 dk, .int .i64 h.timer, .int .i64 h.patience, .int .i64 h.tries, .int .i64 h.limit, .int .i64 h.since, .int .i64 h.pause, .int .i64 h.halt]).heap.size := Nat.le_of_eq s3.symm
    generalize w2.setRow w.heap.size #[.int .i64 h.craft, .int .i64 h.next, .int .i64 h.ahead, .slice Sk n1 ck, .slice Ak n2 dk, .int .i64 h.timer, .int .i64 h.patience, .int .i64 h.tries, .int .i64 h.limit, .int .i64 h.since, .int .i64 h.pause, .int .i64 h.halt] = W2 at *
    clear b1 b2 hOs hOa hB
    have b1 := b1'
    have b2 := b2'
    have hOs := hOs'
    have hOa := hOa'
    have hB := hB'
    clear b1' b2' hOs' hOa' hB'
    by_cases h15 : h.halt = 15
    · have HR2 : Hid ((freeH h, [(ordEnc (freeO h)).1], (0 : Int)) = (H, rows, err)) := Lib.hid (by have := HR1.out; unfold freeS at this; rw [if_pos (.inl h15)] at this; exact this)
      have e15 : (h.halt == 15) = true := by rw [h15]; rfl
      have e15' : (h.halt != 15) = false := by rw [h15]; rfl
      clear HR1 h15
      have k11 := b1.cell' (i := 11) rfl
      have kf0 := b1.frozen
      have b1_0 : Blk (W2.setCell ⟨w.heap.size, 11, none⟩ (.int .i64 0)) w.heap.size 25 #[.int .i64 h.craft, .int .i64 h.next, .int .i64 h.ahead, .slice Sk n1 ck, .slice Ak n2 dk, .int .i64 h.timer, .int .i64 h.patience, .int .i64 h.tries, .int .i64 h.limit, .int .i64 h.since, .int .i64 h.pause, .int .i64 0] := b1.set_ 11 (.int .i64 0)
      have k5 := b1_0.cell' (i := 5) rfl
      have kf1 := b1_0.frozen
      have b1_1 : Blk ((W2.setCell ⟨w.heap.size, 11, none⟩ (.int .i64 0)).setCell ⟨w.heap.size, 5, none⟩ (.int .i64 0)) w.heap.size 25 #[.int .i64 h.craft, .int .i64 h.next, .int .i64 h.ahead, .slice Sk n1 ck, .slice Ak n2 dk, .int .i64 0, .int .i64 h.patience, .int .i64 h.tries, .int .i64 h.limit, .int .i64 h.since, .int .i64 h.pause, .int .i64 0] := b1_0.set_ 5 (.int .i64 0)
      have k7 := b1_1.cell' (i := 7) rfl
      have kf2 := b1_1.frozen
      have b1_2 : Blk (((W2.setCell ⟨w.heap.size, 11, none⟩ (.int .i64 0)).setCell ⟨w.heap.size, 5, none⟩ (.int .i64 0)).setCell ⟨w.heap.size, 7, none⟩ (.int .i64 0)) w.heap.size 25 #[.int .i64 h.craft, .int .i64 h.next, .int .i64 h.ahead, .slice Sk n1 ck, .slice Ak n2 dk, .int .i64 0, .int .i64 h.patience, .int .i64 0, .int .i64 h.limit, .int .i64 h.since, .int .i64 h.pause, .int .i64 0] := b1_1.set_ 7 (.int .i64 0)
      have k9 := b1_2.cell' (i := 9) rfl
      have kf3 := b1_2.frozen
      have k10 := b1_2.cell' (i := 10) rfl
      have b1_3 : Blk ((((W2.setCell ⟨w.heap.size, 11, none⟩ (.int .i64 0)).setCell ⟨w.heap.size, 5, none⟩ (.int .i64 0)).setCell ⟨w.heap.size, 7, none⟩ (.int .i64 0)).setCell ⟨w.heap.size, 9, none⟩ (.int .i64 h.pause)) w.heap.size 25 #[.int .i64 h.craft, .int .i64 h.next, .int .i64 h.ahead, .slice Sk n1 ck, .slice Ak n2 dk, .int .i64 0, .int .i64 h.patience, .int .i64 0, .int .i64 h.limit, .int .i64 h.pause, .int .i64 h.pause, .int .i64 0] := b1_2.set_ 9 (.int .i64 h.pause)
      have b2n := ((((b2).far (p := ⟨w.heap.size, 11, none⟩) (by show w.heap.size + 1 ≠ w.heap.size; omega) (.int .i64 0)).far (p := ⟨w.heap.size, 5, none⟩) (by show w.heap.size + 1 ≠ w.heap.size; omega) (.int .i64 0)).far (p := ⟨w.heap.size, 7, none⟩) (by show w.heap.size + 1 ≠ w.heap.size; omega) (.int .i64 0)).far (p := ⟨w.heap.size, 9, none⟩) (by show w.heap.size + 1 ≠ w.heap.size; omega) (.int .i64 h.pause)
      have hOs3 := ((((hOs).low (p := ⟨w.heap.size, 11, none⟩) (by show w.heap.size < _; omega) (.int .i64 0)).low (p := ⟨w.heap.size, 5, none⟩) (by show w.heap.size < _; omega) (.int .i64 0)).low (p := ⟨w.heap.size, 7, none⟩) (by show w.heap.size < _; omega) (.int .i64 0)).low (p := ⟨w.heap.size, 9, none⟩) (by show w.heap.size < _; omega) (.int .i64 h.pause)
      have hOa3 := ((((hOa).low (p := ⟨w.heap.size, 11, none⟩) (by show w.heap.size < _; omega) (.int .i64 0)).low (p := ⟨w.heap.size, 5, none⟩) (by show w.heap.size < _; omega) (.int .i64 0)).low (p := ⟨w.heap.size, 7, none⟩) (by show w.heap.size < _; omega) (.int .i64 0)).low (p := ⟨w.heap.size, 9, none⟩) (by show w.heap.size < _; omega) (.int .i64 h.pause)
      have hB3 := ((((hB).setCell (p := ⟨w.heap.size, 11, none⟩) (Nat.le_refl _) (.int .i64 0)).setCell (p := ⟨w.heap.size, 5, none⟩) (Nat.le_refl _) (.int .i64 0)).setCell (p := ⟨w.heap.size, 7, none⟩) (Nat.le_refl _) (.int .i64 0)).setCell (p := ⟨w.heap.size, 9, none⟩) (Nat.le_refl _) (.int .i64 h.pause)
      have z3 : (((((W2.setCell ⟨w.heap.size, 11, none⟩ (.int .i64 0)).setCell ⟨w.heap.size, 5, none⟩ (.int .i64 0)).setCell ⟨w.heap.size, 7, none⟩ (.int .i64 0)).setCell ⟨w.heap.size, 9, none⟩ (.int .i64 h.pause))).heap.size = W2.heap.size := by simp
      go_upto_region 10 with fail
      clear k11 k5 k7 k9 k10 kf0 kf1 kf2 kf3 b1_0 b1_1 b1_2 b1 b2 hOs hOa hB
      replace z3 : W2.heap.size ≤ (((((W2.setCell ⟨w.heap.size, 11, none⟩ (.int .i64 0)).setCell ⟨w.heap.size, 5, none⟩ (.int .i64 0)).setCell ⟨w.heap.size, 7, none⟩ (.int .i64 0)).setCell ⟨w.heap.size, 9, none⟩ (.int .i64 h.pause))).heap.size := Nat.le_of_eq z3.symm
      generalize ((((W2.setCell ⟨w.heap.size, 11, none⟩ (.int .i64 0)).setCell ⟨w.heap.size, 5, none⟩ (.int .i64 0)).setCell ⟨w.heap.size, 7, none⟩ (.int .i64 0)).setCell ⟨w.heap.size, 9, none⟩ (.int .i64 h.pause)) = W3 at *
      have k0 := b1_3.cell' (i := 0) rfl
      have CO := orderBytes_any (freeO h) (some ⟨W3.heap.size, 0, none⟩) 1 (W3.alloc (.cells #[.int .u8 0] 5)) (Rd_new W3 [.int .u8 0] 5)
      obtain ⟨rb, hrb⟩ : ∃ rb, (ordEnc (freeO h)).1 = rb := ⟨_, rfl⟩
      obtain ⟨nb, hnb⟩ : ∃ nb, rb.length = nb := ⟨_, rfl⟩
      unfold BytesRes at CO
      rw [hrb, hnb] at CO
      have RB := Lib.hid hrb
      have NB := Lib.hid hnb
      clear hrb hnb
      have COh := Lib.hid CO
      clear CO
      have zb : (W3.alloc (.cells #[.int .u8 0] 5)).heap.size = W3.heap.size + 1 := by simp
      have b1b := b1_3.alloc (.cells #[.int .u8 0] 5)
      have b2b := b2n.alloc (.cells #[.int .u8 0] 5)
      have hOs4 := hOs3.alloc (.cells #[.int .u8 0] 5)
      have hOa4 := hOa3.alloc (.cells #[.int .u8 0] 5)
      have hB4 := hB3.alloc hB3.size (.cells #[.int .u8 0] 5)
      go_wp2_with fail
      generalize W3.alloc (.cells #[.int .u8 0] 5) = W4 at *
      refine COh.out.mono ?_
      rintro e w5 ⟨Ab, cb, rfl, hOb, hb⟩
      clear COh
      have s5 := hb.size
      have b15 := b1b.step hb
      have b25 := b2b.step hb
      have hlt5s := fun (q : Nat) (hq : Touch Sk sl q) => (hOs4.lt hq).2
      have hlt5a := fun (q : Nat) (hq : Touch Ak al q) => (hOa4.lt hq).2
      have hOs5 := hOs4.step hb
      have hOa5 := hOa4.step hb
      have hB5 := hB4.trans (hb.mono hB4.size)
      have hobl := hOb.lt
      have b16 := b15.alloc (.cells #[.slice Ab nb cb] 26)
      have b26 := b25.alloc (.cells #[.slice Ab nb cb] 26)
      have hOs6 := hOs5.alloc (.cells #[.slice Ab nb cb] 26)
      have hOa6 := hOa5.alloc (.cells #[.slice Ab nb cb] 26)
      have hB6 := hB5.alloc hB5.size (.cells #[.slice Ab nb cb] 26)
      have hR6 := OwnRs.one (hOb.mono (base' := w.heap.size) (by omega)) NB.out hB5.size
      have hdsr : Disj Sk sl (some ⟨w5.heap.size, 0, none⟩) [⟨rb, Ab, cb⟩] := fun q h1 h2 => by
        have h3 := hlt5s q h1
        rcases touch_one h2 with rfl | e
        · omega
        · have := (hobl q e).1; omega
      have hdar : Disj Ak al (some ⟨w5.heap.size, 0, none⟩) [⟨rb, Ab, cb⟩] := fun q h1 h2 => by
        have h3 := hlt5a q h1
        rcases touch_one h2 with rfl | e
        · omega
        · have := (hobl q e).1; omega
      have htr : ∀ q, Touch (some ⟨w5.heap.size, 0, none⟩) [⟨rb, Ab, cb⟩] q → q ≠ w.heap.size + 1 := fun q h2 => by
        rcases touch_one h2 with rfl | e
        · omega
        · have := (hobl q e).1; omega
      go_wp2_with (first
        | (refine wpList_load_row rfl 25 (.tmp 1) rfl (w.heap.size) rfl 25 #[.int .i64 h.craft, .int .i64 h.next, .int .i64 h.ahead, .slice Sk n1 ck, .slice Ak n2 dk, .int .i64 0, .int .i64 h.patience, .int .i64 0, .int .i64 h.limit, .int .i64 h.pause, .int .i64 h.pause, .int .i64 0] (0, 0) _ b15 Try.underlying25 rfl handsz ?_)
        | (refine wpList_store_row rfl 25 (.tmp 2) (.tmp 36) rfl (w.heap.size + 1) #[.int .i64 h.craft, .int .i64 h.next, .int .i64 h.ahead, .slice Sk n1 ck, .slice Ak n2 dk, .int .i64 0, .int .i64 h.patience, .int .i64 0, .int .i64 h.limit, .int .i64 h.pause, .int .i64 h.pause, .int .i64 0] rfl rfl 25 _ b26 handsz rfl (by simp [Value.oneCell']) ?_))
      obtain ⟨rfl, rfl, rfl⟩ : freeH h = H ∧ [rb] = rows ∧ err = 0 := by have := HR2.out; rw [RB.out] at this; simp only [Prod.mk.injEq] at this; exact ⟨this.1, this.2.1, this.2.2.symm⟩
      obtain rfl : n1 = m1 := by rw [← N1.out, ← M1.out]; rfl
      obtain rfl : n2 = m2 := by rw [← N2.out, ← M2.out]; rfl
      obtain rfl : nR = 1 := by rw [← NR.out]; rfl
      have b26' := b26.row #[.int .i64 h.craft, .int .i64 h.next, .int .i64 h.ahead, .slice Sk n1 ck, .slice Ak n2 dk, .int .i64 0, .int .i64 h.patience, .int .i64 0, .int .i64 h.limit, .int .i64 h.pause, .int .i64 h.pause, .int .i64 0]
      refine bodyPost_ret (v := .tuple #[.agg #[.int .i64 h.craft, .int .i64 h.next, .int .i64 h.ahead, .slice Sk n1 ck, .slice Ak n2 dk, .int .i64 0, .int .i64 h.patience, .int .i64 0, .int .i64 h.limit, .int .i64 h.pause, .int .i64 h.pause, .int .i64 0], .slice (some ⟨w5.heap.size, 0, none⟩) 1 1, .int .i64 0]) (results_cell_slot2 (ty := 25) Try.results15 _ _ (w.heap.size + 1) 25 _ (0, 0) _ rfl rfl rfl b26' Try.underlying25 rfl handsz) rfl ?_
      refine ⟨Sk, ck, Ak, dk, some ⟨w5.heap.size, 0, none⟩, 1, sl, al, [⟨rb, Ab, cb⟩], rfl, ⟨MS.out, MA.out, rfl⟩, (hOs6.lowRow (by omega) _).mono (by omega), (hOa6.lowRow (by omega) _).mono (by omega), hR6.keep (fun q hq => setRow_other _ _ q _ (htr q hq)), DD.out, hdsr, hdar, below_row hB6 (by omega) _⟩
    · have e15 : (h.halt == 15) = false := by rw [beq_eq_false_iff_ne]; exact h15
      have e15' : (h.halt != 15) = true := by rw [bne_iff_ne]; exact h15
      by_cases h19 : h.halt = 19
      · have HR2 : Hid ((freeH h, [(ordEnc (freeO h)).1], (0 : Int)) = (H, rows, err)) := Lib.hid (by have := HR1.out; unfold freeS at this; rw [if_pos (.inr h19)] at this; exact this)
        have e19 : (h.halt == 19) = true := by rw [h19]; rfl
        have e19' : (h.halt != 19) = false := by rw [h19]; rfl
        clear HR1 h15 h19
        have k11 := b1.cell' (i := 11) rfl
        have kf0 := b1.frozen
        have b1_0 : Blk (W2.setCell ⟨w.heap.size, 11, none⟩ (.int .i64 0)) w.heap.size 25 #[.int .i64 h.craft, .int .i64 h.next, .int .i64 h.ahead, .slice Sk n1 ck, .slice Ak n2 dk, .int .i64 h.timer, .int .i64 h.patience, .int .i64 h.tries, .int .i64 h.limit, .int .i64 h.since, .int .i64 h.pause, .int .i64 0] := b1.set_ 11 (.int .i64 0)
        have k5 := b1_0.cell' (i := 5) rfl
        have kf1 := b1_0.frozen
        have b1_1 : Blk ((W2.setCell ⟨w.heap.size, 11, none⟩ (.int .i64 0)).setCell ⟨w.heap.size, 5, none⟩ (.int .i64 0)) w.heap.size 25 #[.int .i64 h.craft, .int .i64 h.next, .int .i64 h.ahead, .slice Sk n1 ck, .slice Ak n2 dk, .int .i64 0, .int .i64 h.patience, .int .i64 h.tries, .int .i64 h.limit, .int .i64 h.since, .int .i64 h.pause, .int .i64 0] := b1_0.set_ 5 (.int .i64 0)
        have k7 := b1_1.cell' (i := 7) rfl
        have kf2 := b1_1.frozen
        have b1_2 : Blk (((W2.setCell ⟨w.heap.size, 11, none⟩ (.int .i64 0)).setCell ⟨w.heap.size, 5, none⟩ (.int .i64 0)).setCell ⟨w.heap.size, 7, none⟩ (.int .i64 0)) w.heap.size 25 #[.int .i64 h.craft, .int .i64 h.next, .int .i64 h.ahead, .slice Sk n1 ck, .slice Ak n2 dk, .int .i64 0, .int .i64 h.patience, .int .i64 0, .int .i64 h.limit, .int .i64 h.since, .int .i64 h.pause, .int .i64 0] := b1_1.set_ 7 (.int .i64 0)
        have k9 := b1_2.cell' (i := 9) rfl
        have kf3 := b1_2.frozen
        have k10 := b1_2.cell' (i := 10) rfl
        have b1_3 : Blk ((((W2.setCell ⟨w.heap.size, 11, none⟩ (.int .i64 0)).setCell ⟨w.heap.size, 5, none⟩ (.int .i64 0)).setCell ⟨w.heap.size, 7, none⟩ (.int .i64 0)).setCell ⟨w.heap.size, 9, none⟩ (.int .i64 h.pause)) w.heap.size 25 #[.int .i64 h.craft, .int .i64 h.next, .int .i64 h.ahead, .slice Sk n1 ck, .slice Ak n2 dk, .int .i64 0, .int .i64 h.patience, .int .i64 0, .int .i64 h.limit, .int .i64 h.pause, .int .i64 h.pause, .int .i64 0] := b1_2.set_ 9 (.int .i64 h.pause)
        have b2n := ((((b2).far (p := ⟨w.heap.size, 11, none⟩) (by show w.heap.size + 1 ≠ w.heap.size; omega) (.int .i64 0)).far (p := ⟨w.heap.size, 5, none⟩) (by show w.heap.size + 1 ≠ w.heap.size; omega) (.int .i64 0)).far (p := ⟨w.heap.size, 7, none⟩) (by show w.heap.size + 1 ≠ w.heap.size; omega) (.int .i64 0)).far (p := ⟨w.heap.size, 9, none⟩) (by show w.heap.size + 1 ≠ w.heap.size; omega) (.int .i64 h.pause)
        have hOs3 := ((((hOs).low (p := ⟨w.heap.size, 11, none⟩) (by show w.heap.size < _; omega) (.int .i64 0)).low (p := ⟨w.heap.size, 5, none⟩) (by show w.heap.size < _; omega) (.int .i64 0)).low (p := ⟨w.heap.size, 7, none⟩) (by show w.heap.size < _; omega) (.int .i64 0)).low (p := ⟨w.heap.size, 9, none⟩) (by show w.heap.size < _; omega) (.int .i64 h.pause)
        have hOa3 := ((((hOa).low (p := ⟨w.heap.size, 11, none⟩) (by show w.heap.size < _; omega) (.int .i64 0)).low (p := ⟨w.heap.size, 5, none⟩) (by show w.heap.size < _; omega) (.int .i64 0)).low (p := ⟨w.heap.size, 7, none⟩) (by show w.heap.size < _; omega) (.int .i64 0)).low (p := ⟨w.heap.size, 9, none⟩) (by show w.heap.size < _; omega) (.int .i64 h.pause)
        have hB3 := ((((hB).setCell (p := ⟨w.heap.size, 11, none⟩) (Nat.le_refl _) (.int .i64 0)).setCell (p := ⟨w.heap.size, 5, none⟩) (Nat.le_refl _) (.int .i64 0)).setCell (p := ⟨w.heap.size, 7, none⟩) (Nat.le_refl _) (.int .i64 0)).setCell (p := ⟨w.heap.size, 9, none⟩) (Nat.le_refl _) (.int .i64 h.pause)
        have z3 : (((((W2.setCell ⟨w.heap.size, 11, none⟩ (.int .i64 0)).setCell ⟨w.heap.size, 5, none⟩ (.int .i64 0)).setCell ⟨w.heap.size, 7, none⟩ (.int .i64 0)).setCell ⟨w.heap.size, 9, none⟩ (.int .i64 h.pause))).heap.size = W2.heap.size := by simp
        go_upto_region 10 with fail
        clear k11 k5 k7 k9 k10 kf0 kf1 kf2 kf3 b1_0 b1_1 b1_2 b1 b2 hOs hOa hB
        replace z3 : W2.heap.size ≤ (((((W2.setCell ⟨w.heap.size, 11, none⟩ (.int .i64 0)).setCell ⟨w.heap.size, 5, none⟩ (.int .i64 0)).setCell ⟨w.heap.size, 7, none⟩ (.int .i64 0)).setCell ⟨w.heap.size, 9, none⟩ (.int .i64 h.pause))).heap.size := Nat.le_of_eq z3.symm
        generalize ((((W2.setCell ⟨w.heap.size, 11, none⟩ (.int .i64 0)).setCell ⟨w.heap.size, 5, none⟩ (.int .i64 0)).setCell ⟨w.heap.size, 7, none⟩ (.int .i64 0)).setCell ⟨w.heap.size, 9, none⟩ (.int .i64 h.pause)) = W3 at *
        have k0 := b1_3.cell' (i := 0) rfl
        have CO := orderBytes_any (freeO h) (some ⟨W3.heap.size, 0, none⟩) 1 (W3.alloc (.cells #[.int .u8 0] 5)) (Rd_new W3 [.int .u8 0] 5)
        obtain ⟨rb, hrb⟩ : ∃ rb, (ordEnc (freeO h)).1 = rb := ⟨_, rfl⟩
        obtain ⟨nb, hnb⟩ : ∃ nb, rb.length = nb := ⟨_, rfl⟩
        unfold BytesRes at CO
        rw [hrb, hnb] at CO
        have RB := Lib.hid hrb
        have NB := Lib.hid hnb
        clear hrb hnb
        have COh := Lib.hid CO
        clear CO
        have zb : (W3.alloc (.cells #[.int .u8 0] 5)).heap.size = W3.heap.size + 1 := by simp
        have b1b := b1_3.alloc (.cells #[.int .u8 0] 5)
        have b2b := b2n.alloc (.cells #[.int .u8 0] 5)
        have hOs4 := hOs3.alloc (.cells #[.int .u8 0] 5)
        have hOa4 := hOa3.alloc (.cells #[.int .u8 0] 5)
        have hB4 := hB3.alloc hB3.size (.cells #[.int .u8 0] 5)
        go_wp2_with fail
        generalize W3.alloc (.cells #[.int .u8 0] 5) = W4 at *
        refine COh.out.mono ?_
        rintro e w5 ⟨Ab, cb, rfl, hOb, hb⟩
        clear COh
        have s5 := hb.size
        have b15 := b1b.step hb
        have b25 := b2b.step hb
        have hlt5s := fun (q : Nat) (hq : Touch Sk sl q) => (hOs4.lt hq).2
        have hlt5a := fun (q : Nat) (hq : Touch Ak al q) => (hOa4.lt hq).2
        have hOs5 := hOs4.step hb
        have hOa5 := hOa4.step hb
        have hB5 := hB4.trans (hb.mono hB4.size)
        have hobl := hOb.lt
        have b16 := b15.alloc (.cells #[.slice Ab nb cb] 26)
        have b26 := b25.alloc (.cells #[.slice Ab nb cb] 26)
        have hOs6 := hOs5.alloc (.cells #[.slice Ab nb cb] 26)
        have hOa6 := hOa5.alloc (.cells #[.slice Ab nb cb] 26)
        have hB6 := hB5.alloc hB5.size (.cells #[.slice Ab nb cb] 26)
        have hR6 := OwnRs.one (hOb.mono (base' := w.heap.size) (by omega)) NB.out hB5.size
        have hdsr : Disj Sk sl (some ⟨w5.heap.size, 0, none⟩) [⟨rb, Ab, cb⟩] := fun q h1 h2 => by
          have h3 := hlt5s q h1
          rcases touch_one h2 with rfl | e
          · omega
          · have := (hobl q e).1; omega
        have hdar : Disj Ak al (some ⟨w5.heap.size, 0, none⟩) [⟨rb, Ab, cb⟩] := fun q h1 h2 => by
          have h3 := hlt5a q h1
          rcases touch_one h2 with rfl | e
          · omega
          · have := (hobl q e).1; omega
        have htr : ∀ q, Touch (some ⟨w5.heap.size, 0, none⟩) [⟨rb, Ab, cb⟩] q → q ≠ w.heap.size + 1 := fun q h2 => by
          rcases touch_one h2 with rfl | e
          · omega
          · have := (hobl q e).1; omega
        go_wp2_with (first
          | (refine wpList_load_row rfl 25 (.tmp 1) rfl (w.heap.size) rfl 25 #[.int .i64 h.craft, .int .i64 h.next, .int .i64 h.ahead, .slice Sk n1 ck, .slice Ak n2 dk, .int .i64 0, .int .i64 h.patience, .int .i64 0, .int .i64 h.limit, .int .i64 h.pause, .int .i64 h.pause, .int .i64 0] (0, 0) _ b15 Try.underlying25 rfl handsz ?_)
          | (refine wpList_store_row rfl 25 (.tmp 2) (.tmp 36) rfl (w.heap.size + 1) #[.int .i64 h.craft, .int .i64 h.next, .int .i64 h.ahead, .slice Sk n1 ck, .slice Ak n2 dk, .int .i64 0, .int .i64 h.patience, .int .i64 0, .int .i64 h.limit, .int .i64 h.pause, .int .i64 h.pause, .int .i64 0] rfl rfl 25 _ b26 handsz rfl (by simp [Value.oneCell']) ?_))
        obtain ⟨rfl, rfl, rfl⟩ : freeH h = H ∧ [rb] = rows ∧ err = 0 := by have := HR2.out; rw [RB.out] at this; simp only [Prod.mk.injEq] at this; exact ⟨this.1, this.2.1, this.2.2.symm⟩
        obtain rfl : n1 = m1 := by rw [← N1.out, ← M1.out]; rfl
        obtain rfl : n2 = m2 := by rw [← N2.out, ← M2.out]; rfl
        obtain rfl : nR = 1 := by rw [← NR.out]; rfl
        have b26' := b26.row #[.int .i64 h.craft, .int .i64 h.next, .int .i64 h.ahead, .slice Sk n1 ck, .slice Ak n2 dk, .int .i64 0, .int .i64 h.patience, .int .i64 0, .int .i64 h.limit, .int .i64 h.pause, .int .i64 h.pause, .int .i64 0]
        refine bodyPost_ret (v := .tuple #[.agg #[.int .i64 h.craft, .int .i64 h.next, .int .i64 h.ahead, .slice Sk n1 ck, .slice Ak n2 dk, .int .i64 0, .int .i64 h.patience, .int .i64 0, .int .i64 h.limit, .int .i64 h.pause, .int .i64 h.pause, .int .i64 0], .slice (some ⟨w5.heap.size, 0, none⟩) 1 1, .int .i64 0]) (results_cell_slot2 (ty := 25) Try.results15 _ _ (w.heap.size + 1) 25 _ (0, 0) _ rfl rfl rfl b26' Try.underlying25 rfl handsz) rfl ?_
        refine ⟨Sk, ck, Ak, dk, some ⟨w5.heap.size, 0, none⟩, 1, sl, al, [⟨rb, Ab, cb⟩], rfl, ⟨MS.out, MA.out, rfl⟩, (hOs6.lowRow (by omega) _).mono (by omega), (hOa6.lowRow (by omega) _).mono (by omega), hR6.keep (fun q hq => setRow_other _ _ q _ (htr q hq)), DD.out, hdsr, hdar, below_row hB6 (by omega) _⟩
      · have HR2 : Hid ((h, ([] : List (List UInt8)), (6 : Int)) = (H, rows, err)) := Lib.hid (by have := HR1.out; unfold freeS at this; rw [if_neg (by rintro (h | h); exact h15 h; exact h19 h)] at this; exact this)
        have e19 : (h.halt == 19) = false := by rw [beq_eq_false_iff_ne]; exact h19
        have e19' : (h.halt != 19) = true := by rw [bne_iff_ne]; exact h19
        clear HR1 h15 h19
        have k11 := b1.cell' (i := 11) rfl
        obtain ⟨rfl, rfl, rfl⟩ : h = H ∧ [] = rows ∧ err = 6 := by have := HR2.out; simp only [Prod.mk.injEq] at this; exact ⟨this.1, this.2.1, this.2.2.symm⟩
        obtain rfl : n1 = m1 := by rw [← N1.out, M1.out]
        obtain rfl : n2 = m2 := by rw [← N2.out, M2.out]
        obtain rfl : nR = 0 := by rw [← NR.out]; rfl
        go_wp2_with (first
          | (refine wpList_load_row rfl 25 (.tmp 1) rfl (w.heap.size) rfl 25 #[.int .i64 h.craft, .int .i64 h.next, .int .i64 h.ahead, .slice Sk n1 ck, .slice Ak n2 dk, .int .i64 h.timer, .int .i64 h.patience, .int .i64 h.tries, .int .i64 h.limit, .int .i64 h.since, .int .i64 h.pause, .int .i64 h.halt] (0, 0) _ b1 Try.underlying25 rfl handsz ?_)
          | (refine wpList_store_row rfl 25 (.tmp 2) (.tmp 21) rfl (w.heap.size + 1) #[.int .i64 h.craft, .int .i64 h.next, .int .i64 h.ahead, .slice Sk n1 ck, .slice Ak n2 dk, .int .i64 h.timer, .int .i64 h.patience, .int .i64 h.tries, .int .i64 h.limit, .int .i64 h.since, .int .i64 h.pause, .int .i64 h.halt] rfl rfl 25 _ b2 handsz rfl (hand_one h Sk n1 ck Ak n2 dk) ?_))
        have b2' := b2.row #[.int .i64 h.craft, .int .i64 h.next, .int .i64 h.ahead, .slice Sk n1 ck, .slice Ak n2 dk, .int .i64 h.timer, .int .i64 h.patience, .int .i64 h.tries, .int .i64 h.limit, .int .i64 h.since, .int .i64 h.pause, .int .i64 h.halt]
        refine bodyPost_ret (v := .tuple #[.agg #[.int .i64 h.craft, .int .i64 h.next, .int .i64 h.ahead, .slice Sk n1 ck, .slice Ak n2 dk, .int .i64 h.timer, .int .i64 h.patience, .int .i64 h.tries, .int .i64 h.limit, .int .i64 h.since, .int .i64 h.pause, .int .i64 h.halt], .slice none 0 0, .int .i64 6]) (results_cell_slot2 (ty := 25) Try.results15 _ _ (w.heap.size + 1) 25 _ (0, 0) _ rfl rfl rfl b2' Try.underlying25 rfl handsz) rfl ?_
        exact ⟨Sk, ck, Ak, dk, none, 0, sl, al, [], rfl, ⟨MS.out, MA.out, rfl⟩, (hOs.lowRow (by omega) _).mono (by omega), (hOa.lowRow (by omega) _).mono (by omega), OwnRs.nil _ _, DD.out, Disj.nil _ _, Disj.nil _ _, below_row hB (by omega) _⟩
  · obtain ⟨rfl, rfl, rfl⟩ : H = Hnd.zero ∧ rows = [] ∧ err = 11 := by have := HR.out; unfold freeR at this; rw [if_neg hok] at this; simp only [Prod.mk.injEq] at this; exact ⟨this.1.symm, this.2.1.symm, this.2.2.symm⟩
    obtain rfl : m1 = 0 := by rw [← M1.out]; rfl
    obtain rfl : m2 = 0 := by rw [← M2.out]; rfl
    obtain rfl : nR = 0 := by rw [← NR.out]; rfl
    rw [show handB h = false from decide_eq_false hok] at CM
    clear HR hok
    go_enter Try.func15, Try.ntmps15
    go_wp2_with (refine wpList_load_row rfl 25 (.tmp 1) rfl (w.heap.size) rfl 25 #[.int .i64 h.craft, .int .i64 h.next, .int .i64 h.ahead, .slice S n1 c, .slice A n2 d, .int .i64 h.timer, .int .i64 h.patience, .int .i64 h.tries, .int .i64 h.limit, .int .i64 h.since, .int .i64 h.pause, .int .i64 h.halt] (0, 0) _ b1 Try.underlying25 rfl handsz ?_)
    generalize ((w.alloc (.cells #[.int .i64 h.craft, .int .i64 h.next, .int .i64 h.ahead, .slice S n1 c, .slice A n2 d, .int .i64 h.timer, .int .i64 h.patience, .int .i64 h.tries, .int .i64 h.limit, .int .i64 h.since, .int .i64 h.pause, .int .i64 h.halt] 25)).alloc (.cells #[.int .i64 0, .int .i64 0, .int .i64 0, .slice none 0 0, .slice none 0 0, .int .i64 0, .int .i64 0, .int .i64 0, .int .i64 0, .int .i64 0, .int .i64 0, .int .i64 0] 25)) = W0 at *
    refine (CM.out W0 (HS.out.below hB) (HA.out.below hB)).mono ?_
    rintro e w1 ⟨rfl, hb⟩
    clear CM
    have s1 := hb.size
    replace b2 := b2.step hb
    replace hB := hB.trans (hb.mono hB.size)
    go_wp2_with (first
      | (refine wpList_store_row rfl 25 (.tmp 2) (.tmp 10) rfl (w.heap.size + 1) #[.int .i64 0, .int .i64 0, .int .i64 0, .slice none 0 0, .slice none 0 0, .int .i64 0, .int .i64 0, .int .i64 0, .int .i64 0, .int .i64 0, .int .i64 0, .int .i64 0] rfl rfl 25 _ b2 handsz rfl (by simp [Value.oneCell']) ?_))
    have b2' := b2.row #[.int .i64 0, .int .i64 0, .int .i64 0, .slice none 0 0, .slice none 0 0, .int .i64 0, .int .i64 0, .int .i64 0, .int .i64 0, .int .i64 0, .int .i64 0, .int .i64 0]
    refine bodyPost_ret (v := .tuple #[.agg #[.int .i64 0, .int .i64 0, .int .i64 0, .slice none 0 0, .slice none 0 0, .int .i64 0, .int .i64 0, .int .i64 0, .int .i64 0, .int .i64 0, .int .i64 0, .int .i64 0], .slice none 0 0, .int .i64 11]) (results_cell_slot2 (ty := 25) Try.results15 _ _ (w.heap.size + 1) 25 _ (0, 0) _ rfl rfl rfl b2' Try.underlying25 rfl handsz) rfl ?_
    exact ⟨none, 0, none, 0, none, 0, [], [], [], rfl, ⟨rfl, rfl, rfl⟩, OwnRs.nil _ _, OwnRs.nil _ _, OwnRs.nil _ _, Disj.nil _ _, Disj.nil _ _, Disj.nil _ _, below_row hB (by omega) _⟩
end Go.Proofs.Ytppmdamcdhmcpaa
