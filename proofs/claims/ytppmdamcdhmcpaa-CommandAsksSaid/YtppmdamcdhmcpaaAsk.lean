/-
  command.Ask: anything is asked of any hand.
-/
import Derived.Test.YtppmdamcdhmcpaaWithAsk
import Derived.Test.YtppmdamcdhmcpaaWithNo
import Derived.Test.YtppmdamcdhmcpaaAskDo
namespace Go.Proofs.Ytppmdamcdhmcpaa
set_option linter.unusedSimpArgs false
set_option linter.unusedVariables false
open Go.RowKit

theorem withAsk_all (h : Hnd) (S : Option Addr) (n1 c : Nat) (A : Option Addr) (n2 d : Nat) (X : Option Addr) (l : List UInt8) (nl cl b : Nat) (w : World) (hS : RdRows w S h.sent) (hA : RdRows w A h.asked) (hn1 : h.sent.length = n1) (hn2 : h.asked.length = n2) (f1 : RowsFit h.sent n1) (f2 : RowsFit h.asked n2)
    (hb : Blk w b 26 #[.slice X nl cl]) (hX : Rd w X (bvs l)) (hnl : l.length = nl) (H : Hnd) (m1 m2 : Nat) (err : Int) (hR : askR h l = (H, err)) (hm1 : H.sent.length = m1) (hm2 : H.asked.length = m2) :
    Calls Try.prog 21 #[hvn h S n1 c A n2 d, .func (.func 22) #[] #[.pointer (some ⟨b, 0, none⟩)]] w fun e w' => HandOut w w' H m1 m2 [] 0 err e := by
  by_cases hok : handOk h
  · rw [askR_ok hok] at hR
    refine with_Ask _ h S n1 c A n2 d w hS hA hn1 hn2 f1 f2 H m1 m2 [] 0 err hok ?_
    intro W p ck dk base Sk Ak sl al hB hba hbp hp hsl hal hOs hOa hdj
    exact ask1_any h l nl cl b X n1 n2 p ck dk base Sk Ak sl al W hp (hb.step hB) (hX.below hB) hnl hbp (by have := hb.lt; omega) hsl hal hOs hOa hdj (by rw [← hn2]; exact hok.2.2.2.1) H m1 m2 err hR hm1 hm2
  · obtain ⟨rfl, rfl⟩ : H = Hnd.zero ∧ err = 11 := by unfold askR at hR; rw [if_neg hok] at hR; simp only [Prod.mk.injEq] at hR; exact ⟨hR.1.symm, hR.2.symm⟩
    obtain rfl : m1 = 0 := by rw [← hm1]; rfl
    obtain rfl : m2 = 0 := by rw [← hm2]; rfl
    exact with_no _ h S n1 c A n2 d w hS hA hn1 hn2 f1 f2 hok

set_option maxHeartbeats 12800000 in
set_option maxRecDepth 100000 in
theorem pask_any (h : Hnd) (S : Option Addr) (n1 c : Nat) (A : Option Addr) (n2 d : Nat) (X : Option Addr) (l : List UInt8) (nl cl : Nat) (w : World) (hS : RdRows w S h.sent) (hA : RdRows w A h.asked) (hn1 : h.sent.length = n1) (hn2 : h.asked.length = n2) (f1 : RowsFit h.sent n1) (f2 : RowsFit h.asked n2)
    (hX : Rd w X (bvs l)) (hnl : l.length = nl) (H : Hnd) (m1 m2 : Nat) (err : Int) (hR : askR h l = (H, err)) (hm1 : H.sent.length = m1) (hm2 : H.asked.length = m2) :
    Calls Try.prog 9 #[hvn h S n1 c A n2 d, .slice X nl cl] w fun e w' => HandOne w w' H m1 m2 err e := by
  have CW := Lib.hid (fun (b : Nat) w (hS : RdRows w S h.sent) (hA : RdRows w A h.asked) (hb : Blk w b 26 #[.slice X nl cl]) (hX : Rd w X (bvs l)) => withAsk_all h S n1 c A n2 d X l nl cl b w hS hA hn1 hn2 f1 f2 hb hX hnl H m1 m2 err hR hm1 hm2)
  have HS := Lib.hid hS
  have HA := Lib.hid hA
  have HX := Lib.hid hX
  clear hS hA hX hn1 hn2 f1 f2 hnl hR hm1 hm2
  unfold hvn at CW ⊢
  have e1 : (w.alloc (.cells #[.int .i64 h.craft, .int .i64 h.next, .int .i64 h.ahead, .slice S n1 c, .slice A n2 d, .int .i64 h.timer, .int .i64 h.patience, .int .i64 h.tries, .int .i64 h.limit, .int .i64 h.since, .int .i64 h.pause, .int .i64 h.halt] 25)).heap.size = w.heap.size + 1 := by simp
  have e2 : ((w.alloc (.cells #[.int .i64 h.craft, .int .i64 h.next, .int .i64 h.ahead, .slice S n1 c, .slice A n2 d, .int .i64 h.timer, .int .i64 h.patience, .int .i64 h.tries, .int .i64 h.limit, .int .i64 h.since, .int .i64 h.pause, .int .i64 h.halt] 25)).alloc (.cells #[.slice X nl cl] 26)).heap.size = w.heap.size + 2 := by simp
  have s0 : (((w.alloc (.cells #[.int .i64 h.craft, .int .i64 h.next, .int .i64 h.ahead, .slice S n1 c, .slice A n2 d, .int .i64 h.timer, .int .i64 h.patience, .int .i64 h.tries, .int .i64 h.limit, .int .i64 h.since, .int .i64 h.pause, .int .i64 h.halt] 25)).alloc (.cells #[.slice X nl cl] 26)).alloc (.cells #[.int .i64 0, .int .i64 0, .int .i64 0, .slice none 0 0, .slice none 0 0, .int .i64 0, .int .i64 0, .int .i64 0, .int .i64 0, .int .i64 0, .int .i64 0, .int .i64 0] 25)).heap.size = w.heap.size + 3 := by simp
  have b2 := ((Blk.new w 25 #[.int .i64 h.craft, .int .i64 h.next, .int .i64 h.ahead, .slice S n1 c, .slice A n2 d, .int .i64 h.timer, .int .i64 h.patience, .int .i64 h.tries, .int .i64 h.limit, .int .i64 h.since, .int .i64 h.pause, .int .i64 h.halt]).alloc (.cells #[.slice X nl cl] 26)).alloc (.cells #[.int .i64 0, .int .i64 0, .int .i64 0, .slice none 0 0, .slice none 0 0, .int .i64 0, .int .i64 0, .int .i64 0, .int .i64 0, .int .i64 0, .int .i64 0, .int .i64 0] 25)
  have b3 := (Blk.new (w.alloc (.cells #[.int .i64 h.craft, .int .i64 h.next, .int .i64 h.ahead, .slice S n1 c, .slice A n2 d, .int .i64 h.timer, .int .i64 h.patience, .int .i64 h.tries, .int .i64 h.limit, .int .i64 h.since, .int .i64 h.pause, .int .i64 h.halt] 25)) 26 #[.slice X nl cl]).alloc (.cells #[.int .i64 0, .int .i64 0, .int .i64 0, .slice none 0 0, .slice none 0 0, .int .i64 0, .int .i64 0, .int .i64 0, .int .i64 0, .int .i64 0, .int .i64 0, .int .i64 0] 25)
  rw [e1] at b3
  have b4 := Blk.new ((w.alloc (.cells #[.int .i64 h.craft, .int .i64 h.next, .int .i64 h.ahead, .slice S n1 c, .slice A n2 d, .int .i64 h.timer, .int .i64 h.patience, .int .i64 h.tries, .int .i64 h.limit, .int .i64 h.since, .int .i64 h.pause, .int .i64 h.halt] 25)).alloc (.cells #[.slice X nl cl] 26)) 25 #[.int .i64 0, .int .i64 0, .int .i64 0, .slice none 0 0, .slice none 0 0, .int .i64 0, .int .i64 0, .int .i64 0, .int .i64 0, .int .i64 0, .int .i64 0, .int .i64 0]
  rw [e2] at b4
  have hB : Below w.heap.size w (((w.alloc (.cells #[.int .i64 h.craft, .int .i64 h.next, .int .i64 h.ahead, .slice S n1 c, .slice A n2 d, .int .i64 h.timer, .int .i64 h.patience, .int .i64 h.tries, .int .i64 h.limit, .int .i64 h.since, .int .i64 h.pause, .int .i64 h.halt] 25)).alloc (.cells #[.slice X nl cl] 26)).alloc (.cells #[.int .i64 0, .int .i64 0, .int .i64 0, .slice none 0 0, .slice none 0 0, .int .i64 0, .int .i64 0, .int .i64 0, .int .i64 0, .int .i64 0, .int .i64 0, .int .i64 0] 25)) := (((Below.refl _ _).alloc (Nat.le_refl _) _).alloc (by simp) _).alloc (by simp; omega) _
  clear e1 e2
  go_enter Try.func9, Try.ntmps9
  go_wp2_with (refine wpList_load_row rfl 25 (.tmp 2) rfl (w.heap.size) rfl 25 #[.int .i64 h.craft, .int .i64 h.next, .int .i64 h.ahead, .slice S n1 c, .slice A n2 d, .int .i64 h.timer, .int .i64 h.patience, .int .i64 h.tries, .int .i64 h.limit, .int .i64 h.since, .int .i64 h.pause, .int .i64 h.halt] (0, 0) _ b2 Try.underlying25 rfl handsz ?_)
  generalize (((w.alloc (.cells #[.int .i64 h.craft, .int .i64 h.next, .int .i64 h.ahead, .slice S n1 c, .slice A n2 d, .int .i64 h.timer, .int .i64 h.patience, .int .i64 h.tries, .int .i64 h.limit, .int .i64 h.since, .int .i64 h.pause, .int .i64 h.halt] 25)).alloc (.cells #[.slice X nl cl] 26)).alloc (.cells #[.int .i64 0, .int .i64 0, .int .i64 0, .slice none 0 0, .slice none 0 0, .int .i64 0, .int .i64 0, .int .i64 0, .int .i64 0, .int .i64 0, .int .i64 0, .int .i64 0] 25)) = W0 at *
  refine (CW.out (w.heap.size + 1) W0 (HS.out.below hB) (HA.out.below hB) b3 (HX.out.below hB)).mono ?_
  rintro e w1 ⟨S9, c9, A9, d9, R9, cR9, sl9, al9, rl9, rfl, ⟨h91, h92, h93⟩, hO9s, hO9a, hO9r, dj1, dj2, dj3, hb⟩
  have H91 := Lib.hid h91
  have H92 := Lib.hid h92
  have D1 := Lib.hid dj1
  clear CW h91 h92 h93 dj1 dj2 dj3 hO9r
  have s1 := hb.size
  replace b2 := b2.step hb
  replace b4 := b4.step hb
  replace hB := hB.trans (hb.mono hB.size)
  clear hb
  unfold hvn
  have b2' := b2.row #[.int .i64 H.craft, .int .i64 H.next, .int .i64 H.ahead, .slice S9 m1 c9, .slice A9 m2 d9, .int .i64 H.timer, .int .i64 H.patience, .int .i64 H.tries, .int .i64 H.limit, .int .i64 H.since, .int .i64 H.pause, .int .i64 H.halt]
  have b4' := b4.farRow (g := w.heap.size) (by omega) #[.int .i64 H.craft, .int .i64 H.next, .int .i64 H.ahead, .slice S9 m1 c9, .slice A9 m2 d9, .int .i64 H.timer, .int .i64 H.patience, .int .i64 H.tries, .int .i64 H.limit, .int .i64 H.since, .int .i64 H.pause, .int .i64 H.halt]
  have hO9s' := hO9s.lowRow (g := w.heap.size) (by omega) #[.int .i64 H.craft, .int .i64 H.next, .int .i64 H.ahead, .slice S9 m1 c9, .slice A9 m2 d9, .int .i64 H.timer, .int .i64 H.patience, .int .i64 H.tries, .int .i64 H.limit, .int .i64 H.since, .int .i64 H.pause, .int .i64 H.halt]
  have hO9a' := hO9a.lowRow (g := w.heap.size) (by omega) #[.int .i64 H.craft, .int .i64 H.next, .int .i64 H.ahead, .slice S9 m1 c9, .slice A9 m2 d9, .int .i64 H.timer, .int .i64 H.patience, .int .i64 H.tries, .int .i64 H.limit, .int .i64 H.since, .int .i64 H.pause, .int .i64 H.halt]
  have hB' := below_row hB (g := w.heap.size) (Nat.le_refl _) #[.int .i64 H.craft, .int .i64 H.next, .int .i64 H.ahead, .slice S9 m1 c9, .slice A9 m2 d9, .int .i64 H.timer, .int .i64 H.patience, .int .i64 H.tries, .int .i64 H.limit, .int .i64 H.since, .int .i64 H.pause, .int .i64 H.halt]
  have s3 := setRow_size w1 w.heap.size #[.int .i64 H.craft, .int .i64 H.next, .int .i64 H.ahead, .slice S9 m1 c9, .slice A9 m2 d9, .int .i64 H.timer, .int .i64 H.patience, .int .i64 H.tries, .int .i64 H.limit, .int .i64 H.since, .int .i64 H.pause, .int .i64 H.halt]
  go_upto_region 2 with (refine wpList_store_row rfl 25 (.tmp 2) (.tmp 12) rfl (w.heap.size) #[.int .i64 H.craft, .int .i64 H.next, .int .i64 H.ahead, .slice S9 m1 c9, .slice A9 m2 d9, .int .i64 H.timer, .int .i64 H.patience, .int .i64 H.tries, .int .i64 H.limit, .int .i64 H.since, .int .i64 H.pause, .int .i64 H.halt] rfl rfl 25 _ b2 handsz rfl (hand_one H S9 m1 c9 A9 m2 d9) ?_)
  generalize w1.setRow w.heap.size #[.int .i64 H.craft, .int .i64 H.next, .int .i64 H.ahead, .slice S9 m1 c9, .slice A9 m2 d9, .int .i64 H.timer, .int .i64 H.patience, .int .i64 H.tries, .int .i64 H.limit, .int .i64 H.since, .int .i64 H.pause, .int .i64 H.halt] = W2 at *
  go_wp2_with (first | (refine wpList_load_row rfl 25 (.tmp 2) rfl (w.heap.size) rfl 25 #[.int .i64 H.craft, .int .i64 H.next, .int .i64 H.ahead, .slice S9 m1 c9, .slice A9 m2 d9, .int .i64 H.timer, .int .i64 H.patience, .int .i64 H.tries, .int .i64 H.limit, .int .i64 H.since, .int .i64 H.pause, .int .i64 H.halt] (0, 0) _ b2' Try.underlying25 rfl handsz ?_) | (refine wpList_store_row rfl 25 (.tmp 4) (.tmp 15) rfl (w.heap.size + 2) #[.int .i64 H.craft, .int .i64 H.next, .int .i64 H.ahead, .slice S9 m1 c9, .slice A9 m2 d9, .int .i64 H.timer, .int .i64 H.patience, .int .i64 H.tries, .int .i64 H.limit, .int .i64 H.since, .int .i64 H.pause, .int .i64 H.halt] rfl rfl 25 _ b4' handsz rfl (hand_one H S9 m1 c9 A9 m2 d9) ?_))
  have b4'' := b4'.row #[.int .i64 H.craft, .int .i64 H.next, .int .i64 H.ahead, .slice S9 m1 c9, .slice A9 m2 d9, .int .i64 H.timer, .int .i64 H.patience, .int .i64 H.tries, .int .i64 H.limit, .int .i64 H.since, .int .i64 H.pause, .int .i64 H.halt]
  refine bodyPost_ret (v := .tuple #[.agg #[.int .i64 H.craft, .int .i64 H.next, .int .i64 H.ahead, .slice S9 m1 c9, .slice A9 m2 d9, .int .i64 H.timer, .int .i64 H.patience, .int .i64 H.tries, .int .i64 H.limit, .int .i64 H.since, .int .i64 H.pause, .int .i64 H.halt], .int .i64 err]) (results_cell_slot (ty := 25) Try.results9 _ _ (w.heap.size + 2) 25 _ (0, 0) _ rfl rfl b4'' Try.underlying25 rfl handsz) rfl ?_
  exact ⟨S9, c9, A9, d9, sl9, al9, rfl, ⟨H91.out, H92.out⟩, (hO9s'.lowRow (by omega) _).mono (by omega), (hO9a'.lowRow (by omega) _).mono (by omega), D1.out, below_row hB' (by omega) _⟩
end Go.Proofs.Ytppmdamcdhmcpaa
