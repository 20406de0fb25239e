/-
  CommandSteps's walk, over the contract of the document's StepOf. The document's up: a command's frame.
-/
import Derived.Test.YtppmdamcdhmcpaaMCommandSteps10
import Derived.Test.YtppmdamcdhmcpaaMCommandSteps27
import Derived.Test.YtppmdamcdhmcpaaMCommandSteps28
import Derived.Test.YtppmdamcdhmcpaaMCommandSteps18
import Derived.Test.YtppmdamcdhmcpaaMCommandSteps13
import Derived.Test.YtppmdamcdhmcpaaMCommandSteps23
import Derived.Deep.DeepCutAuto
namespace Go.Proofs.Ytppmdamcdhmcpaa
set_option linter.unusedSimpArgs false
set_option linter.unusedVariables false
open Go.RowKit

set_option maxHeartbeats 12800000 in
set_option maxRecDepth 100000 in
theorem commandSteps_of (h : Hnd) (st : Int) (heard : Bool) (S : Option Addr) (n1 c : Nat) (A : Option Addr) (n2 d : Nat) (w : World) (hS : RdRows w S h.sent) (hA : RdRows w A h.asked) (hn1 : h.sent.length = n1) (hn2 : h.asked.length = n2) (f1 : RowsFit h.sent n1) (f2 : RowsFit h.asked n2)
    (CU0 : ∀ (w : World) (H : Hnd) (m1 m2 : Nat) (rows : List (List UInt8)) (nR : Nat) (err : Int), RdRows w S h.sent → RdRows w A h.asked → stepR h st heard = (H, rows, err) → H.sent.length = m1 → H.asked.length = m2 → rows.length = nR →
      Calls Try.prog 17 #[hvn h S n1 c A n2 d, .int .i64 st, .bool heard] w fun e w' => HandOut w w' H m1 m2 rows nR err e) :
    Calls Try.prog 5 #[hvn h S n1 c A n2 d, .int .i64 st, .bool heard] w fun e w' => e = .returned (.bool true) ∧ Below w.heap.size w w' := by
  obtain ⟨H, rows, err, hR⟩ : ∃ H rows err, stepR h st heard = (H, rows, err) := ⟨_, _, _, rfl⟩
  obtain ⟨f3, f4, f5⟩ := stepR_fits (h := h) st heard
  rw [hR] at f3 f4 f5
  dsimp only at f3 f4 f5
  obtain ⟨m1, hm1⟩ : ∃ m1, H.sent.length = m1 := ⟨_, rfl⟩
  obtain ⟨m2, hm2⟩ : ∃ m2, H.asked.length = m2 := ⟨_, rfl⟩
  obtain ⟨nR, hnR⟩ : ∃ nR, rows.length = nR := ⟨_, rfl⟩
  rw [hm1] at f3
  rw [hm2] at f4
  rw [hnR] at f5
  have CU := Lib.hid (fun (w : World) (hS : RdRows w S h.sent) (hA : RdRows w A h.asked) => CU0 w H m1 m2 rows nR err hS hA hR hm1 hm2 hnR)
  have HC := Lib.hid (fun (W : World) (S' A' : Option Addr) (c' d' p1 p2 : Nat) (hS : RdRows W S' h.sent) (hA : RdRows W A' h.asked) (hp1 : W.cell? ⟨p1, 0, none⟩ = some (.int .i64 st)) (hp2 : W.cell? ⟨p2, 0, none⟩ = some (.bool heard)) => steps1_any h st heard S' n1 c' A' n2 d' p1 p2 W hS hA hn1 hn2 f1 f2 hp1 hp2 H m1 m2 rows nR err hR hm1 hm2 hnR)
  have HS := Lib.hid hS
  have HA := Lib.hid hA
  have N1 := Lib.hid hn1
  have N2 := Lib.hid hn2
  have M1 := Lib.hid hm1
  have M2 := Lib.hid hm2
  have NR := Lib.hid hnR
  have F1 := Lib.hid f1
  have F2 := Lib.hid f2
  have F3 := Lib.hid f3
  have F4 := Lib.hid f4
  have F5 := Lib.hid f5
  clear CU0 hR hS hA hn1 hn2 hm1 hm2 hnR f1 f2 f3 f4 f5
  unfold hvn at CU ⊢
  have e1 : (w.alloc (.cells #[.int .i64 h.craft, .int .i64 h.next, .int .i64 h.ahead, .slice S n1 c, .slice A n2 d, .int .i64 h.timer, .int .i64 h.patience, .int .i64 h.tries, .int .i64 h.limit, .int .i64 h.since, .int .i64 h.pause, .int .i64 h.halt] 25)).heap.size = w.heap.size + 1 := by simp
  have e2 : ((w.alloc (.cells #[.int .i64 h.craft, .int .i64 h.next, .int .i64 h.ahead, .slice S n1 c, .slice A n2 d, .int .i64 h.timer, .int .i64 h.patience, .int .i64 h.tries, .int .i64 h.limit, .int .i64 h.since, .int .i64 h.pause, .int .i64 h.halt] 25)).alloc (.cells #[.int .i64 st] 3)).heap.size = w.heap.size + 2 := by simp
  have s0 : (((w.alloc (.cells #[.int .i64 h.craft, .int .i64 h.next, .int .i64 h.ahead, .slice S n1 c, .slice A n2 d, .int .i64 h.timer, .int .i64 h.patience, .int .i64 h.tries, .int .i64 h.limit, .int .i64 h.since, .int .i64 h.pause, .int .i64 h.halt] 25)).alloc (.cells #[.int .i64 st] 3)).alloc (.cells #[.bool heard] 4)).heap.size = w.heap.size + 3 := by simp
  have b3 := ((Blk.new w 25 #[.int .i64 h.craft, .int .i64 h.next, .int .i64 h.ahead, .slice S n1 c, .slice A n2 d, .int .i64 h.timer, .int .i64 h.patience, .int .i64 h.tries, .int .i64 h.limit, .int .i64 h.since, .int .i64 h.pause, .int .i64 h.halt]).alloc (.cells #[.int .i64 st] 3)).alloc (.cells #[.bool heard] 4)
  have b4 := (Blk.new (w.alloc (.cells #[.int .i64 h.craft, .int .i64 h.next, .int .i64 h.ahead, .slice S n1 c, .slice A n2 d, .int .i64 h.timer, .int .i64 h.patience, .int .i64 h.tries, .int .i64 h.limit, .int .i64 h.since, .int .i64 h.pause, .int .i64 h.halt] 25)) 3 #[.int .i64 st]).alloc (.cells #[.bool heard] 4)
  rw [e1] at b4
  have b5 := Blk.new ((w.alloc (.cells #[.int .i64 h.craft, .int .i64 h.next, .int .i64 h.ahead, .slice S n1 c, .slice A n2 d, .int .i64 h.timer, .int .i64 h.patience, .int .i64 h.tries, .int .i64 h.limit, .int .i64 h.since, .int .i64 h.pause, .int .i64 h.halt] 25)).alloc (.cells #[.int .i64 st] 3)) 4 #[.bool heard]
  rw [e2] at b5
  have hB : Below w.heap.size w (((w.alloc (.cells #[.int .i64 h.craft, .int .i64 h.next, .int .i64 h.ahead, .slice S n1 c, .slice A n2 d, .int .i64 h.timer, .int .i64 h.patience, .int .i64 h.tries, .int .i64 h.limit, .int .i64 h.since, .int .i64 h.pause, .int .i64 h.halt] 25)).alloc (.cells #[.int .i64 st] 3)).alloc (.cells #[.bool heard] 4)) := (((Below.refl _ _).alloc (Nat.le_refl _) _).alloc (by simp) _).alloc (by simp; omega) _
  clear e1 e2
  have k4 := b4.cell' (i := 0) rfl
  have k5 := b5.cell' (i := 0) rfl
  go_enter Try.func5, Try.ntmps5
  go_wp2_with (refine wpList_load_row rfl 25 (.tmp 3) rfl (w.heap.size) rfl 25 #[.int .i64 h.craft, .int .i64 h.next, .int .i64 h.ahead, .slice S n1 c, .slice A n2 d, .int .i64 h.timer, .int .i64 h.patience, .int .i64 h.tries, .int .i64 h.limit, .int .i64 h.since, .int .i64 h.pause, .int .i64 h.halt] (0, 0) _ b3 Try.underlying25 rfl handsz ?_)
  clear k4 k5
  generalize (((w.alloc (.cells #[.int .i64 h.craft, .int .i64 h.next, .int .i64 h.ahead, .slice S n1 c, .slice A n2 d, .int .i64 h.timer, .int .i64 h.patience, .int .i64 h.tries, .int .i64 h.limit, .int .i64 h.since, .int .i64 h.pause, .int .i64 h.halt] 25)).alloc (.cells #[.int .i64 st] 3)).alloc (.cells #[.bool heard] 4)) = W0 at *
  refine (CU.out W0 (HS.out.below hB) (HA.out.below hB)).mono ?_
  rintro e w1 ⟨S9, c9, A9, d9, R9, cR9, sl9, al9, rl9, rfl, ⟨h91, h92, h93⟩, hO9s, hO9a, hO9r, dj1, dj2, dj3, hb⟩
  have H91 := Lib.hid h91
  have H92 := Lib.hid h92
  have H93 := Lib.hid h93
  clear CU h91 h92 h93 dj1 dj2 dj3
  have s1 := hb.size
  replace b3 := b3.step hb
  replace b4 := b4.step hb
  replace b5 := b5.step hb
  replace hB := hB.trans (hb.mono hB.size)
  clear hb
  unfold hvn
  have b7 := Blk.new w1 25 #[.int .i64 0, .int .i64 0, .int .i64 0, .slice none 0 0, .slice none 0 0, .int .i64 0, .int .i64 0, .int .i64 0, .int .i64 0, .int .i64 0, .int .i64 0, .int .i64 0]
  have b3' := (b3.alloc (.cells #[.int .i64 0, .int .i64 0, .int .i64 0, .slice none 0 0, .slice none 0 0, .int .i64 0, .int .i64 0, .int .i64 0, .int .i64 0, .int .i64 0, .int .i64 0, .int .i64 0] 25)).farRow (g := w1.heap.size) (by omega) #[.int .i64 H.craft, .int .i64 H.next, .int .i64 H.ahead, .slice S9 m1 c9, .slice A9 m2 d9, .int .i64 H.timer, .int .i64 H.patience, .int .i64 H.tries, .int .i64 H.limit, .int .i64 H.since, .int .i64 H.pause, .int .i64 H.halt]
  have b4' := (b4.alloc (.cells #[.int .i64 0, .int .i64 0, .int .i64 0, .slice none 0 0, .slice none 0 0, .int .i64 0, .int .i64 0, .int .i64 0, .int .i64 0, .int .i64 0, .int .i64 0, .int .i64 0] 25)).farRow (g := w1.heap.size) (by omega) #[.int .i64 H.craft, .int .i64 H.next, .int .i64 H.ahead, .slice S9 m1 c9, .slice A9 m2 d9, .int .i64 H.timer, .int .i64 H.patience, .int .i64 H.tries, .int .i64 H.limit, .int .i64 H.since, .int .i64 H.pause, .int .i64 H.halt]
  have b5' := (b5.alloc (.cells #[.int .i64 0, .int .i64 0, .int .i64 0, .slice none 0 0, .slice none 0 0, .int .i64 0, .int .i64 0, .int .i64 0, .int .i64 0, .int .i64 0, .int .i64 0, .int .i64 0] 25)).farRow (g := w1.heap.size) (by omega) #[.int .i64 H.craft, .int .i64 H.next, .int .i64 H.ahead, .slice S9 m1 c9, .slice A9 m2 d9, .int .i64 H.timer, .int .i64 H.patience, .int .i64 H.tries, .int .i64 H.limit, .int .i64 H.since, .int .i64 H.pause, .int .i64 H.halt]
  have hO9s' := hO9s.allocRow (.cells #[.int .i64 0, .int .i64 0, .int .i64 0, .slice none 0 0, .slice none 0 0, .int .i64 0, .int .i64 0, .int .i64 0, .int .i64 0, .int .i64 0, .int .i64 0, .int .i64 0] 25) #[.int .i64 H.craft, .int .i64 H.next, .int .i64 H.ahead, .slice S9 m1 c9, .slice A9 m2 d9, .int .i64 H.timer, .int .i64 H.patience, .int .i64 H.tries, .int .i64 H.limit, .int .i64 H.since, .int .i64 H.pause, .int .i64 H.halt]
  have hO9a' := hO9a.allocRow (.cells #[.int .i64 0, .int .i64 0, .int .i64 0, .slice none 0 0, .slice none 0 0, .int .i64 0, .int .i64 0, .int .i64 0, .int .i64 0, .int .i64 0, .int .i64 0, .int .i64 0] 25) #[.int .i64 H.craft, .int .i64 H.next, .int .i64 H.ahead, .slice S9 m1 c9, .slice A9 m2 d9, .int .i64 H.timer, .int .i64 H.patience, .int .i64 H.tries, .int .i64 H.limit, .int .i64 H.since, .int .i64 H.pause, .int .i64 H.halt]
  have hO9r' := hO9r.allocRow (.cells #[.int .i64 0, .int .i64 0, .int .i64 0, .slice none 0 0, .slice none 0 0, .int .i64 0, .int .i64 0, .int .i64 0, .int .i64 0, .int .i64 0, .int .i64 0, .int .i64 0] 25) #[.int .i64 H.craft, .int .i64 H.next, .int .i64 H.ahead, .slice S9 m1 c9, .slice A9 m2 d9, .int .i64 H.timer, .int .i64 H.patience, .int .i64 H.tries, .int .i64 H.limit, .int .i64 H.since, .int .i64 H.pause, .int .i64 H.halt]
  have hB' := below_allocRow hB hB.size (.cells #[.int .i64 0, .int .i64 0, .int .i64 0, .slice none 0 0, .slice none 0 0, .int .i64 0, .int .i64 0, .int .i64 0, .int .i64 0, .int .i64 0, .int .i64 0, .int .i64 0] 25) #[.int .i64 H.craft, .int .i64 H.next, .int .i64 H.ahead, .slice S9 m1 c9, .slice A9 m2 d9, .int .i64 H.timer, .int .i64 H.patience, .int .i64 H.tries, .int .i64 H.limit, .int .i64 H.since, .int .i64 H.pause, .int .i64 H.halt]
  have b7' := b7.row #[.int .i64 H.craft, .int .i64 H.next, .int .i64 H.ahead, .slice S9 m1 c9, .slice A9 m2 d9, .int .i64 H.timer, .int .i64 H.patience, .int .i64 H.tries, .int .i64 H.limit, .int .i64 H.since, .int .i64 H.pause, .int .i64 H.halt]
  go_upto_region 2 with (refine wpList_store_row rfl 25 (.tmp 7) (.tmp 16) rfl (w1.heap.size) #[.int .i64 H.craft, .int .i64 H.next, .int .i64 H.ahead, .slice S9 m1 c9, .slice A9 m2 d9, .int .i64 H.timer, .int .i64 H.patience, .int .i64 H.tries, .int .i64 H.limit, .int .i64 H.since, .int .i64 H.pause, .int .i64 H.halt] rfl rfl 25 _ b7 handsz rfl (hand_one H S9 m1 c9 A9 m2 d9) ?_)
  obtain ⟨q, hq⟩ : ∃ q, q = w1.heap.size := ⟨_, rfl⟩
  rw [← hq] at b7' b3' b4' b5' hO9s' hO9a' hO9r' hB' ⊢
  clear b7 b3 b4 b5 hO9s hO9a hO9r hB hq
  generalize (w1.alloc (.cells #[.int .i64 0, .int .i64 0, .int .i64 0, .slice none 0 0, .slice none 0 0, .int .i64 0, .int .i64 0, .int .i64 0, .int .i64 0, .int .i64 0, .int .i64 0, .int .i64 0] 25)).setRow q #[.int .i64 H.craft, .int .i64 H.next, .int .i64 H.ahead, .slice S9 m1 c9, .slice A9 m2 d9, .int .i64 H.timer, .int .i64 H.patience, .int .i64 H.tries, .int .i64 H.limit, .int .i64 H.since, .int .i64 H.pause, .int .i64 H.halt] = W2 at *
  go_wp2_with (first
    | (refine wpList_load_row rfl 25 (.tmp 3) rfl (w.heap.size) rfl 25 #[.int .i64 h.craft, .int .i64 h.next, .int .i64 h.ahead, .slice S n1 c, .slice A n2 d, .int .i64 h.timer, .int .i64 h.patience, .int .i64 h.tries, .int .i64 h.limit, .int .i64 h.since, .int .i64 h.pause, .int .i64 h.halt] (0, 0) _ b3' Try.underlying25 rfl handsz ?_)
    | (refine wpList_load_row rfl 25 (.tmp 7) rfl (q) rfl 25 #[.int .i64 H.craft, .int .i64 H.next, .int .i64 H.ahead, .slice S9 m1 c9, .slice A9 m2 d9, .int .i64 H.timer, .int .i64 H.patience, .int .i64 H.tries, .int .i64 H.limit, .int .i64 H.since, .int .i64 H.pause, .int .i64 H.halt] (0, 0) _ b7' Try.underlying25 rfl handsz ?_))
  have k4 := b4'.cell' (i := 0) rfl
  have k5 := b5'.cell' (i := 0) rfl
  have l4 := b4'.lt
  have l5 := b5'.lt
  refine (handAs_Step _ _ h H rows err S A S9 A9 R9 n1 n2 c d m1 m2 c9 d9 nR cR9 W2 (HS.out.below hB') (HA.out.below hB') N1.out N2.out F1.out F2.out (by rw [← H91.out]; exact hO9s'.rd) (by rw [← H92.out]; exact hO9a'.rd) M1.out M2.out F3.out F4.out (by rw [← H93.out]; exact hO9r'.rd) NR.out F5.out (fun W S' A' c' d' hb' hS' hA' => HC.out W S' A' c' d' _ _ hS' hA' ((hb'.cell (p := ⟨_, 0, none⟩) l4).trans k4) ((hb'.cell (p := ⟨_, 0, none⟩) l5).trans k5))).mono ?_
  rintro e w3 ⟨rfl, hb3⟩
  go_wp2_with fail
  go_ret
  exact ⟨rfl, hB'.trans (hb3.mono hB'.size)⟩
end Go.Proofs.Ytppmdamcdhmcpaa
namespace Go.Proofs.Ytppmdamcdhmcpaa
set_option linter.unusedSimpArgs false
set_option linter.unusedVariables false
open Go.RowKit

set_option maxHeartbeats 3200000 in
set_option maxRecDepth 100000 in
theorem up_any (h : Hnd) (S A X : Option Addr) (n1 c n2 d nl xc nb : Nat) (s : Int) (l : List UInt8) (W : World) (hX : Rd W X (bvs l)) (hnl : l.length = nl) (h0 : -256 ≤ s) (h1 : s ≤ 1000) (hnb : (upB h.craft s l).length = nb) :
    Calls Try.prog 32 #[hvn h S n1 c A n2 d, .int .i64 s, .slice X nl xc] W fun e w' => ∃ B c', e = .returned (.slice B nb c') ∧ Own w' W.heap.size 5 1 B nb c' (bvs (upB h.craft s l)) ∧ Below W.heap.size W w' := by
  have b3 := Blk.new W 25 #[.int .i64 h.craft, .int .i64 h.next, .int .i64 h.ahead, .slice S n1 c, .slice A n2 d, .int .i64 h.timer, .int .i64 h.patience, .int .i64 h.tries, .int .i64 h.limit, .int .i64 h.since, .int .i64 h.pause, .int .i64 h.halt]
  have k0 := b3.cell' (i := 0) rfl
  have hB : Below W.heap.size W (W.alloc (.cells #[.int .i64 h.craft, .int .i64 h.next, .int .i64 h.ahead, .slice S n1 c, .slice A n2 d, .int .i64 h.timer, .int .i64 h.patience, .int .i64 h.tries, .int .i64 h.limit, .int .i64 h.since, .int .i64 h.pause, .int .i64 h.halt] 25)) := (Below.refl _ _).alloc (Nat.le_refl _) _
  have CE := orderBytes_any ⟨h.craft, false, false, s % 256, l⟩ X xc _ (hX.below hB)
  unfold ordv BytesRes at CE
  dsimp only at CE
  rw [hnl] at CE
  have hu : (ordEnc ⟨h.craft, false, false, s % 256, l⟩).1 = upB h.craft s l := rfl
  rw [hu, hnb] at CE
  have HCE := Lib.hid CE
  clear CE hX hnl hnb hu
  have w1 : IntKind.i64.wrap (s + 256) = s + 256 := IntWalk.i64_in _ (by omega)
  have w2 : Int.tmod (s + 256) 256 = s % 256 := by rw [Int.tmod_eq_emod_of_nonneg (by omega)]; omega
  have w3 : IntKind.i64.wrap (s % 256) = s % 256 := IntWalk.i64_in _ (by omega)
  unfold hvn
  go_enter Try.func32, Try.ntmps32
  go_wp2_with fail
  refine HCE.out.mono ?_
  rintro e w5 ⟨Ab, cb, rfl, hOb, hb⟩
  clear HCE k0
  go_wp2_with fail
  go_ret
  exact ⟨Ab, cb, rfl, hOb.mono hB.size, hB.trans (hb.mono hB.size)⟩
end Go.Proofs.Ytppmdamcdhmcpaa
