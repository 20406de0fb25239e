/-
  The document's StepOf.
-/
import Derived.Test.YtppmdamcdhmcpaaMCommandSteps29
import Derived.Test.YtppmdamcdhmcpaaMCommandSteps19
import Derived.Test.YtppmdamcdhmcpaaMCommandSteps25
import Derived.Test.YtppmdamcdhmcpaaMCommandSteps14
import Derived.Deep.DeepCutAuto
import Derived.Test.YtppmdamcdhmcpaaMCommandSteps30
namespace Go.Proofs.Ytppmdamcdhmcpaa
set_option linter.unusedSimpArgs false
set_option linter.unusedVariables false
open Go.RowKit

set_option maxHeartbeats 12800000 in
set_option maxRecDepth 100000 in
theorem rstep_any (h : Hnd) (st : Int) (heard : Bool) (S : Option Addr) (n1 c : Nat) (A : Option Addr) (n2 d : Nat) (w : World) (hS : RdRows w S h.sent) (hA : RdRows w A h.asked) (hn1 : h.sent.length = n1) (hn2 : h.asked.length = n2) (f1 : RowsFit h.sent n1) (f2 : RowsFit h.asked n2)
    (H : Hnd) (m1 m2 : Nat) (rows : List (List UInt8)) (nR : Nat) (err : Int) (hR : stepR h st heard = (H, rows, err)) (hm1 : H.sent.length = m1) (hm2 : H.asked.length = m2) (hnR : rows.length = nR) :
    Calls Try.prog 17 #[hvn h S n1 c A n2 d, .int .i64 st, .bool heard] w fun e w' => HandOut w w' H m1 m2 rows nR err e := by
  have CM := Lib.hid (fun w (hS : RdRows w S h.sent) (hA : RdRows w A h.asked) => rhandMay_any h S c A d w hS hA (by rw [hn1]; exact f1.1) (by rw [hn2]; exact f2.1) f1.2 f2.2)
  rw [← hvn_hdv, hn1, hn2] at CM
  have HS := Lib.hid hS
  have HA := Lib.hid hA
  have N1 := Lib.hid hn1
  have N2 := Lib.hid hn2
  have M1 := Lib.hid hm1
  have M2 := Lib.hid hm2
  have NR := Lib.hid hnR
  have F1 := Lib.hid f1
  have F2 := Lib.hid f2
  have HR := Lib.hid hR
  clear hS hA hn1 hn2 hm1 hm2 hnR f1 f2 hR
  unfold hvn at CM ⊢
  have b1 := (Blk.new w 25 #[.int .i64 h.craft, .int .i64 h.next, .int .i64 h.ahead, .slice S n1 c, .slice A n2 d, .int .i64 h.timer, .int .i64 h.patience, .int .i64 h.tries, .int .i64 h.limit, .int .i64 h.since, .int .i64 h.pause, .int .i64 h.halt]).alloc (.cells #[.int .i64 0, .int .i64 0, .int .i64 0, .slice none 0 0, .slice none 0 0, .int .i64 0, .int .i64 0, .int .i64 0, .int .i64 0, .int .i64 0, .int .i64 0, .int .i64 0] 25)
  have b2 := Blk.new (w.alloc (.cells #[.int .i64 h.craft, .int .i64 h.next, .int .i64 h.ahead, .slice S n1 c, .slice A n2 d, .int .i64 h.timer, .int .i64 h.patience, .int .i64 h.tries, .int .i64 h.limit, .int .i64 h.since, .int .i64 h.pause, .int .i64 h.halt] 25)) 25 #[.int .i64 0, .int .i64 0, .int .i64 0, .slice none 0 0, .slice none 0 0, .int .i64 0, .int .i64 0, .int .i64 0, .int .i64 0, .int .i64 0, .int .i64 0, .int .i64 0]
  rw [show (w.alloc (.cells #[.int .i64 h.craft, .int .i64 h.next, .int .i64 h.ahead, .slice S n1 c, .slice A n2 d, .int .i64 h.timer, .int .i64 h.patience, .int .i64 h.tries, .int .i64 h.limit, .int .i64 h.since, .int .i64 h.pause, .int .i64 h.halt] 25)).heap.size = w.heap.size + 1 by simp] at b2
  have hB : Below w.heap.size w ((w.alloc (.cells #[.int .i64 h.craft, .int .i64 h.next, .int .i64 h.ahead, .slice S n1 c, .slice A n2 d, .int .i64 h.timer, .int .i64 h.patience, .int .i64 h.tries, .int .i64 h.limit, .int .i64 h.since, .int .i64 h.pause, .int .i64 h.halt] 25)).alloc (.cells #[.int .i64 0, .int .i64 0, .int .i64 0, .slice none 0 0, .slice none 0 0, .int .i64 0, .int .i64 0, .int .i64 0, .int .i64 0, .int .i64 0, .int .i64 0, .int .i64 0] 25)) := ((Below.refl _ _).alloc (Nat.le_refl _) _).alloc (by simp) _
  have s0 : ((w.alloc (.cells #[.int .i64 h.craft, .int .i64 h.next, .int .i64 h.ahead, .slice S n1 c, .slice A n2 d, .int .i64 h.timer, .int .i64 h.patience, .int .i64 h.tries, .int .i64 h.limit, .int .i64 h.since, .int .i64 h.pause, .int .i64 h.halt] 25)).alloc (.cells #[.int .i64 0, .int .i64 0, .int .i64 0, .slice none 0 0, .slice none 0 0, .int .i64 0, .int .i64 0, .int .i64 0, .int .i64 0, .int .i64 0, .int .i64 0, .int .i64 0] 25)).heap.size = w.heap.size + 2 := by simp
  by_cases hok : handOk h
  · have HR1 : Hid (stepS h st heard = (H, rows, err)) := Lib.hid (by have := HR.out; unfold stepR at this; rw [if_pos hok] at this; exact this)
    have t := tick_of hok
    rw [show handB h = true from decide_eq_true hok] at CM
    clear HR hok
    go_enter Try.func17, Try.ntmps17
    go_wp2_with (refine wpList_load_row rfl 25 (.tmp 3) rfl (w.heap.size) rfl 25 #[.int .i64 h.craft, .int .i64 h.next, .int .i64 h.ahead, .slice S n1 c, .slice A n2 d, .int .i64 h.timer, .int .i64 h.patience, .int .i64 h.tries, .int .i64 h.limit, .int .i64 h.since, .int .i64 h.pause, .int .i64 h.halt] (0, 0) _ b1 Try.underlying25 rfl handsz ?_)
    generalize ((w.alloc (.cells #[.int .i64 h.craft, .int .i64 h.next, .int .i64 h.ahead, .slice S n1 c, .slice A n2 d, .int .i64 h.timer, .int .i64 h.patience, .int .i64 h.tries, .int .i64 h.limit, .int .i64 h.since, .int .i64 h.pause, .int .i64 h.halt] 25)).alloc (.cells #[.int .i64 0, .int .i64 0, .int .i64 0, .slice none 0 0, .slice none 0 0, .int .i64 0, .int .i64 0, .int .i64 0, .int .i64 0, .int .i64 0, .int .i64 0, .int .i64 0] 25)) = W0 at *
    refine (CM.out W0 (HS.out.below hB) (HA.out.below hB)).mono ?_
    rintro e w1 ⟨rfl, hb⟩
    clear CM
    have s1 := hb.size
    replace b1 := b1.step hb
    replace b2 := b2.step hb
    replace hB := hB.trans (hb.mono hB.size)
    clear hb
    go_wp2_with (refine wpList_load_row rfl 25 (.tmp 3) rfl (w.heap.size) rfl 25 #[.int .i64 h.craft, .int .i64 h.next, .int .i64 h.ahead, .slice S n1 c, .slice A n2 d, .int .i64 h.timer, .int .i64 h.patience, .int .i64 h.tries, .int .i64 h.limit, .int .i64 h.since, .int .i64 h.pause, .int .i64 h.halt] (0, 0) _ b1 Try.underlying25 rfl handsz ?_)
    refine (rhandOf_any h S n1 c A n2 d w1 N1.out N2.out (HS.out.below hB) (HA.out.below hB) F1.out.1 F2.out.1 F1.out.2 F2.out.2).mono ?_
    rintro e w2 ⟨Sk, ck, Ak, dk, sl, al, rfl, hsl, hal, hOs, hOa, dd, hb⟩
    have s2 := hb.size
    replace b1 := b1.step hb
    replace b2 := b2.step hb
    replace hB := hB.trans (hb.mono hB.size)
    clear hb
    unfold hvn
    have hcap := hOs.arr.le
    have i2 : StepInv w w1.heap.size h Sk Ak n1 ck n2 dk sl al (w2.setRow w.heap.size #[.int .i64 h.craft, .int .i64 h.next, .int .i64 h.ahead, .slice Sk n1 ck, .slice Ak n2 dk, .int .i64 h.timer, .int .i64 h.patience, .int .i64 h.tries, .int .i64 h.limit, .int .i64 h.since, .int .i64 h.pause, .int .i64 h.halt]) := ⟨Lib.hid hsl, Lib.hid hal, b1.row #[.int .i64 h.craft, .int .i64 h.next, .int .i64 h.ahead, .slice Sk n1 ck, .slice Ak n2 dk, .int .i64 h.timer, .int .i64 h.patience, .int .i64 h.tries, .int .i64 h.limit, .int .i64 h.since, .int .i64 h.pause, .int .i64 h.halt], b2.farRow (g := w.heap.size) (by omega) #[.int .i64 h.craft, .int .i64 h.next, .int .i64 h.ahead, .slice Sk n1 ck, .slice Ak n2 dk, .int .i64 h.timer, .int .i64 h.patience, .int .i64 h.tries, .int .i64 h.limit, .int .i64 h.since, .int .i64 h.pause, .int .i64 h.halt], hOs.lowRow (g := w.heap.size) (by omega) #[.int .i64 h.craft, .int .i64 h.next, .int .i64 h.ahead, .slice Sk n1 ck, .slice Ak n2 dk, .int .i64 h.timer, .int .i64 h.patience, .int .i64 h.tries, .int .i64 h.limit, .int .i64 h.since, .int .i64 h.pause, .int .i64 h.halt], hOa.lowRow (g := w.heap.size) (by omega) #[.int .i64 h.craft, .int .i64 h.next, .int .i64 h.ahead, .slice Sk n1 ck, .slice Ak n2 dk, .int .i64 h.timer, .int .i64 h.patience, .int .i64 h.tries, .int .i64 h.limit, .int .i64 h.since, .int .i64 h.pause, .int .i64 h.halt], dd, below_row hB (g := w.heap.size) (Nat.le_refl _) #[.int .i64 h.craft, .int .i64 h.next, .int .i64 h.ahead, .slice Sk n1 ck, .slice Ak n2 dk, .int .i64 h.timer, .int .i64 h.patience, .int .i64 h.tries, .int .i64 h.limit, .int .i64 h.since, .int .i64 h.pause, .int .i64 h.halt], by omega, by rw [setRow_size]; exact s2⟩
    go_upto_region 4 with (refine wpList_store_row rfl 25 (.tmp 3) (.tmp 21) rfl (w.heap.size) #[.int .i64 h.craft, .int .i64 h.next, .int .i64 h.ahead, .slice Sk n1 ck, .slice Ak n2 dk, .int .i64 h.timer, .int .i64 h.patience, .int .i64 h.tries, .int .i64 h.limit, .int .i64 h.since, .int .i64 h.pause, .int .i64 h.halt] rfl rfl 25 _ b1 handsz rfl (hand_one h Sk n1 ck Ak n2 dk) ?_)
    generalize w2.setRow w.heap.size #[.int .i64 h.craft, .int .i64 h.next, .int .i64 h.ahead, .slice Sk n1 ck, .slice Ak n2 dk, .int .i64 h.timer, .int .i64 h.patience, .int .i64 h.tries, .int .i64 h.limit, .int .i64 h.since, .int .i64 h.pause, .int .i64 h.halt] = W2 at *
    obtain ⟨base, hbs⟩ : ∃ b, w1.heap.size = b := ⟨_, rfl⟩
    rw [hbs] at i2
    clear b1 b2 hOs hOa hB hsl hal dd s0 s1 s2 hbs
    have k11 := i2.2.2.1.cell' (i := 11) rfl
    by_cases hh : h.halt = 0
    · have HR2 : Hid ((if heard = true ∧ (readOf st).2 = 0 then
    (if (hearH (sinceH h) (readOf st).1).2 = true then goH (hearH (sinceH h) (readOf st).1).1 (wishH (hearH (sinceH h) (readOf st).1).1 (readOf st).1) (readOf st).1.wait else ((hearH (sinceH h) (readOf st).1).1, [], 0))
  else goH (sinceH h) false false) = (H, rows, err)) := Lib.hid (by have := HR1.out; unfold stepS at this; rw [if_neg (by simpa using hh)] at this; exact this)
      have e0 : (h.halt == 0) = true := by rw [beq_iff_eq]; exact hh
      have e0' : (h.halt != 0) = false := by rw [bne_eq_false_iff_eq]; exact hh
      have t0 := tick_since t
      clear HR1 hh
      go_upto_region 6 with fail
      clear k11 e0 e0'
      obtain ⟨h1, hh1⟩ : ∃ x, sinceH h = x := ⟨_, rfl⟩
      have k9 := i2.2.2.1.cell' (i := 9) rfl
      have k10 := i2.2.2.1.cell' (i := 10) rfl
      have kf := i2.2.2.1.frozen
      obtain ⟨_, _, _, _, _, _, _, _, _, _, _, hsc, hsp⟩ := t
      go_upto_if 30 with fail
      go_cut [31] (fun _ wx => ∃ W : World, W = wx ∧ StepInv w base h1 Sk Ak n1 ck n2 dk sl al W)
      case first =>
        as_aux_lemma =>
          by_cases hsp2 : h.since < h.pause
          · have w9 : IntKind.i64.wrap (h.since + 1) = h.since + 1 := IntWalk.i64_in _ (by omega)
            go_wp2_with fail
            go_meet
            refine ⟨_, rfl, i2.put 9 _ (by rw [← hh1]; rfl) (by rw [← hh1]; rfl) ?_⟩
            rw [← hh1]
            unfold sinceH
            rw [if_pos hsp2]
            rfl
          · go_wp2_with fail
            go_meet
            refine ⟨_, rfl, ?_⟩
            have : h1 = h := by rw [← hh1]; unfold sinceH; rw [if_neg (by omega)]
            rw [this]
            exact i2
      obtain ⟨W3, rfl, i3⟩ := hcut
      clear i2 k9 k10 kf
      rw [hh1] at HR2 t0
      clear hh1 hsc hsp
      have hCR := Lib.hid (statusOf_any st W3)
      obtain ⟨G, hG⟩ : ∃ G, (readOf st).1 = G := ⟨_, rfl⟩
      obtain ⟨E, hE⟩ : ∃ E, (readOf st).2 = E := ⟨_, rfl⟩
      have hnx : 0 ≤ G.next ∧ G.next ≤ 255 := by
        rw [← hG]; unfold readOf
        split
        · split
          · exact ⟨by show (0 : Int) ≤ ((st.toNat % 256 : Nat) : Int); omega, by show ((st.toNat % 256 : Nat) : Int) ≤ 255; omega⟩
          · exact ⟨by decide, by decide⟩
        · exact ⟨by decide, by decide⟩
      rw [hG, hE] at HR2 hCR
      unfold gtv at hCR
      clear hG hE
      obtain ⟨gc, gn, gh, gs, gw, ga, gq⟩ := G
      dsimp only at hCR hnx
      go_wp2_with fail
      refine hCR.out.mono ?_
      rintro e w4 ⟨rfl, hb⟩
      clear hCR
      have zz := hb.size
      have i4 := i3.step (V := w4.alloc (.cells #[.int .i64 gc, .int .i64 gn, .int .i64 gh, .bool gs, .bool gw, .bool ga, .int .i64 gq] 56)) (hb.alloc zz _)
      have g5 := Blk.new w4 56 #[.int .i64 gc, .int .i64 gn, .int .i64 gh, .bool gs, .bool gw, .bool ga, .int .i64 gq]
      have hq0 : w.heap.size + 1 < w4.heap.size := by have := i3.2.2.2.1.lt; omega
      obtain ⟨q5, hq5⟩ : ∃ q, q = w4.heap.size := ⟨_, rfl⟩
      go_upto_region 10 with fail
      rw [← hq5] at g5 hq0 ⊢
      clear hq5 i3 hb zz
      generalize w4.alloc (.cells #[.int .i64 gc, .int .i64 gn, .int .i64 gh, .bool gs, .bool gw, .bool ga, .int .i64 gq] 56) = W4 at *
      obtain ⟨br, hbrr⟩ : ∃ br : Bool, br = (heard && E == 0) := ⟨_, rfl⟩
      go_cut [44] (fun s44 wx => s44 = .bool br ∧ W4 = wx)
      case first =>
        as_aux_lemma =>
          cases heard
          · go_wp2_with fail
            go_meet
            exact ⟨by rw [hbrr]; rfl, rfl⟩
          · by_cases hE0 : E = 0
            · have eE : (E == 0) = true := by rw [beq_iff_eq]; exact hE0
              clear hE0
              go_wp2_with fail
              go_meet
              exact ⟨by rw [hbrr, eE]; rfl, rfl⟩
            · have eE : (E == 0) = false := by rw [beq_eq_false_iff_ne]; exact hE0
              clear hE0
              go_wp2_with fail
              go_meet
              exact ⟨by rw [hbrr, eE]; rfl, rfl⟩
      obtain ⟨rfl, rfl⟩ := hcut
      have HBR := Lib.hid hbrr
      clear hbrr
      go_upto_if 44 with fail
      go_cut [9, 10] (fun s9 s10 wx => ∃ (h2 : Hnd) (S3 : Option Addr) (k3n c3 : Nat) (sl3 : List RowR) (wa ag : Bool) (W : World), W = wx ∧ s9 = .bool wa ∧ s10 = .bool ag ∧ Tick h2 ∧ k3n ≤ c3 ∧ StepInv w base h2 S3 Ak k3n c3 n2 dk sl3 al W ∧ Hid (goH h2 ag wa = (H, rows, err)))
      case first =>
        as_aux_lemma =>
          cases br
          · have hbr : ¬ (heard = true ∧ E = 0) := fun hh => by have := HBR.out; rw [hh.1, hh.2] at this; simp at this
            have HR3 := Lib.hid (show _ = (H, rows, err) from (if_neg hbr).symm.trans HR2.out)
            clear hbr HR2 HBR
            go_wp2_with fail
            go_meet
            exact ⟨h1, Sk, n1, ck, sl, false, false, _, rfl, rfl, rfl, t0, hcap, i4, HR3⟩
          · have hbr : heard = true ∧ E = 0 := by have := HBR.out.symm; rw [Bool.and_eq_true, beq_iff_eq] at this; exact this
            have HR3 := Lib.hid (show _ = (H, rows, err) from (if_pos hbr).symm.trans HR2.out)
            clear HR2 HBR hbr
            obtain ⟨k, hk⟩ : ∃ k, thereN h1 gn = k := ⟨_, rfl⟩
            have hl1 : h1.sent.length = n1 := by rw [← i4.1.out, List.length_map]; exact i4.2.2.2.2.1.len
            have hkI : (gn - h1.next + (n1 : Int)) % 256 = (k : Int) := by rw [← hk, ← hl1]; unfold thereN; omega
            have hlen : (n1 : Int) ≤ 127 := by have := t0.1; have := t0.2.1; omega
            have hnx2 := t0.2.2.2.2.2.1
            have hhe : hearH h1 ⟨gc, gn, gh, gs, gw, ga, gq⟩ = if n1 < k then ({ h1 with halt := 11 }, false) else if gs then ({ cutH h1 k with halt := 15 }, false) else (cutH h1 k, true) := by unfold hearH; rw [hk, hl1]
            rw [hhe] at HR3
            have w4' : Int.tmod (gn - (h1.next - (n1 : Int)) + 512) 256 = (k : Int) := by rw [Int.tmod_eq_emod_of_nonneg (by omega), ← hkI]; omega
            obtain ⟨w1', w2', w3'⟩ : IntKind.i64.wrap (h1.next - (n1 : Int)) = h1.next - (n1 : Int) ∧ IntKind.i64.wrap (gn - (h1.next - (n1 : Int))) = gn - (h1.next - (n1 : Int)) ∧ IntKind.i64.wrap (gn - (h1.next - (n1 : Int)) + 512) = gn - (h1.next - (n1 : Int)) + 512 := ⟨IntWalk.i64_in _ (by omega), IntWalk.i64_in _ (by omega), IntWalk.i64_in _ (by omega)⟩
            have x1 := g5.cell' (i := 1) rfl
            have k1 := i4.2.2.1.cell' (i := 1) rfl
            have k3 := i4.2.2.1.cell' (i := 3) rfl
            clear hk hl1 hkI hhe hnx
            go_upto_region 12 with fail
            clear w1' w2' w3' w4' x1 k1
            have kf := i4.2.2.1.frozen
            by_cases hlt : n1 < k
            · have hli : (n1 : Int) < (k : Int) := by omega
              have HR4 := HR3.out
              rw [if_pos hlt] at HR4
              obtain ⟨hH, hro, her⟩ : ({ h1 with halt := 11 } : Hnd) = H ∧ [] = rows ∧ err = 0 := by simpa [eq_comm] using HR4
              subst hro
              subst her
              clear HR3 HR4
              have k11 := i4.2.2.1.cell' (i := 11) rfl
              have i5 : StepInv w base H Sk Ak n1 ck n2 dk sl al (W4.setCell ⟨w.heap.size, 11, none⟩ (.int .i64 11)) := i4.put 11 _ (by rw [← hH]) (by rw [← hH]) (by rw [← hH]; rfl)
              obtain rfl : m1 = n1 := by rw [← M1.out, ← i5.1.out, List.length_map]; exact i5.2.2.2.2.1.len
              obtain rfl : m2 = n2 := by rw [← M2.out, ← i5.2.1.out, List.length_map]; exact i5.2.2.2.2.2.1.len
              obtain rfl : nR = 0 := by rw [← NR.out]; rfl
              clear hH
              go_upto_region 14 with fail
              clear i4 kf k3 k11 g5
              generalize W4.setCell ⟨w.heap.size, 11, none⟩ (.int .i64 11) = W5 at *
              obtain ⟨r1, r2, r3, r4, r5, r6, r7, r8, r9, r10⟩ := i5
              go_wp2_with (first
                | (refine wpList_load_row rfl 25 (.tmp 3) rfl (w.heap.size) rfl 25 #[.int .i64 H.craft, .int .i64 H.next, .int .i64 H.ahead, .slice Sk m1 ck, .slice Ak m2 dk, .int .i64 H.timer, .int .i64 H.patience, .int .i64 H.tries, .int .i64 H.limit, .int .i64 H.since, .int .i64 H.pause, .int .i64 H.halt] (0, 0) _ r3 Try.underlying25 rfl handsz ?_)
                | (refine wpList_store_row rfl 25 (.tmp 6) (.tmp 25) rfl (w.heap.size + 1) #[.int .i64 H.craft, .int .i64 H.next, .int .i64 H.ahead, .slice Sk m1 ck, .slice Ak m2 dk, .int .i64 H.timer, .int .i64 H.patience, .int .i64 H.tries, .int .i64 H.limit, .int .i64 H.since, .int .i64 H.pause, .int .i64 H.halt] rfl rfl 25 _ r4 handsz rfl (hand_one H Sk m1 ck Ak m2 dk) ?_)
                | (refine wpList_store_row rfl 25 (.tmp 6) (.tmp 62) rfl (w.heap.size + 1) #[.int .i64 H.craft, .int .i64 H.next, .int .i64 H.ahead, .slice Sk m1 ck, .slice Ak m2 dk, .int .i64 H.timer, .int .i64 H.patience, .int .i64 H.tries, .int .i64 H.limit, .int .i64 H.since, .int .i64 H.pause, .int .i64 H.halt] rfl rfl 25 _ r4 handsz rfl (hand_one H Sk m1 ck Ak m2 dk) ?_)
                | (refine wpList_store_row rfl 25 (.tmp 6) (.tmp 75) rfl (w.heap.size + 1) #[.int .i64 H.craft, .int .i64 H.next, .int .i64 H.ahead, .slice Sk m1 ck, .slice Ak m2 dk, .int .i64 H.timer, .int .i64 H.patience, .int .i64 H.tries, .int .i64 H.limit, .int .i64 H.since, .int .i64 H.pause, .int .i64 H.halt] rfl rfl 25 _ r4 handsz rfl (hand_one H Sk m1 ck Ak m2 dk) ?_)
                | (refine wpList_store_row rfl 25 (.tmp 6) (.tmp 114) rfl (w.heap.size + 1) #[.int .i64 H.craft, .int .i64 H.next, .int .i64 H.ahead, .slice Sk m1 ck, .slice Ak m2 dk, .int .i64 H.timer, .int .i64 H.patience, .int .i64 H.tries, .int .i64 H.limit, .int .i64 H.since, .int .i64 H.pause, .int .i64 H.halt] rfl rfl 25 _ r4 handsz rfl (hand_one H Sk m1 ck Ak m2 dk) ?_))
              have r4' := r4.row #[.int .i64 H.craft, .int .i64 H.next, .int .i64 H.ahead, .slice Sk m1 ck, .slice Ak m2 dk, .int .i64 H.timer, .int .i64 H.patience, .int .i64 H.tries, .int .i64 H.limit, .int .i64 H.since, .int .i64 H.pause, .int .i64 H.halt]
              refine bodyPost_ret (v := .tuple #[.agg #[.int .i64 H.craft, .int .i64 H.next, .int .i64 H.ahead, .slice Sk m1 ck, .slice Ak m2 dk, .int .i64 H.timer, .int .i64 H.patience, .int .i64 H.tries, .int .i64 H.limit, .int .i64 H.since, .int .i64 H.pause, .int .i64 H.halt], .slice none 0 0, .int .i64 0]) (results_cell_slot2 (ty := 25) Try.results17 _ _ (w.heap.size + 1) 25 _ (0, 0) _ rfl rfl rfl r4' Try.underlying25 rfl handsz) rfl ?_
              exact ⟨Sk, ck, Ak, dk, none, 0, sl, al, [], rfl, ⟨r1.out, r2.out, rfl⟩, (r5.lowRow (by omega) _).mono (by omega), (r6.lowRow (by omega) _).mono (by omega), OwnRs.nil _ _, r7, Disj.nil _ _, Disj.nil _ _, below_row r8 (by omega) _⟩
            · have hli : ¬ (n1 : Int) < (k : Int) := by omega
              have hle : (k : Int) ≤ (n1 : Int) := by omega
              have hcI : (n1 : Int) ≤ (ck : Int) := by omega
              have HR4' := HR3.out
              rw [if_neg hlt] at HR4'
              have HR4 := Lib.hid HR4'
              clear HR4'
              clear HR3
              obtain ⟨j1, j2, j3, j4, j5, j6, j7, j8, j9, j10⟩ := i4
              have i5 : StepInv w base { h1 with sent := h1.sent.drop k } (if ck = k then Sk else Option.map (fun x => x.add k) Sk) Ak (n1 - k) (ck - k) n2 dk (sl.drop k) al (W4.setCell ⟨w.heap.size, 3, none⟩ (.slice (if ck = k then Sk else Option.map (fun x => x.add k) Sk) (n1 - k) (ck - k))) :=
                ⟨Lib.hid (by rw [List.map_drop, j1.out]), Lib.hid j2.out, j3.set_ 3 _, j4.far (p := ⟨w.heap.size, 3, none⟩) (by show w.heap.size + 1 ≠ w.heap.size; omega) _, (j5.low (p := ⟨w.heap.size, 3, none⟩) (by show w.heap.size < base; omega) _).drop (by omega), j6.low (p := ⟨w.heap.size, 3, none⟩) (by show w.heap.size < base; omega) _, fun q h1 h2 => j7 q (touch_drop h1) h2, j8.setCell (p := ⟨w.heap.size, 3, none⟩) (Nat.le_refl _) _, j9, by simpa using j10⟩
              have g6 := g5.far (p := ⟨w.heap.size, 3, none⟩) (by show q5 ≠ w.heap.size; omega) (.slice (if ck = k then Sk else Option.map (fun x => x.add k) Sk) (n1 - k) (ck - k))
              go_upto_region 16 with fail
              clear j1 j2 j3 j4 j5 j6 j7 j8 g5 k3 kf hli hle hcI hcap
              generalize W4.setCell ⟨w.heap.size, 3, none⟩ (.slice (if ck = k then Sk else Option.map (fun x => x.add k) Sk) (n1 - k) (ck - k)) = W5 at *
              generalize (if ck = k then Sk else Option.map (fun x => x.add k) Sk) = S4 at *
              have tc := tick_cut t0 k
              have ncap : n1 - k ≤ ck - k := i5.2.2.2.2.1.arr.le
              generalize sl.drop k = sl4 at *
              by_cases hk0 : 0 < k
              · have hki : (0 : Int) < (k : Int) := by omega
                have eS : cutH h1 k = { h1 with sent := h1.sent.drop k, timer := 0, tries := 0 } := by unfold cutH; rw [if_pos hk0, if_pos hk0]
                have i6 := (i5.put (h' := { h1 with sent := h1.sent.drop k, timer := 0 }) 5 (.int .i64 0) rfl rfl rfl).put (h' := cutH h1 k) 7 (.int .i64 0) (by rw [eS]) (by rw [eS]) (by rw [eS]; rfl)
                have g7 := (g6.far (p := ⟨w.heap.size, 5, none⟩) (by show q5 ≠ w.heap.size; omega) (.int .i64 0)).far (p := ⟨w.heap.size, 7, none⟩) (by show q5 ≠ w.heap.size; omega) (.int .i64 0)
                have k5 := i5.2.2.1.cell' (i := 5) rfl
                have kf := i5.2.2.1.frozen
                have pm := i5.2.2.1.set_ 5 (.int .i64 0)
                have k7 := pm.cell' (i := 7) rfl
                have kf' := pm.frozen
                go_upto_region 19 with fail
                clear k5 kf pm k7 kf' i5 g6 eS
                generalize (W5.setCell ⟨w.heap.size, 5, none⟩ (.int .i64 0)).setCell ⟨w.heap.size, 7, none⟩ (.int .i64 0) = W6 at *
                have y3 := g7.cell' (i := 3) rfl
                have y4 := g7.cell' (i := 4) rfl
                have y5 := g7.cell' (i := 5) rfl
                obtain ⟨hc, hhc⟩ : ∃ x, cutH h1 k = x := ⟨_, rfl⟩
                rw [hhc] at i6 tc HR4
                clear hhc
                cases gs
                · have HR5 := Lib.hid (show goH hc (wishH hc ⟨gc, gn, gh, false, gw, ga, gq⟩) gw = (H, rows, err) by simpa using HR4.out)
                  unfold wishH at HR5
                  dsimp only at HR5
                  clear HR4
                  have y9 := i6.2.2.1.cell' (i := 9) rfl
                  have y10 := i6.2.2.1.cell' (i := 10) rfl
                  cases ga
                  · have HR6 := Lib.hid (show goH hc false gw = (H, rows, err) from HR5.out)
                    go_wp2_with fail
                    go_meet
                    exact ⟨hc, S4, n1 - k, ck - k, sl4, gw, false, _, rfl, rfl, rfl, tc, ncap, i6, HR6⟩
                  · cases gw
                    · by_cases hse : hc.since = hc.pause
                      · have esp : (hc.since == hc.pause) = true := by rw [beq_iff_eq]; exact hse
                        have HR6 := Lib.hid (show goH hc true false = (H, rows, err) by have := HR5.out; rw [esp] at this; exact this)
                        clear hse HR5
                        go_wp2_with fail
                        go_meet
                        exact ⟨hc, S4, n1 - k, ck - k, sl4, false, true, _, rfl, rfl, rfl, tc, ncap, i6, HR6⟩
                      · have esp : (hc.since == hc.pause) = false := by rw [beq_eq_false_iff_ne]; exact hse
                        have HR6 := Lib.hid (show goH hc false false = (H, rows, err) by have := HR5.out; rw [esp] at this; exact this)
                        clear hse HR5
                        go_wp2_with fail
                        go_meet
                        exact ⟨hc, S4, n1 - k, ck - k, sl4, false, false, _, rfl, rfl, rfl, tc, ncap, i6, HR6⟩
                    · have HR6 := Lib.hid (show goH hc false true = (H, rows, err) from HR5.out)
                      go_wp2_with fail
                      go_meet
                      exact ⟨hc, S4, n1 - k, ck - k, sl4, true, false, _, rfl, rfl, rfl, tc, ncap, i6, HR6⟩
                · obtain ⟨hH, hro, her⟩ : ({ hc with halt := 15 } : Hnd) = H ∧ [] = rows ∧ err = 0 := by have := HR4.out; simpa [eq_comm] using this
                  subst hro
                  subst her
                  clear HR4
                  have k11 := i6.2.2.1.cell' (i := 11) rfl
                  have kf := i6.2.2.1.frozen
                  have i7 : StepInv w base H S4 Ak (n1 - k) (ck - k) n2 dk sl4 al (W6.setCell ⟨w.heap.size, 11, none⟩ (.int .i64 15)) := i6.put 11 _ (by rw [← hH]) (by rw [← hH]) (by rw [← hH]; rfl)
                  obtain ⟨nn, hnn⟩ : ∃ x, n1 - k = x := ⟨_, rfl⟩
                  rw [hnn] at i7
                  obtain rfl : m1 = nn := by rw [← M1.out, ← i7.1.out, List.length_map]; exact i7.2.2.2.2.1.len
                  obtain rfl : m2 = n2 := by rw [← M2.out, ← i7.2.1.out, List.length_map]; exact i7.2.2.2.2.2.1.len
                  obtain rfl : nR = 0 := by rw [← NR.out]; rfl
                  clear hH hnn
                  go_upto_region 21 with fail
                  clear i6 kf k11 g7
                  generalize W6.setCell ⟨w.heap.size, 11, none⟩ (.int .i64 15) = W7 at *
                  obtain ⟨r1, r2, r3, r4, r5, r6, r7, r8, r9, r10⟩ := i7
                  go_wp2_with (first
                    | (refine wpList_load_row rfl 25 (.tmp 3) rfl (w.heap.size) rfl 25 #[.int .i64 H.craft, .int .i64 H.next, .int .i64 H.ahead, .slice S4 m1 (ck - k), .slice Ak m2 dk, .int .i64 H.timer, .int .i64 H.patience, .int .i64 H.tries, .int .i64 H.limit, .int .i64 H.since, .int .i64 H.pause, .int .i64 H.halt] (0, 0) _ r3 Try.underlying25 rfl handsz ?_)
                    | (refine wpList_store_row rfl 25 (.tmp 6) (.tmp 25) rfl (w.heap.size + 1) #[.int .i64 H.craft, .int .i64 H.next, .int .i64 H.ahead, .slice S4 m1 (ck - k), .slice Ak m2 dk, .int .i64 H.timer, .int .i64 H.patience, .int .i64 H.tries, .int .i64 H.limit, .int .i64 H.since, .int .i64 H.pause, .int .i64 H.halt] rfl rfl 25 _ r4 handsz rfl (hand_one H S4 m1 (ck - k) Ak m2 dk) ?_)
                    | (refine wpList_store_row rfl 25 (.tmp 6) (.tmp 62) rfl (w.heap.size + 1) #[.int .i64 H.craft, .int .i64 H.next, .int .i64 H.ahead, .slice S4 m1 (ck - k), .slice Ak m2 dk, .int .i64 H.timer, .int .i64 H.patience, .int .i64 H.tries, .int .i64 H.limit, .int .i64 H.since, .int .i64 H.pause, .int .i64 H.halt] rfl rfl 25 _ r4 handsz rfl (hand_one H S4 m1 (ck - k) Ak m2 dk) ?_)
                    | (refine wpList_store_row rfl 25 (.tmp 6) (.tmp 75) rfl (w.heap.size + 1) #[.int .i64 H.craft, .int .i64 H.next, .int .i64 H.ahead, .slice S4 m1 (ck - k), .slice Ak m2 dk, .int .i64 H.timer, .int .i64 H.patience, .int .i64 H.tries, .int .i64 H.limit, .int .i64 H.since, .int .i64 H.pause, .int .i64 H.halt] rfl rfl 25 _ r4 handsz rfl (hand_one H S4 m1 (ck - k) Ak m2 dk) ?_)
                    | (refine wpList_store_row rfl 25 (.tmp 6) (.tmp 114) rfl (w.heap.size + 1) #[.int .i64 H.craft, .int .i64 H.next, .int .i64 H.ahead, .slice S4 m1 (ck - k), .slice Ak m2 dk, .int .i64 H.timer, .int .i64 H.patience, .int .i64 H.tries, .int .i64 H.limit, .int .i64 H.since, .int .i64 H.pause, .int .i64 H.halt] rfl rfl 25 _ r4 handsz rfl (hand_one H S4 m1 (ck - k) Ak m2 dk) ?_))
                  have r4' := r4.row #[.int .i64 H.craft, .int .i64 H.next, .int .i64 H.ahead, .slice S4 m1 (ck - k), .slice Ak m2 dk, .int .i64 H.timer, .int .i64 H.patience, .int .i64 H.tries, .int .i64 H.limit, .int .i64 H.since, .int .i64 H.pause, .int .i64 H.halt]
                  refine bodyPost_ret (v := .tuple #[.agg #[.int .i64 H.craft, .int .i64 H.next, .int .i64 H.ahead, .slice S4 m1 (ck - k), .slice Ak m2 dk, .int .i64 H.timer, .int .i64 H.patience, .int .i64 H.tries, .int .i64 H.limit, .int .i64 H.since, .int .i64 H.pause, .int .i64 H.halt], .slice none 0 0, .int .i64 0]) (results_cell_slot2 (ty := 25) Try.results17 _ _ (w.heap.size + 1) 25 _ (0, 0) _ rfl rfl rfl r4' Try.underlying25 rfl handsz) rfl ?_
                  exact ⟨S4, (ck - k), Ak, dk, none, 0, sl4, al, [], rfl, ⟨r1.out, r2.out, rfl⟩, (r5.lowRow (by omega) _).mono (by omega), (r6.lowRow (by omega) _).mono (by omega), OwnRs.nil _ _, r7, Disj.nil _ _, Disj.nil _ _, below_row r8 (by omega) _⟩
              · have hki : ¬ (0 : Int) < (k : Int) := by omega
                have eS : cutH h1 k = { h1 with sent := h1.sent.drop k } := by unfold cutH; rw [if_neg hk0, if_neg hk0]
                have i6 : StepInv w base (cutH h1 k) S4 Ak (n1 - k) (ck - k) n2 dk sl4 al W5 := by rw [eS]; exact i5
                have g7 := g6
                clear i5 g6 eS
                go_upto_region 19 with fail
                generalize W5 = W6 at *
                have y3 := g7.cell' (i := 3) rfl
                have y4 := g7.cell' (i := 4) rfl
                have y5 := g7.cell' (i := 5) rfl
                obtain ⟨hc, hhc⟩ : ∃ x, cutH h1 k = x := ⟨_, rfl⟩
                rw [hhc] at i6 tc HR4
                clear hhc
                cases gs
                · have HR5 := Lib.hid (show goH hc (wishH hc ⟨gc, gn, gh, false, gw, ga, gq⟩) gw = (H, rows, err) by simpa using HR4.out)
                  unfold wishH at HR5
                  dsimp only at HR5
                  clear HR4
                  have y9 := i6.2.2.1.cell' (i := 9) rfl
                  have y10 := i6.2.2.1.cell' (i := 10) rfl
                  cases ga
                  · have HR6 := Lib.hid (show goH hc false gw = (H, rows, err) from HR5.out)
                    go_wp2_with fail
                    go_meet
                    exact ⟨hc, S4, n1 - k, ck - k, sl4, gw, false, _, rfl, rfl, rfl, tc, ncap, i6, HR6⟩
                  · cases gw
                    · by_cases hse : hc.since = hc.pause
                      · have esp : (hc.since == hc.pause) = true := by rw [beq_iff_eq]; exact hse
                        have HR6 := Lib.hid (show goH hc true false = (H, rows, err) by have := HR5.out; rw [esp] at this; exact this)
                        clear hse HR5
                        go_wp2_with fail
                        go_meet
                        exact ⟨hc, S4, n1 - k, ck - k, sl4, false, true, _, rfl, rfl, rfl, tc, ncap, i6, HR6⟩
                      · have esp : (hc.since == hc.pause) = false := by rw [beq_eq_false_iff_ne]; exact hse
                        have HR6 := Lib.hid (show goH hc false false = (H, rows, err) by have := HR5.out; rw [esp] at this; exact this)
                        clear hse HR5
                        go_wp2_with fail
                        go_meet
                        exact ⟨hc, S4, n1 - k, ck - k, sl4, false, false, _, rfl, rfl, rfl, tc, ncap, i6, HR6⟩
                    · have HR6 := Lib.hid (show goH hc false true = (H, rows, err) from HR5.out)
                      go_wp2_with fail
                      go_meet
                      exact ⟨hc, S4, n1 - k, ck - k, sl4, true, false, _, rfl, rfl, rfl, tc, ncap, i6, HR6⟩
                · obtain ⟨hH, hro, her⟩ : ({ hc with halt := 15 } : Hnd) = H ∧ [] = rows ∧ err = 0 := by have := HR4.out; simpa [eq_comm] using this
                  subst hro
                  subst her
                  clear HR4
                  have k11 := i6.2.2.1.cell' (i := 11) rfl
                  have kf := i6.2.2.1.frozen
                  have i7 : StepInv w base H S4 Ak (n1 - k) (ck - k) n2 dk sl4 al (W6.setCell ⟨w.heap.size, 11, none⟩ (.int .i64 15)) := i6.put 11 _ (by rw [← hH]) (by rw [← hH]) (by rw [← hH]; rfl)
                  obtain ⟨nn, hnn⟩ : ∃ x, n1 - k = x := ⟨_, rfl⟩
                  rw [hnn] at i7
                  obtain rfl : m1 = nn := by rw [← M1.out, ← i7.1.out, List.length_map]; exact i7.2.2.2.2.1.len
                  obtain rfl : m2 = n2 := by rw [← M2.out, ← i7.2.1.out, List.length_map]; exact i7.2.2.2.2.2.1.len
                  obtain rfl : nR = 0 := by rw [← NR.out]; rfl
                  clear hH hnn
                  go_upto_region 21 with fail
                  clear i6 kf k11 g7
                  generalize W6.setCell ⟨w.heap.size, 11, none⟩ (.int .i64 15) = W7 at *
                  obtain ⟨r1, r2, r3, r4, r5, r6, r7, r8, r9, r10⟩ := i7
                  go_wp2_with (first
                    | (refine wpList_load_row rfl 25 (.tmp 3) rfl (w.heap.size) rfl 25 #[.int .i64 H.craft, .int .i64 H.next, .int .i64 H.ahead, .slice S4 m1 (ck - k), .slice Ak m2 dk, .int .i64 H.timer, .int .i64 H.patience, .int .i64 H.tries, .int .i64 H.limit, .int .i64 H.since, .int .i64 H.pause, .int .i64 H.halt] (0, 0) _ r3 Try.underlying25 rfl handsz ?_)
                    | (refine wpList_store_row rfl 25 (.tmp 6) (.tmp 25) rfl (w.heap.size + 1) #[.int .i64 H.craft, .int .i64 H.next, .int .i64 H.ahead, .slice S4 m1 (ck - k), .slice Ak m2 dk, .int .i64 H.timer, .int .i64 H.patience, .int .i64 H.tries, .int .i64 H.limit, .int .i64 H.since, .int .i64 H.pause, .int .i64 H.halt] rfl rfl 25 _ r4 handsz rfl (hand_one H S4 m1 (ck - k) Ak m2 dk) ?_)
                    | (refine wpList_store_row rfl 25 (.tmp 6) (.tmp 62) rfl (w.heap.size + 1) #[.int .i64 H.craft, .int .i64 H.next, .int .i64 H.ahead, .slice S4 m1 (ck - k), .slice Ak m2 dk, .int .i64 H.timer, .int .i64 H.patience, .int .i64 H.tries, .int .i64 H.limit, .int .i64 H.since, .int .i64 H.pause, .int .i64 H.halt] rfl rfl 25 _ r4 handsz rfl (hand_one H S4 m1 (ck - k) Ak m2 dk) ?_)
                    | (refine wpList_store_row rfl 25 (.tmp 6) (.tmp 75) rfl (w.heap.size + 1) #[.int .i64 H.craft, .int .i64 H.next, .int .i64 H.ahead, .slice S4 m1 (ck - k), .slice Ak m2 dk, .int .i64 H.timer, .int .i64 H.patience, .int .i64 H.tries, .int .i64 H.limit, .int .i64 H.since, .int .i64 H.pause, .int .i64 H.halt] rfl rfl 25 _ r4 handsz rfl (hand_one H S4 m1 (ck - k) Ak m2 dk) ?_)
                    | (refine wpList_store_row rfl 25 (.tmp 6) (.tmp 114) rfl (w.heap.size + 1) #[.int .i64 H.craft, .int .i64 H.next, .int .i64 H.ahead, .slice S4 m1 (ck - k), .slice Ak m2 dk, .int .i64 H.timer, .int .i64 H.patience, .int .i64 H.tries, .int .i64 H.limit, .int .i64 H.since, .int .i64 H.pause, .int .i64 H.halt] rfl rfl 25 _ r4 handsz rfl (hand_one H S4 m1 (ck - k) Ak m2 dk) ?_))
                  have r4' := r4.row #[.int .i64 H.craft, .int .i64 H.next, .int .i64 H.ahead, .slice S4 m1 (ck - k), .slice Ak m2 dk, .int .i64 H.timer, .int .i64 H.patience, .int .i64 H.tries, .int .i64 H.limit, .int .i64 H.since, .int .i64 H.pause, .int .i64 H.halt]
                  refine bodyPost_ret (v := .tuple #[.agg #[.int .i64 H.craft, .int .i64 H.next, .int .i64 H.ahead, .slice S4 m1 (ck - k), .slice Ak m2 dk, .int .i64 H.timer, .int .i64 H.patience, .int .i64 H.tries, .int .i64 H.limit, .int .i64 H.since, .int .i64 H.pause, .int .i64 H.halt], .slice none 0 0, .int .i64 0]) (results_cell_slot2 (ty := 25) Try.results17 _ _ (w.heap.size + 1) 25 _ (0, 0) _ rfl rfl rfl r4' Try.underlying25 rfl handsz) rfl ?_
                  exact ⟨S4, (ck - k), Ak, dk, none, 0, sl4, al, [], rfl, ⟨r1.out, r2.out, rfl⟩, (r5.lowRow (by omega) _).mono (by omega), (r6.lowRow (by omega) _).mono (by omega), OwnRs.nil _ _, r7, Disj.nil _ _, Disj.nil _ _, below_row r8 (by omega) _⟩
      -- BEHIND THE HEARING
      obtain ⟨h2, S3, k3n, c3, sl3, wa, ag, W5, rfl, rfl, rfl, t2, hc3, i5, HG⟩ := hcut
      clear HR2 t0 hcap HBR
      have hl2 : h2.sent.length = k3n := by rw [← i5.1.out, List.length_map]; exact i5.2.2.2.2.1.len
      have hlen : (k3n : Int) ≤ 127 := by have := t2.1; have := t2.2.1; omega
      have k3 := i5.2.2.1.cell' (i := 3) rfl
      have k5 := i5.2.2.1.cell' (i := 5) rfl
      have kf := i5.2.2.1.frozen
      go_upto_if 95 with fail
      go_cut [14] (fun s14 wx => ∃ (h3 : Hnd) (R : Option Addr) (nR3 cR : Nat) (rl : List RowR) (W : World), W = wx ∧ s14 = .slice R nR3 cR ∧ Tick h3 ∧ StepInv w base h3 S3 Ak k3n c3 n2 dk sl3 al W ∧ OwnRs W base R nR3 cR rl ∧ Disj S3 sl3 R rl ∧ Disj Ak al R rl ∧ nR3 ≤ 127 ∧ Hid ((if wa = false then ((moreH h3).1, rl.map RowR.b ++ (moreH h3).2, 0) else (h3, rl.map RowR.b, 0)) = (H, rows, err)))
      case first =>
        as_aux_lemma =>
          by_cases h0 : k3n = 0
          · have h0i : ((k3n : Int) == 0) = true := by rw [beq_iff_eq]; omega
            have eL : lateH h2 ag = ({ h2 with timer := 0 }, [], true) := by unfold lateH; rw [if_pos (by omega)]
            have tL := tick_late t2 ag
            have HG2 := HG.out
            unfold goH at HG2
            rw [eL] at tL HG2
            dsimp only at tL HG2
            have i6 : StepInv w base { h2 with timer := 0 } S3 Ak k3n c3 n2 dk sl3 al (W5.setCell ⟨w.heap.size, 5, none⟩ (.int .i64 0)) := i5.put 5 _ rfl rfl rfl
            clear eL HG hl2 h0
            go_wp2_with fail
            go_meet
            exact ⟨_, none, 0, 0, [], _, rfl, rfl, tL, i6, OwnRs.nil _ _, Disj.nil _ _, Disj.nil _ _, by omega, Lib.hid (by simpa using HG2)⟩
          · have h0i : ((k3n : Int) == 0) = false := by rw [beq_eq_false_iff_ne]; omega
            have k6 := i5.2.2.1.cell' (i := 6) rfl
            have w5 : IntKind.i64.wrap (h2.timer + 1) = h2.timer + 1 := by have := t2.2.2.2.2.2.2.2.1; have := t2.2.2.2.2.2.2.2.2.1; exact IntWalk.i64_in _ (by omega)
            cases ag
            · by_cases hp : h2.timer + 1 = h2.patience
              · have e1 : (h2.timer + 1 == h2.patience) = true := by rw [beq_iff_eq]; exact hp
                have eL : lateH h2 false = if h2.tries = h2.limit then ({ h2 with timer := 0, since := 0, halt := 19 }, [], false) else ({ h2 with timer := 0, since := 0, tries := h2.tries + 1 }, upsB h2.craft (h2.next - (k3n : Int)) h2.sent, true) := by unfold lateH; rw [if_neg (by omega), if_neg (by omega), hl2]
                clear hp
                go_upto_region 28 with fail
                have i6 : StepInv w base { h2 with timer := 0, since := 0 } S3 Ak k3n c3 n2 dk sl3 al ((W5.setCell ⟨w.heap.size, 5, none⟩ (.int .i64 0)).setCell ⟨w.heap.size, 9, none⟩ (.int .i64 0)) := (i5.put (h' := { h2 with timer := 0 }) 5 (.int .i64 0) rfl rfl rfl).put 9 (.int .i64 0) rfl rfl rfl
                have pm := i5.2.2.1.set_ 5 (.int .i64 0)
                have k9 := pm.cell' (i := 9) rfl
                have kf' := pm.frozen
                go_upto_region 30 with fail
                clear k3 k5 k6 kf pm k9 kf' w5 i5
                generalize (W5.setCell ⟨w.heap.size, 5, none⟩ (.int .i64 0)).setCell ⟨w.heap.size, 9, none⟩ (.int .i64 0) = W6 at *
                have k7 := i6.2.2.1.cell' (i := 7) rfl
                have k8 := i6.2.2.1.cell' (i := 8) rfl
                have kf := i6.2.2.1.frozen
                have HG2 := HG.out
                unfold goH at HG2
                rw [eL] at HG2
                by_cases hlim : h2.tries = h2.limit
                · have hl1 : (h2.tries == h2.limit) = true := by rw [beq_iff_eq]; exact hlim
                  rw [if_pos hlim] at HG2
                  obtain ⟨hH, hro, her⟩ : ({ h2 with timer := 0, since := 0, halt := 19 } : Hnd) = H ∧ [] = rows ∧ err = 0 := by simpa [eq_comm] using HG2
                  subst hro
                  subst her
                  have i7 : StepInv w base H S3 Ak k3n c3 n2 dk sl3 al (W6.setCell ⟨w.heap.size, 11, none⟩ (.int .i64 19)) := i6.put 11 _ (by rw [← hH]) (by rw [← hH]) (by rw [← hH]; rfl)
                  have k11 := i6.2.2.1.cell' (i := 11) rfl
                  obtain rfl : m1 = k3n := by rw [← M1.out, ← i7.1.out, List.length_map]; exact i7.2.2.2.2.1.len
                  obtain rfl : m2 = n2 := by rw [← M2.out, ← i7.2.1.out, List.length_map]; exact i7.2.2.2.2.2.1.len
                  obtain rfl : nR = 0 := by rw [← NR.out]; rfl
                  clear hH hlim HG HG2 eL hl2 h0
                  go_upto_region 32 with fail
                  clear i6 kf k7 k8 k11
                  generalize W6.setCell ⟨w.heap.size, 11, none⟩ (.int .i64 19) = W7 at *
                  obtain ⟨r1, r2, r3, r4, r5, r6, r7, r8, r9, r10⟩ := i7
                  go_wp2_with (first
                    | (refine wpList_load_row rfl 25 (.tmp 3) rfl (w.heap.size) rfl 25 #[.int .i64 H.craft, .int .i64 H.next, .int .i64 H.ahead, .slice S3 m1 c3, .slice Ak m2 dk, .int .i64 H.timer, .int .i64 H.patience, .int .i64 H.tries, .int .i64 H.limit, .int .i64 H.since, .int .i64 H.pause, .int .i64 H.halt] (0, 0) _ r3 Try.underlying25 rfl handsz ?_)
                    | (refine wpList_store_row rfl 25 (.tmp 6) (.tmp 25) rfl (w.heap.size + 1) #[.int .i64 H.craft, .int .i64 H.next, .int .i64 H.ahead, .slice S3 m1 c3, .slice Ak m2 dk, .int .i64 H.timer, .int .i64 H.patience, .int .i64 H.tries, .int .i64 H.limit, .int .i64 H.since, .int .i64 H.pause, .int .i64 H.halt] rfl rfl 25 _ r4 handsz rfl (hand_one H S3 m1 c3 Ak m2 dk) ?_)
                    | (refine wpList_store_row rfl 25 (.tmp 6) (.tmp 62) rfl (w.heap.size + 1) #[.int .i64 H.craft, .int .i64 H.next, .int .i64 H.ahead, .slice S3 m1 c3, .slice Ak m2 dk, .int .i64 H.timer, .int .i64 H.patience, .int .i64 H.tries, .int .i64 H.limit, .int .i64 H.since, .int .i64 H.pause, .int .i64 H.halt] rfl rfl 25 _ r4 handsz rfl (hand_one H S3 m1 c3 Ak m2 dk) ?_)
                    | (refine wpList_store_row rfl 25 (.tmp 6) (.tmp 75) rfl (w.heap.size + 1) #[.int .i64 H.craft, .int .i64 H.next, .int .i64 H.ahead, .slice S3 m1 c3, .slice Ak m2 dk, .int .i64 H.timer, .int .i64 H.patience, .int .i64 H.tries, .int .i64 H.limit, .int .i64 H.since, .int .i64 H.pause, .int .i64 H.halt] rfl rfl 25 _ r4 handsz rfl (hand_one H S3 m1 c3 Ak m2 dk) ?_)
                    | (refine wpList_store_row rfl 25 (.tmp 6) (.tmp 114) rfl (w.heap.size + 1) #[.int .i64 H.craft, .int .i64 H.next, .int .i64 H.ahead, .slice S3 m1 c3, .slice Ak m2 dk, .int .i64 H.timer, .int .i64 H.patience, .int .i64 H.tries, .int .i64 H.limit, .int .i64 H.since, .int .i64 H.pause, .int .i64 H.halt] rfl rfl 25 _ r4 handsz rfl (hand_one H S3 m1 c3 Ak m2 dk) ?_))
                  have r4' := r4.row #[.int .i64 H.craft, .int .i64 H.next, .int .i64 H.ahead, .slice S3 m1 c3, .slice Ak m2 dk, .int .i64 H.timer, .int .i64 H.patience, .int .i64 H.tries, .int .i64 H.limit, .int .i64 H.since, .int .i64 H.pause, .int .i64 H.halt]
                  refine bodyPost_ret (v := .tuple #[.agg #[.int .i64 H.craft, .int .i64 H.next, .int .i64 H.ahead, .slice S3 m1 c3, .slice Ak m2 dk, .int .i64 H.timer, .int .i64 H.patience, .int .i64 H.tries, .int .i64 H.limit, .int .i64 H.since, .int .i64 H.pause, .int .i64 H.halt], .slice none 0 0, .int .i64 0]) (results_cell_slot2 (ty := 25) Try.results17 _ _ (w.heap.size + 1) 25 _ (0, 0) _ rfl rfl rfl r4' Try.underlying25 rfl handsz) rfl ?_
                  exact ⟨S3, c3, Ak, dk, none, 0, sl3, al, [], rfl, ⟨r1.out, r2.out, rfl⟩, (r5.lowRow (by omega) _).mono (by omega), (r6.lowRow (by omega) _).mono (by omega), OwnRs.nil _ _, r7, Disj.nil _ _, Disj.nil _ _, below_row r8 (by omega) _⟩
                · have hl1 : (h2.tries == h2.limit) = false := by rw [beq_eq_false_iff_ne]; exact hlim
                  rw [if_neg hlim] at HG2
                  have tL := tick_late t2 false
                  rw [eL, if_neg hlim] at tL
                  dsimp only at HG2 tL
                  have w7 : IntKind.i64.wrap (h2.tries + 1) = h2.tries + 1 := by have := t2.2.2.2.2.2.2.2.2.2.1; have := t2.2.2.2.2.2.2.2.2.2.2.1; exact IntWalk.i64_in _ (by omega)
                  obtain ⟨h3, hh3⟩ : ∃ x, ({ h2 with timer := 0, since := 0, tries := h2.tries + 1 } : Hnd) = x := ⟨_, rfl⟩
                  have i7 : StepInv w base h3 S3 Ak k3n c3 n2 dk sl3 al (W6.setCell ⟨w.heap.size, 7, none⟩ (.int .i64 (h2.tries + 1))) := i6.put 7 _ (by rw [← hh3]) (by rw [← hh3]) (by rw [← hh3]; rfl)
                  have ec : h2.craft = h3.craft := by rw [← hh3]
                  have en : h2.next = h3.next := by rw [← hh3]
                  have es : h2.sent = h3.sent := by rw [← hh3]
                  rw [hh3] at HG2 tL
                  rw [ec, en, es] at HG2
                  have HG3 := Lib.hid HG2
                  have hnx3 := tL.2.2.2.2.2.1
                  clear hlim HG HG2 eL hl2 hh3 ec en es
                  go_upto_region 34 with fail
                  clear i6 kf k7 k8 w7
                  generalize W6.setCell ⟨w.heap.size, 7, none⟩ (.int .i64 (h2.tries + 1)) = W7 at *
                  obtain ⟨j0, hj0, hy0, hy1, hy2⟩ := info_parts rowsinfo
                  have hsz : w.heap.size + 2 ≤ base := i7.2.2.2.2.2.2.2.2.1
                  have hbW : base ≤ W7.heap.size := i7.2.2.2.2.2.2.2.2.2
                  have hlS := fun (q : Nat) (hq : Touch S3 sl3 q) => i7.2.2.2.2.1.lt hq
                  have hlA := fun (q : Nat) (hq : Touch Ak al q) => i7.2.2.2.2.2.1.lt hq
                  go_wp2_with fail
                  go_loopw [14, 15] (fun ov iv wr => ∃ (k : Nat) (R : Option Addr) (cR : Nat) (rl : List RowR), k ≤ k3n ∧ ov = .slice R k cR ∧ iv = .int .i64 (k : Int) ∧ Hid (rl.map RowR.b = upsB h3.craft (h3.next - (k3n : Int)) (h3.sent.take k)) ∧ OwnRs wr base R k cR rl ∧ (∀ q, Touch R rl q → W7.heap.size ≤ q) ∧ W7.heap.size ≤ wr.heap.size ∧ StepInv w base h3 S3 Ak k3n c3 n2 dk sl3 al wr) (fun _ iv _ => k3n - (intOf iv).toNat)
                  case atStart => exact ⟨0, none, 0, [], Nat.zero_le _, rfl, rfl, Lib.hid (by simp [upsB]), OwnRs.nil _ _, fun q hq => (Disj.nil none [] q hq hq).elim, Nat.le_refl _, i7⟩
                  case round =>
                    as_aux_lemma =>
                      clear i7
                      obtain ⟨k, R, cR, rl, hk, rfl, rfl, HRL, hOr, hRt, hzr, i8⟩ := hrel
                      have k3 := i8.2.2.1.cell' (i := 3) rfl
                      have hSL : sl3.length = k3n := i8.2.2.2.2.1.len
                      by_cases h5 : k < k3n
                      · have h5i : (k : Int) < (k3n : Int) := by omega
                        have hk0 : (0 : Int) ≤ (k : Int) := by omega
                        have hkl : k < sl3.length := by omega
                        have hx := List.getElem?_eq_getElem hkl
                        obtain ⟨x, hxx⟩ : ∃ x, sl3[k] = x := ⟨_, rfl⟩
                        rw [hxx] at hx
                        clear hxx
                        have hxa : h3.sent[k]? = some x.b := by rw [← i8.1.out, List.getElem?_map, hx]; rfl
                        have HTk : Hid (h3.sent.take (k + 1) = h3.sent.take k ++ [x.b]) := Lib.hid (by rw [List.take_add_one, hxa]; rfl)
                        have HTl : Hid ((h3.sent.take k).length = k) := Lib.hid (by rw [List.length_take, ← i8.1.out, List.length_map]; omega)
                        obtain ⟨gA, oA, rfl, hg1, hg2⟩ := i8.2.2.2.2.1.arr.form (by omega)
                        have e1 : wr.cell? ⟨gA, oA + k, none⟩ = some (.slice x.A x.b.length x.c) := i8.2.2.2.2.1.arr.cell (rowvs_get hx)
                        have hxO := i8.2.2.2.2.1.bs.1 k x hx
                        obtain ⟨nx, hnx⟩ : ∃ nx, x.b.length = nx := ⟨_, rfl⟩
                        obtain ⟨nb, hnb⟩ : ∃ nb, (upB h3.craft (h3.next - (k3n : Int) + (k : Int)) x.b).length = nb := ⟨_, rfl⟩
                        have HUP := Lib.hid (up_any h3 (some ⟨gA, oA, none⟩) Ak x.A k3n c3 n2 dk nx x.c nb (h3.next - (k3n : Int) + (k : Int)) x.b wr.drew hxO.rd.drew hnx (by omega) (by omega) hnb)
                        unfold hvn at HUP
                        have NB := Lib.hid hnb
                        rw [hnx] at e1
                        clear hnx hnb
                        have q4 : k + 1 ≤ maxLen := by unfold maxLen; omega
                        have q5' : (k + 1) * 24 ≤ 140737488355328 := by omega
                        have bB := i8.2.2.1
                        go_upto_region 37 with fail
                        obtain ⟨w1, w2⟩ : IntKind.i64.wrap (h3.next - (k3n : Int)) = h3.next - (k3n : Int) ∧ IntKind.i64.wrap (h3.next - (k3n : Int) + (k : Int)) = h3.next - (k3n : Int) + (k : Int) := ⟨IntWalk.i64_in _ (by omega), IntWalk.i64_in _ (by omega)⟩
                        refine heldRegion (fun v => Blk v w.heap.size 25 #[.int .i64 h3.craft, .int .i64 h3.next, .int .i64 h3.ahead, .slice (some ⟨gA, oA, none⟩) k3n c3, .slice Ak n2 dk, .int .i64 h3.timer, .int .i64 h3.patience, .int .i64 h3.tries, .int .i64 h3.limit, .int .i64 h3.since, .int .i64 h3.pause, .int .i64 h3.halt] ∧ v.cell? ⟨gA, oA + k, none⟩ = some (.slice x.A nx x.c)) 17 (by kernel_rfl) (by kernel_rfl) ⟨bB.drew, e1⟩ (fun hSS => ?_)
                        refine walk_take 0 (v := ?vafalse0) rfl (by kernel_rfl) (by kernel_rfl) (by kernel_rfl) (fun _ _ _ h => h) (hSS) (Or.inl ⟨by rfl, ?yafalse0⟩) ?rafalse0
                        case yafalse0 => intro w hSw; obtain ⟨hwB, hw99⟩ := id hSw; obtain ⟨hw0, hw1, hw2, hw3, hw4, hw5, hw6, hw7, hw8, hw9, hw10, hw11, hw12⟩ := Blk.twelve hwB; have hSx := hSw; (try dsimp only at hSw); go_simp; try rfl
                        case' rafalse0 => try simp only [List.getElem_toArray, List.getElem_cons_succ, List.getElem_cons_zero, Act.put, List.setIfInBounds_toArray, List.set_cons_zero, List.set_cons_succ]
                        refine walk_take 1 (v := ?vafalse1) rfl (by kernel_rfl) (by kernel_rfl) (by kernel_rfl) (fun _ _ _ h => h) (hSS) (Or.inl ⟨by rfl, ?yafalse1⟩) ?rafalse1
                        case yafalse1 => intro w hSw; obtain ⟨hwB, hw99⟩ := id hSw; obtain ⟨hw0, hw1, hw2, hw3, hw4, hw5, hw6, hw7, hw8, hw9, hw10, hw11, hw12⟩ := Blk.twelve hwB; have hSx := hSw; (try dsimp only at hSw); go_simp; try rfl
                        case' rafalse1 => try simp only [List.getElem_toArray, List.getElem_cons_succ, List.getElem_cons_zero, Act.put, List.setIfInBounds_toArray, List.set_cons_zero, List.set_cons_succ]
                        refine walk_take 2 (v := ?vafalse2) rfl (by kernel_rfl) (by kernel_rfl) (by kernel_rfl) (fun _ _ _ h => h) (hSS) (Or.inl ⟨by rfl, ?yafalse2⟩) ?rafalse2
                        case yafalse2 => intro w hSw; obtain ⟨hwB, hw99⟩ := id hSw; obtain ⟨hw0, hw1, hw2, hw3, hw4, hw5, hw6, hw7, hw8, hw9, hw10, hw11, hw12⟩ := Blk.twelve hwB; have hSx := hSw; (try dsimp only at hSw); go_simp; try rfl
                        case' rafalse2 => try simp only [List.getElem_toArray, List.getElem_cons_succ, List.getElem_cons_zero, Act.put, List.setIfInBounds_toArray, List.set_cons_zero, List.set_cons_succ]
                        refine walk_take 3 (v := ?vafalse3) rfl (by kernel_rfl) (by kernel_rfl) (by kernel_rfl) (fun _ _ _ h => h) (hSS) (Or.inl ⟨by rfl, ?yafalse3⟩) ?rafalse3
                        case yafalse3 => intro w hSw; obtain ⟨hwB, hw99⟩ := id hSw; obtain ⟨hw0, hw1, hw2, hw3, hw4, hw5, hw6, hw7, hw8, hw9, hw10, hw11, hw12⟩ := Blk.twelve hwB; have hSx := hSw; (try dsimp only at hSw); go_simp; try rfl
                        case' rafalse3 => try simp only [List.getElem_toArray, List.getElem_cons_succ, List.getElem_cons_zero, Act.put, List.setIfInBounds_toArray, List.set_cons_zero, List.set_cons_succ]
                        refine walk_take 4 (v := ?vafalse4) rfl (by kernel_rfl) (by kernel_rfl) (by kernel_rfl) (fun _ _ _ h => h) (hSS) (Or.inl ⟨by rfl, ?yafalse4⟩) ?rafalse4
                        case yafalse4 => intro w hSw; obtain ⟨hwB, hw99⟩ := id hSw; obtain ⟨hw0, hw1, hw2, hw3, hw4, hw5, hw6, hw7, hw8, hw9, hw10, hw11, hw12⟩ := Blk.twelve hwB; have hSx := hSw; (try dsimp only at hSw); go_simp; try rfl
                        case' rafalse4 => try simp only [List.getElem_toArray, List.getElem_cons_succ, List.getElem_cons_zero, Act.put, List.setIfInBounds_toArray, List.set_cons_zero, List.set_cons_succ]
                        refine walk_take 5 (v := ?vafalse5) rfl (by kernel_rfl) (by kernel_rfl) (by kernel_rfl) (fun _ _ _ h => h) (hSS) (Or.inl ⟨by rfl, ?yafalse5⟩) ?rafalse5
                        case yafalse5 => intro w hSw; obtain ⟨hwB, hw99⟩ := id hSw; obtain ⟨hw0, hw1, hw2, hw3, hw4, hw5, hw6, hw7, hw8, hw9, hw10, hw11, hw12⟩ := Blk.twelve hwB; have hSx := hSw; (try dsimp only at hSw); go_simp; try rfl
                        case' rafalse5 => try simp only [List.getElem_toArray, List.getElem_cons_succ, List.getElem_cons_zero, Act.put, List.setIfInBounds_toArray, List.set_cons_zero, List.set_cons_succ]
                        refine walk_take 6 (v := ?vafalse6) rfl (by kernel_rfl) (by kernel_rfl) (by kernel_rfl) (fun _ _ _ h => h) (hSS) (Or.inl ⟨by rfl, ?yafalse6⟩) ?rafalse6
                        case yafalse6 => intro w hSw; obtain ⟨hwB, hw99⟩ := id hSw; obtain ⟨hw0, hw1, hw2, hw3, hw4, hw5, hw6, hw7, hw8, hw9, hw10, hw11, hw12⟩ := Blk.twelve hwB; have hSx := hSw; (try dsimp only at hSw); go_simp; try rfl
                        case' rafalse6 => try simp only [List.getElem_toArray, List.getElem_cons_succ, List.getElem_cons_zero, Act.put, List.setIfInBounds_toArray, List.set_cons_zero, List.set_cons_succ]
                        refine walk_take 7 (v := ?vafalse7) rfl (by kernel_rfl) (by kernel_rfl) (by kernel_rfl) (fun _ _ _ h => h) (hSS) (Or.inl ⟨by rfl, ?yafalse7⟩) ?rafalse7
                        case yafalse7 => intro w hSw; obtain ⟨hwB, hw99⟩ := id hSw; obtain ⟨hw0, hw1, hw2, hw3, hw4, hw5, hw6, hw7, hw8, hw9, hw10, hw11, hw12⟩ := Blk.twelve hwB; have hSx := hSw; (try dsimp only at hSw); go_simp; try rfl
                        case' rafalse7 => try simp only [List.getElem_toArray, List.getElem_cons_succ, List.getElem_cons_zero, Act.put, List.setIfInBounds_toArray, List.set_cons_zero, List.set_cons_succ]
                        refine walk_take 8 (v := ?vafalse8) rfl (by kernel_rfl) (by kernel_rfl) (by kernel_rfl) (fun _ _ _ h => h) (hSS) (Or.inl ⟨by rfl, ?yafalse8⟩) ?rafalse8
                        case yafalse8 => intro w hSw; obtain ⟨hwB, hw99⟩ := id hSw; obtain ⟨hw0, hw1, hw2, hw3, hw4, hw5, hw6, hw7, hw8, hw9, hw10, hw11, hw12⟩ := Blk.twelve hwB; have hSx := hSw; (try dsimp only at hSw); go_simp; try rfl
                        case' rafalse8 => try simp only [List.getElem_toArray, List.getElem_cons_succ, List.getElem_cons_zero, Act.put, List.setIfInBounds_toArray, List.set_cons_zero, List.set_cons_succ]
                        refine walk_take 9 (v := ?vafalse9) rfl (by kernel_rfl) (by kernel_rfl) (by kernel_rfl) (fun _ _ _ h => h) (hSS) (Or.inl ⟨by rfl, ?yafalse9⟩) ?rafalse9
                        case yafalse9 => intro w hSw; obtain ⟨hwB, hw99⟩ := id hSw; obtain ⟨hw0, hw1, hw2, hw3, hw4, hw5, hw6, hw7, hw8, hw9, hw10, hw11, hw12⟩ := Blk.twelve hwB; have hSx := hSw; (try dsimp only at hSw); go_simp; try rfl
                        case' rafalse9 => try simp only [List.getElem_toArray, List.getElem_cons_succ, List.getElem_cons_zero, Act.put, List.setIfInBounds_toArray, List.set_cons_zero, List.set_cons_succ]
                        refine walk_take 10 (v := ?vafalse10) rfl (by kernel_rfl) (by kernel_rfl) (by kernel_rfl) (fun _ _ _ h => h) (hSS) (Or.inl ⟨by rfl, ?yafalse10⟩) ?rafalse10
                        case yafalse10 => intro w hSw; obtain ⟨hwB, hw99⟩ := id hSw; obtain ⟨hw0, hw1, hw2, hw3, hw4, hw5, hw6, hw7, hw8, hw9, hw10, hw11, hw12⟩ := Blk.twelve hwB; have hSx := hSw; (try dsimp only at hSw); go_simp; try rfl
                        case' rafalse10 => try simp only [List.getElem_toArray, List.getElem_cons_succ, List.getElem_cons_zero, Act.put, List.setIfInBounds_toArray, List.set_cons_zero, List.set_cons_succ]
                        refine walk_take 11 (v := ?vafalse11) rfl (by kernel_rfl) (by kernel_rfl) (by kernel_rfl) (fun _ _ _ h => h) (hSS) (Or.inl ⟨by rfl, ?yafalse11⟩) ?rafalse11
                        case yafalse11 => intro w hSw; obtain ⟨hwB, hw99⟩ := id hSw; obtain ⟨hw0, hw1, hw2, hw3, hw4, hw5, hw6, hw7, hw8, hw9, hw10, hw11, hw12⟩ := Blk.twelve hwB; have hSx := hSw; (try dsimp only at hSw); go_simp; try rfl
                        case' rafalse11 => try simp only [List.getElem_toArray, List.getElem_cons_succ, List.getElem_cons_zero, Act.put, List.setIfInBounds_toArray, List.set_cons_zero, List.set_cons_succ]
                        refine walk_take 12 (v := ?vafalse12) rfl (by kernel_rfl) (by kernel_rfl) (by kernel_rfl) (fun _ _ _ h => h) (hSS) (Or.inl ⟨by rfl, ?yafalse12⟩) ?rafalse12
                        case yafalse12 => intro w hSw; obtain ⟨hwB, hw99⟩ := id hSw; obtain ⟨hw0, hw1, hw2, hw3, hw4, hw5, hw6, hw7, hw8, hw9, hw10, hw11, hw12⟩ := Blk.twelve hwB; have hSx := hSw; (try dsimp only at hSw); go_simp; try rfl
                        case' rafalse12 => try simp only [List.getElem_toArray, List.getElem_cons_succ, List.getElem_cons_zero, Act.put, List.setIfInBounds_toArray, List.set_cons_zero, List.set_cons_succ]
                        refine walk_take 13 (v := ?vafalse13) rfl (by kernel_rfl) (by kernel_rfl) (by kernel_rfl) (fun _ _ _ h => h) (hSS) (Or.inl ⟨by rfl, ?yafalse13⟩) ?rafalse13
                        case yafalse13 => intro w hSw; obtain ⟨hwB, hw99⟩ := id hSw; obtain ⟨hw0, hw1, hw2, hw3, hw4, hw5, hw6, hw7, hw8, hw9, hw10, hw11, hw12⟩ := Blk.twelve hwB; have hSx := hSw; (try dsimp only at hSw); go_simp; try rfl
                        case' rafalse13 => try simp only [List.getElem_toArray, List.getElem_cons_succ, List.getElem_cons_zero, Act.put, List.setIfInBounds_toArray, List.set_cons_zero, List.set_cons_succ]
                        refine walk_take 14 (v := ?vafalse14) rfl (by kernel_rfl) (by kernel_rfl) (by kernel_rfl) (fun _ _ _ h => h) (hSS) (Or.inl ⟨by rfl, ?yafalse14⟩) ?rafalse14
                        case yafalse14 => intro w hSw; obtain ⟨hwB, hw99⟩ := id hSw; obtain ⟨hw0, hw1, hw2, hw3, hw4, hw5, hw6, hw7, hw8, hw9, hw10, hw11, hw12⟩ := Blk.twelve hwB; have hSx := hSw; (try dsimp only at hSw); go_simp; try rfl
                        case' rafalse14 => try simp only [List.getElem_toArray, List.getElem_cons_succ, List.getElem_cons_zero, Act.put, List.setIfInBounds_toArray, List.set_cons_zero, List.set_cons_succ]
                        refine walk_step 15 rfl (by kernel_rfl) (by kernel_rfl) (fun K hK => ?upfalse)
                        case upfalse =>
                          go_simp
                          refine HUP.out.mono ?_
                          rintro e v2 ⟨Ab, cb, rfl, hOb, hb⟩
                          have hbd : Below wr.heap.size wr v2 := ((Below.refl wr.heap.size wr).drew).trans hb
                          have hob := hOb.lt
                          have zv := hbd.size
                          have b4 : Below wr.heap.size wr (v2.alloc (.cells #[.slice Ab nb cb] 26)) := hbd.alloc zv _
                          have i9 := i8.step b4
                          have hOr4 := hOr.step b4
                          have hb4 := (hOb.alloc (.cells #[.slice Ab nb cb] 26)).mono (base' := base) (by have : base ≤ wr.heap.size := i8.2.2.2.2.2.2.2.2.2; show base ≤ wr.heap.size; omega)
                          have hR4 := Rd_new v2 [.slice Ab nb cb] 26
                          have hlr := fun (q : Nat) (hq : Touch R rl q) => (hOr.lt hq).2
                          have hbz : base ≤ (v2.alloc (.cells #[.slice Ab nb cb] 26)).heap.size := i9.2.2.2.2.2.2.2.2.2
                          have e1v := (hbd.cell (p := ⟨gA, oA + k, none⟩) hg2).trans e1
                          refine hK _ _ ⟨bB.step hbd, e1v⟩ ?_
                          clear hK K hSS w1 w2 k3 HUP
                          try simp only [List.getElem_toArray, List.getElem_cons_succ, List.getElem_cons_zero, Act.put, List.setIfInBounds_toArray, List.set_cons_zero, List.set_cons_succ]
                          refine walk_step 16 rfl (by kernel_rfl) (by kernel_rfl) (fun K hK => ?bufalse)
                          case bufalse =>
                            go_simp
                            refine hK _ _ ⟨(bB.step b4), (b4.cell (p := ⟨gA, oA + k, none⟩) hg2).trans e1⟩ ?_
                            clear hK K e1 e1v
                            try simp only [List.getElem_toArray, List.getElem_cons_succ, List.getElem_cons_zero, Act.put, List.setIfInBounds_toArray, List.set_cons_zero, List.set_cons_succ]
                            refine walk_tail (by kernel_rfl) ?_
                            simp only [List.drop_succ_cons, List.drop_zero]
                            go_wp2_with (first
                              | (at_builtin; refine wpList_append_Own (v2.alloc (.cells #[.slice Ab nb cb] 26)) rfl (.tmp 126) (.tmp 142) 22 rfl base 26 j0 _ 1 24 Try.underlying22 hj0 hy0 hy1 hy2 rfl R k cR (rowvs rl) rfl hOr4.arr (some ⟨v2.heap.size, 0, none⟩) 1 1 [.slice Ab nb cb] rfl rfl hR4 (one_slice Ab nb cb) q4 q5' hbz ?_; intro B6 d6 w6 hB6 hg6 hor6))
                            have hx6 := add_row (x := ⟨upB h3.craft (h3.next - (k3n : Int) + (k : Int)) x.b, Ab, cb⟩) hOr4.bs (by show Own _ _ _ _ Ab (upB h3.craft (h3.next - (k3n : Int) + (k : Int)) x.b).length cb _; rw [NB.out]; exact hb4) hOr4.arr hg6 (m := wr.heap.size) (fun i y hy q hq => (hOr.bs.lt hy hq).2) (fun q hq => (hob q hq).1) (by show Own _ _ _ _ _ _ _ (rowvs rl ++ [.slice Ab (upB h3.craft (h3.next - (k3n : Int) + (k : Int)) x.b).length cb]); rw [NB.out]; exact hB6)
                            have i10 := i9.grown hg6 (fun q hq => by
                              have h1 := hRt q (.inl hq)
                              refine ⟨by omega, fun ht => ?_, fun ht => ?_⟩
                              · have := (hlS q ht).2; omega
                              · have := (hlA q ht).2; omega)
                            have z6 := hg6.size
                            have z4 := b4.size
                            go_roundw
                            case rel =>
                              refine ⟨k + 1, B6, d6, _, by omega, rfl, by go_num, Lib.hid ?_, hx6, ?_, by omega, i10⟩
                              · rw [List.map_append, HRL.out, HTk.out, upsB_snoc, HTl.out]; rfl
                              · rintro q (hq | ⟨i, r, hr, hq⟩)
                                · rcases hor6 with e | e
                                  · rw [e] at hq; exact hRt q (.inl hq)
                                  · rw [e] at hq; have := Option.some.inj hq; omega
                                · rcases Nat.lt_or_ge i rl.length with h6 | h6
                                  · rw [List.getElem?_append_left h6] at hr
                                    exact hRt q (.inr ⟨i, r, hr, hq⟩)
                                  · have hi := (List.getElem?_eq_some_iff.1 hr).1
                                    rw [List.length_append, List.length_singleton] at hi
                                    rw [List.getElem?_append_right h6, show i - rl.length = 0 by omega] at hr
                                    injection hr with hr
                                    subst hr
                                    have := (hob q hq).1
                                    have : wr.heap.size ≤ q := this
                                    omega
                            case measure => simp [intOf]; omega
                      · obtain rfl : k = k3n := by omega
                        have h5i : ¬ (k : Int) < (k : Int) := by omega
                        go_wp2_with fail
                        go_meet
                        refine ⟨h3, R, k, cR, rl, _, rfl, rfl, tL, i8, hOr, fun q h1 h2 => by have := hRt q h2; have := (hlS q h1).2; omega, fun q h1 h2 => by have := hRt q h2; have := (hlA q h1).2; omega, by omega, Lib.hid ?_⟩
                        have e7 : h3.sent.take k = h3.sent := List.take_of_length_le (by rw [← i8.1.out, List.length_map]; omega)
                        have e8 := HRL.out
                        rw [e7] at e8
                        rw [e8]
                        simpa using HG3.out
              · have e1 : (h2.timer + 1 == h2.patience) = false := by rw [beq_eq_false_iff_ne]; exact hp
                have eL : lateH h2 false = ({ h2 with timer := h2.timer + 1 }, [], true) := by
                  have := t2.2.2.2.2.2.2.2.1
                  unfold lateH; rw [if_neg (by omega), if_pos ⟨rfl, by omega⟩]
                have tL := tick_late t2 false
                have HG2 := HG.out
                unfold goH at HG2
                rw [eL] at tL HG2
                dsimp only at tL HG2
                have i6 : StepInv w base { h2 with timer := h2.timer + 1 } S3 Ak k3n c3 n2 dk sl3 al (W5.setCell ⟨w.heap.size, 5, none⟩ (.int .i64 (h2.timer + 1))) := i5.put 5 _ rfl rfl rfl
                clear eL HG hl2 h0 hp
                go_wp2_with fail
                go_meet
                exact ⟨_, none, 0, 0, [], _, rfl, rfl, tL, i6, OwnRs.nil _ _, Disj.nil _ _, Disj.nil _ _, by omega, Lib.hid (by simpa using HG2)⟩
            · have eL : lateH h2 true = if h2.tries = h2.limit then ({ h2 with timer := 0, since := 0, halt := 19 }, [], false) else ({ h2 with timer := 0, since := 0, tries := h2.tries + 1 }, upsB h2.craft (h2.next - (k3n : Int)) h2.sent, true) := by unfold lateH; rw [if_neg (by omega), if_neg (by rintro ⟨h, _⟩; cases h), hl2]
              go_upto_region 28 with fail
              have i6 : StepInv w base { h2 with timer := 0, since := 0 } S3 Ak k3n c3 n2 dk sl3 al ((W5.setCell ⟨w.heap.size, 5, none⟩ (.int .i64 0)).setCell ⟨w.heap.size, 9, none⟩ (.int .i64 0)) := (i5.put (h' := { h2 with timer := 0 }) 5 (.int .i64 0) rfl rfl rfl).put 9 (.int .i64 0) rfl rfl rfl
              have pm := i5.2.2.1.set_ 5 (.int .i64 0)
              have k9 := pm.cell' (i := 9) rfl
              have kf' := pm.frozen
              go_upto_region 30 with fail
              clear k3 k5 k6 kf pm k9 kf' w5 i5
              generalize (W5.setCell ⟨w.heap.size, 5, none⟩ (.int .i64 0)).setCell ⟨w.heap.size, 9, none⟩ (.int .i64 0) = W6 at *
              have k7 := i6.2.2.1.cell' (i := 7) rfl
              have k8 := i6.2.2.1.cell' (i := 8) rfl
              have kf := i6.2.2.1.frozen
              have HG2 := HG.out
              unfold goH at HG2
              rw [eL] at HG2
              by_cases hlim : h2.tries = h2.limit
              · have hl1 : (h2.tries == h2.limit) = true := by rw [beq_iff_eq]; exact hlim
                rw [if_pos hlim] at HG2
                obtain ⟨hH, hro, her⟩ : ({ h2 with timer := 0, since := 0, halt := 19 } : Hnd) = H ∧ [] = rows ∧ err = 0 := by simpa [eq_comm] using HG2
                subst hro
                subst her
                have i7 : StepInv w base H S3 Ak k3n c3 n2 dk sl3 al (W6.setCell ⟨w.heap.size, 11, none⟩ (.int .i64 19)) := i6.put 11 _ (by rw [← hH]) (by rw [← hH]) (by rw [← hH]; rfl)
                have k11 := i6.2.2.1.cell' (i := 11) rfl
                obtain rfl : m1 = k3n := by rw [← M1.out, ← i7.1.out, List.length_map]; exact i7.2.2.2.2.1.len
                obtain rfl : m2 = n2 := by rw [← M2.out, ← i7.2.1.out, List.length_map]; exact i7.2.2.2.2.2.1.len
                obtain rfl : nR = 0 := by rw [← NR.out]; rfl
                clear hH hlim HG HG2 eL hl2 h0
                go_upto_region 32 with fail
                clear i6 kf k7 k8 k11
                generalize W6.setCell ⟨w.heap.size, 11, none⟩ (.int .i64 19) = W7 at *
                obtain ⟨r1, r2, r3, r4, r5, r6, r7, r8, r9, r10⟩ := i7
                go_wp2_with (first
                  | (refine wpList_load_row rfl 25 (.tmp 3) rfl (w.heap.size) rfl 25 #[.int .i64 H.craft, .int .i64 H.next, .int .i64 H.ahead, .slice S3 m1 c3, .slice Ak m2 dk, .int .i64 H.timer, .int .i64 H.patience, .int .i64 H.tries, .int .i64 H.limit, .int .i64 H.since, .int .i64 H.pause, .int .i64 H.halt] (0, 0) _ r3 Try.underlying25 rfl handsz ?_)
                  | (refine wpList_store_row rfl 25 (.tmp 6) (.tmp 25) rfl (w.heap.size + 1) #[.int .i64 H.craft, .int .i64 H.next, .int .i64 H.ahead, .slice S3 m1 c3, .slice Ak m2 dk, .int .i64 H.timer, .int .i64 H.patience, .int .i64 H.tries, .int .i64 H.limit, .int .i64 H.since, .int .i64 H.pause, .int .i64 H.halt] rfl rfl 25 _ r4 handsz rfl (hand_one H S3 m1 c3 Ak m2 dk) ?_)
                  | (refine wpList_store_row rfl 25 (.tmp 6) (.tmp 62) rfl (w.heap.size + 1) #[.int .i64 H.craft, .int .i64 H.next, .int .i64 H.ahead, .slice S3 m1 c3, .slice Ak m2 dk, .int .i64 H.timer, .int .i64 H.patience, .int .i64 H.tries, .int .i64 H.limit, .int .i64 H.since, .int .i64 H.pause, .int .i64 H.halt] rfl rfl 25 _ r4 handsz rfl (hand_one H S3 m1 c3 Ak m2 dk) ?_)
                  | (refine wpList_store_row rfl 25 (.tmp 6) (.tmp 75) rfl (w.heap.size + 1) #[.int .i64 H.craft, .int .i64 H.next, .int .i64 H.ahead, .slice S3 m1 c3, .slice Ak m2 dk, .int .i64 H.timer, .int .i64 H.patience, .int .i64 H.tries, .int .i64 H.limit, .int .i64 H.since, .int .i64 H.pause, .int .i64 H.halt] rfl rfl 25 _ r4 handsz rfl (hand_one H S3 m1 c3 Ak m2 dk) ?_)
                  | (refine wpList_store_row rfl 25 (.tmp 6) (.tmp 114) rfl (w.heap.size + 1) #[.int .i64 H.craft, .int .i64 H.next, .int .i64 H.ahead, .slice S3 m1 c3, .slice Ak m2 dk, .int .i64 H.timer, .int .i64 H.patience, .int .i64 H.tries, .int .i64 H.limit, .int .i64 H.since, .int .i64 H.pause, .int .i64 H.halt] rfl rfl 25 _ r4 handsz rfl (hand_one H S3 m1 c3 Ak m2 dk) ?_))
                have r4' := r4.row #[.int .i64 H.craft, .int .i64 H.next, .int .i64 H.ahead, .slice S3 m1 c3, .slice Ak m2 dk, .int .i64 H.timer, .int .i64 H.patience, .int .i64 H.tries, .int .i64 H.limit, .int .i64 H.since, .int .i64 H.pause, .int .i64 H.halt]
                refine bodyPost_ret (v := .tuple #[.agg #[.int .i64 H.craft, .int .i64 H.next, .int .i64 H.ahead, .slice S3 m1 c3, .slice Ak m2 dk, .int .i64 H.timer, .int .i64 H.patience, .int .i64 H.tries, .int .i64 H.limit, .int .i64 H.since, .int .i64 H.pause, .int .i64 H.halt], .slice none 0 0, .int .i64 0]) (results_cell_slot2 (ty := 25) Try.results17 _ _ (w.heap.size + 1) 25 _ (0, 0) _ rfl rfl rfl r4' Try.underlying25 rfl handsz) rfl ?_
                exact ⟨S3, c3, Ak, dk, none, 0, sl3, al, [], rfl, ⟨r1.out, r2.out, rfl⟩, (r5.lowRow (by omega) _).mono (by omega), (r6.lowRow (by omega) _).mono (by omega), OwnRs.nil _ _, r7, Disj.nil _ _, Disj.nil _ _, below_row r8 (by omega) _⟩
              · have hl1 : (h2.tries == h2.limit) = false := by rw [beq_eq_false_iff_ne]; exact hlim
                rw [if_neg hlim] at HG2
                have tL := tick_late t2 true
                rw [eL, if_neg hlim] at tL
                dsimp only at HG2 tL
                have w7 : IntKind.i64.wrap (h2.tries + 1) = h2.tries + 1 := by have := t2.2.2.2.2.2.2.2.2.2.1; have := t2.2.2.2.2.2.2.2.2.2.2.1; exact IntWalk.i64_in _ (by omega)
                obtain ⟨h3, hh3⟩ : ∃ x, ({ h2 with timer := 0, since := 0, tries := h2.tries + 1 } : Hnd) = x := ⟨_, rfl⟩
                have i7 : StepInv w base h3 S3 Ak k3n c3 n2 dk sl3 al (W6.setCell ⟨w.heap.size, 7, none⟩ (.int .i64 (h2.tries + 1))) := i6.put 7 _ (by rw [← hh3]) (by rw [← hh3]) (by rw [← hh3]; rfl)
                have ec : h2.craft = h3.craft := by rw [← hh3]
                have en : h2.next = h3.next := by rw [← hh3]
                have es : h2.sent = h3.sent := by rw [← hh3]
                rw [hh3] at HG2 tL
                rw [ec, en, es] at HG2
                have HG3 := Lib.hid HG2
                have hnx3 := tL.2.2.2.2.2.1
                clear hlim HG HG2 eL hl2 hh3 ec en es
                go_upto_region 34 with fail
                clear i6 kf k7 k8 w7
                generalize W6.setCell ⟨w.heap.size, 7, none⟩ (.int .i64 (h2.tries + 1)) = W7 at *
                obtain ⟨j0, hj0, hy0, hy1, hy2⟩ := info_parts rowsinfo
                have hsz : w.heap.size + 2 ≤ base := i7.2.2.2.2.2.2.2.2.1
                have hbW : base ≤ W7.heap.size := i7.2.2.2.2.2.2.2.2.2
                have hlS := fun (q : Nat) (hq : Touch S3 sl3 q) => i7.2.2.2.2.1.lt hq
                have hlA := fun (q : Nat) (hq : Touch Ak al q) => i7.2.2.2.2.2.1.lt hq
                go_wp2_with fail
                go_loopw [14, 15] (fun ov iv wr => ∃ (k : Nat) (R : Option Addr) (cR : Nat) (rl : List RowR), k ≤ k3n ∧ ov = .slice R k cR ∧ iv = .int .i64 (k : Int) ∧ Hid (rl.map RowR.b = upsB h3.craft (h3.next - (k3n : Int)) (h3.sent.take k)) ∧ OwnRs wr base R k cR rl ∧ (∀ q, Touch R rl q → W7.heap.size ≤ q) ∧ W7.heap.size ≤ wr.heap.size ∧ StepInv w base h3 S3 Ak k3n c3 n2 dk sl3 al wr) (fun _ iv _ => k3n - (intOf iv).toNat)
                case atStart => exact ⟨0, none, 0, [], Nat.zero_le _, rfl, rfl, Lib.hid (by simp [upsB]), OwnRs.nil _ _, fun q hq => (Disj.nil none [] q hq hq).elim, Nat.le_refl _, i7⟩
                case round =>
                  as_aux_lemma =>
                    clear i7
                    obtain ⟨k, R, cR, rl, hk, rfl, rfl, HRL, hOr, hRt, hzr, i8⟩ := hrel
                    have k3 := i8.2.2.1.cell' (i := 3) rfl
                    have hSL : sl3.length = k3n := i8.2.2.2.2.1.len
                    by_cases h5 : k < k3n
                    · have h5i : (k : Int) < (k3n : Int) := by omega
                      have hk0 : (0 : Int) ≤ (k : Int) := by omega
                      have hkl : k < sl3.length := by omega
                      have hx := List.getElem?_eq_getElem hkl
                      obtain ⟨x, hxx⟩ : ∃ x, sl3[k] = x := ⟨_, rfl⟩
                      rw [hxx] at hx
                      clear hxx
                      have hxa : h3.sent[k]? = some x.b := by rw [← i8.1.out, List.getElem?_map, hx]; rfl
                      have HTk : Hid (h3.sent.take (k + 1) = h3.sent.take k ++ [x.b]) := Lib.hid (by rw [List.take_add_one, hxa]; rfl)
                      have HTl : Hid ((h3.sent.take k).length = k) := Lib.hid (by rw [List.length_take, ← i8.1.out, List.length_map]; omega)
                      obtain ⟨gA, oA, rfl, hg1, hg2⟩ := i8.2.2.2.2.1.arr.form (by omega)
                      have e1 : wr.cell? ⟨gA, oA + k, none⟩ = some (.slice x.A x.b.length x.c) := i8.2.2.2.2.1.arr.cell (rowvs_get hx)
                      have hxO := i8.2.2.2.2.1.bs.1 k x hx
                      obtain ⟨nx, hnx⟩ : ∃ nx, x.b.length = nx := ⟨_, rfl⟩
                      obtain ⟨nb, hnb⟩ : ∃ nb, (upB h3.craft (h3.next - (k3n : Int) + (k : Int)) x.b).length = nb := ⟨_, rfl⟩
                      have HUP := Lib.hid (up_any h3 (some ⟨gA, oA, none⟩) Ak x.A k3n c3 n2 dk nx x.c nb (h3.next - (k3n : Int) + (k : Int)) x.b wr.drew hxO.rd.drew hnx (by omega) (by omega) hnb)
                      unfold hvn at HUP
                      have NB := Lib.hid hnb
                      rw [hnx] at e1
                      clear hnx hnb
                      have q4 : k + 1 ≤ maxLen := by unfold maxLen; omega
                      have q5' : (k + 1) * 24 ≤ 140737488355328 := by omega
                      have bB := i8.2.2.1
                      go_upto_region 37 with fail
                      obtain ⟨w1, w2⟩ : IntKind.i64.wrap (h3.next - (k3n : Int)) = h3.next - (k3n : Int) ∧ IntKind.i64.wrap (h3.next - (k3n : Int) + (k : Int)) = h3.next - (k3n : Int) + (k : Int) := ⟨IntWalk.i64_in _ (by omega), IntWalk.i64_in _ (by omega)⟩
                      refine heldRegion (fun v => Blk v w.heap.size 25 #[.int .i64 h3.craft, .int .i64 h3.next, .int .i64 h3.ahead, .slice (some ⟨gA, oA, none⟩) k3n c3, .slice Ak n2 dk, .int .i64 h3.timer, .int .i64 h3.patience, .int .i64 h3.tries, .int .i64 h3.limit, .int .i64 h3.since, .int .i64 h3.pause, .int .i64 h3.halt] ∧ v.cell? ⟨gA, oA + k, none⟩ = some (.slice x.A nx x.c)) 17 (by kernel_rfl) (by kernel_rfl) ⟨bB.drew, e1⟩ (fun hSS => ?_)
                      refine walk_take 0 (v := ?vatrue0) rfl (by kernel_rfl) (by kernel_rfl) (by kernel_rfl) (fun _ _ _ h => h) (hSS) (Or.inl ⟨by rfl, ?yatrue0⟩) ?ratrue0
                      case yatrue0 => intro w hSw; obtain ⟨hwB, hw99⟩ := id hSw; obtain ⟨hw0, hw1, hw2, hw3, hw4, hw5, hw6, hw7, hw8, hw9, hw10, hw11, hw12⟩ := Blk.twelve hwB; have hSx := hSw; (try dsimp only at hSw); go_simp; try rfl
                      case' ratrue0 => try simp only [List.getElem_toArray, List.getElem_cons_succ, List.getElem_cons_zero, Act.put, List.setIfInBounds_toArray, List.set_cons_zero, List.set_cons_succ]
                      refine walk_take 1 (v := ?vatrue1) rfl (by kernel_rfl) (by kernel_rfl) (by kernel_rfl) (fun _ _ _ h => h) (hSS) (Or.inl ⟨by rfl, ?yatrue1⟩) ?ratrue1
                      case yatrue1 => intro w hSw; obtain ⟨hwB, hw99⟩ := id hSw; obtain ⟨hw0, hw1, hw2, hw3, hw4, hw5, hw6, hw7, hw8, hw9, hw10, hw11, hw12⟩ := Blk.twelve hwB; have hSx := hSw; (try dsimp only at hSw); go_simp; try rfl
                      case' ratrue1 => try simp only [List.getElem_toArray, List.getElem_cons_succ, List.getElem_cons_zero, Act.put, List.setIfInBounds_toArray, List.set_cons_zero, List.set_cons_succ]
                      refine walk_take 2 (v := ?vatrue2) rfl (by kernel_rfl) (by kernel_rfl) (by kernel_rfl) (fun _ _ _ h => h) (hSS) (Or.inl ⟨by rfl, ?yatrue2⟩) ?ratrue2
                      case yatrue2 => intro w hSw; obtain ⟨hwB, hw99⟩ := id hSw; obtain ⟨hw0, hw1, hw2, hw3, hw4, hw5, hw6, hw7, hw8, hw9, hw10, hw11, hw12⟩ := Blk.twelve hwB; have hSx := hSw; (try dsimp only at hSw); go_simp; try rfl
                      case' ratrue2 => try simp only [List.getElem_toArray, List.getElem_cons_succ, List.getElem_cons_zero, Act.put, List.setIfInBounds_toArray, List.set_cons_zero, List.set_cons_succ]
                      refine walk_take 3 (v := ?vatrue3) rfl (by kernel_rfl) (by kernel_rfl) (by kernel_rfl) (fun _ _ _ h => h) (hSS) (Or.inl ⟨by rfl, ?yatrue3⟩) ?ratrue3
                      case yatrue3 => intro w hSw; obtain ⟨hwB, hw99⟩ := id hSw; obtain ⟨hw0, hw1, hw2, hw3, hw4, hw5, hw6, hw7, hw8, hw9, hw10, hw11, hw12⟩ := Blk.twelve hwB; have hSx := hSw; (try dsimp only at hSw); go_simp; try rfl
                      case' ratrue3 => try simp only [List.getElem_toArray, List.getElem_cons_succ, List.getElem_cons_zero, Act.put, List.setIfInBounds_toArray, List.set_cons_zero, List.set_cons_succ]
                      refine walk_take 4 (v := ?vatrue4) rfl (by kernel_rfl) (by kernel_rfl) (by kernel_rfl) (fun _ _ _ h => h) (hSS) (Or.inl ⟨by rfl, ?yatrue4⟩) ?ratrue4
                      case yatrue4 => intro w hSw; obtain ⟨hwB, hw99⟩ := id hSw; obtain ⟨hw0, hw1, hw2, hw3, hw4, hw5, hw6, hw7, hw8, hw9, hw10, hw11, hw12⟩ := Blk.twelve hwB; have hSx := hSw; (try dsimp only at hSw); go_simp; try rfl
                      case' ratrue4 => try simp only [List.getElem_toArray, List.getElem_cons_succ, List.getElem_cons_zero, Act.put, List.setIfInBounds_toArray, List.set_cons_zero, List.set_cons_succ]
                      refine walk_take 5 (v := ?vatrue5) rfl (by kernel_rfl) (by kernel_rfl) (by kernel_rfl) (fun _ _ _ h => h) (hSS) (Or.inl ⟨by rfl, ?yatrue5⟩) ?ratrue5
                      case yatrue5 => intro w hSw; obtain ⟨hwB, hw99⟩ := id hSw; obtain ⟨hw0, hw1, hw2, hw3, hw4, hw5, hw6, hw7, hw8, hw9, hw10, hw11, hw12⟩ := Blk.twelve hwB; have hSx := hSw; (try dsimp only at hSw); go_simp; try rfl
                      case' ratrue5 => try simp only [List.getElem_toArray, List.getElem_cons_succ, List.getElem_cons_zero, Act.put, List.setIfInBounds_toArray, List.set_cons_zero, List.set_cons_succ]
                      refine walk_take 6 (v := ?vatrue6) rfl (by kernel_rfl) (by kernel_rfl) (by kernel_rfl) (fun _ _ _ h => h) (hSS) (Or.inl ⟨by rfl, ?yatrue6⟩) ?ratrue6
                      case yatrue6 => intro w hSw; obtain ⟨hwB, hw99⟩ := id hSw; obtain ⟨hw0, hw1, hw2, hw3, hw4, hw5, hw6, hw7, hw8, hw9, hw10, hw11, hw12⟩ := Blk.twelve hwB; have hSx := hSw; (try dsimp only at hSw); go_simp; try rfl
                      case' ratrue6 => try simp only [List.getElem_toArray, List.getElem_cons_succ, List.getElem_cons_zero, Act.put, List.setIfInBounds_toArray, List.set_cons_zero, List.set_cons_succ]
                      refine walk_take 7 (v := ?vatrue7) rfl (by kernel_rfl) (by kernel_rfl) (by kernel_rfl) (fun _ _ _ h => h) (hSS) (Or.inl ⟨by rfl, ?yatrue7⟩) ?ratrue7
                      case yatrue7 => intro w hSw; obtain ⟨hwB, hw99⟩ := id hSw; obtain ⟨hw0, hw1, hw2, hw3, hw4, hw5, hw6, hw7, hw8, hw9, hw10, hw11, hw12⟩ := Blk.twelve hwB; have hSx := hSw; (try dsimp only at hSw); go_simp; try rfl
                      case' ratrue7 => try simp only [List.getElem_toArray, List.getElem_cons_succ, List.getElem_cons_zero, Act.put, List.setIfInBounds_toArray, List.set_cons_zero, List.set_cons_succ]
                      refine walk_take 8 (v := ?vatrue8) rfl (by kernel_rfl) (by kernel_rfl) (by kernel_rfl) (fun _ _ _ h => h) (hSS) (Or.inl ⟨by rfl, ?yatrue8⟩) ?ratrue8
                      case yatrue8 => intro w hSw; obtain ⟨hwB, hw99⟩ := id hSw; obtain ⟨hw0, hw1, hw2, hw3, hw4, hw5, hw6, hw7, hw8, hw9, hw10, hw11, hw12⟩ := Blk.twelve hwB; have hSx := hSw; (try dsimp only at hSw); go_simp; try rfl
                      case' ratrue8 => try simp only [List.getElem_toArray, List.getElem_cons_succ, List.getElem_cons_zero, Act.put, List.setIfInBounds_toArray, List.set_cons_zero, List.set_cons_succ]
                      refine walk_take 9 (v := ?vatrue9) rfl (by kernel_rfl) (by kernel_rfl) (by kernel_rfl) (fun _ _ _ h => h) (hSS) (Or.inl ⟨by rfl, ?yatrue9⟩) ?ratrue9
                      case yatrue9 => intro w hSw; obtain ⟨hwB, hw99⟩ := id hSw; obtain ⟨hw0, hw1, hw2, hw3, hw4, hw5, hw6, hw7, hw8, hw9, hw10, hw11, hw12⟩ := Blk.twelve hwB; have hSx := hSw; (try dsimp only at hSw); go_simp; try rfl
                      case' ratrue9 => try simp only [List.getElem_toArray, List.getElem_cons_succ, List.getElem_cons_zero, Act.put, List.setIfInBounds_toArray, List.set_cons_zero, List.set_cons_succ]
                      refine walk_take 10 (v := ?vatrue10) rfl (by kernel_rfl) (by kernel_rfl) (by kernel_rfl) (fun _ _ _ h => h) (hSS) (Or.inl ⟨by rfl, ?yatrue10⟩) ?ratrue10
                      case yatrue10 => intro w hSw; obtain ⟨hwB, hw99⟩ := id hSw; obtain ⟨hw0, hw1, hw2, hw3, hw4, hw5, hw6, hw7, hw8, hw9, hw10, hw11, hw12⟩ := Blk.twelve hwB; have hSx := hSw; (try dsimp only at hSw); go_simp; try rfl
                      case' ratrue10 => try simp only [List.getElem_toArray, List.getElem_cons_succ, List.getElem_cons_zero, Act.put, List.setIfInBounds_toArray, List.set_cons_zero, List.set_cons_succ]
                      refine walk_take 11 (v := ?vatrue11) rfl (by kernel_rfl) (by kernel_rfl) (by kernel_rfl) (fun _ _ _ h => h) (hSS) (Or.inl ⟨by rfl, ?yatrue11⟩) ?ratrue11
                      case yatrue11 => intro w hSw; obtain ⟨hwB, hw99⟩ := id hSw; obtain ⟨hw0, hw1, hw2, hw3, hw4, hw5, hw6, hw7, hw8, hw9, hw10, hw11, hw12⟩ := Blk.twelve hwB; have hSx := hSw; (try dsimp only at hSw); go_simp; try rfl
                      case' ratrue11 => try simp only [List.getElem_toArray, List.getElem_cons_succ, List.getElem_cons_zero, Act.put, List.setIfInBounds_toArray, List.set_cons_zero, List.set_cons_succ]
                      refine walk_take 12 (v := ?vatrue12) rfl (by kernel_rfl) (by kernel_rfl) (by kernel_rfl) (fun _ _ _ h => h) (hSS) (Or.inl ⟨by rfl, ?yatrue12⟩) ?ratrue12
                      case yatrue12 => intro w hSw; obtain ⟨hwB, hw99⟩ := id hSw; obtain ⟨hw0, hw1, hw2, hw3, hw4, hw5, hw6, hw7, hw8, hw9, hw10, hw11, hw12⟩ := Blk.twelve hwB; have hSx := hSw; (try dsimp only at hSw); go_simp; try rfl
                      case' ratrue12 => try simp only [List.getElem_toArray, List.getElem_cons_succ, List.getElem_cons_zero, Act.put, List.setIfInBounds_toArray, List.set_cons_zero, List.set_cons_succ]
                      refine walk_take 13 (v := ?vatrue13) rfl (by kernel_rfl) (by kernel_rfl) (by kernel_rfl) (fun _ _ _ h => h) (hSS) (Or.inl ⟨by rfl, ?yatrue13⟩) ?ratrue13
                      case yatrue13 => intro w hSw; obtain ⟨hwB, hw99⟩ := id hSw; obtain ⟨hw0, hw1, hw2, hw3, hw4, hw5, hw6, hw7, hw8, hw9, hw10, hw11, hw12⟩ := Blk.twelve hwB; have hSx := hSw; (try dsimp only at hSw); go_simp; try rfl
                      case' ratrue13 => try simp only [List.getElem_toArray, List.getElem_cons_succ, List.getElem_cons_zero, Act.put, List.setIfInBounds_toArray, List.set_cons_zero, List.set_cons_succ]
                      refine walk_take 14 (v := ?vatrue14) rfl (by kernel_rfl) (by kernel_rfl) (by kernel_rfl) (fun _ _ _ h => h) (hSS) (Or.inl ⟨by rfl, ?yatrue14⟩) ?ratrue14
                      case yatrue14 => intro w hSw; obtain ⟨hwB, hw99⟩ := id hSw; obtain ⟨hw0, hw1, hw2, hw3, hw4, hw5, hw6, hw7, hw8, hw9, hw10, hw11, hw12⟩ := Blk.twelve hwB; have hSx := hSw; (try dsimp only at hSw); go_simp; try rfl
                      case' ratrue14 => try simp only [List.getElem_toArray, List.getElem_cons_succ, List.getElem_cons_zero, Act.put, List.setIfInBounds_toArray, List.set_cons_zero, List.set_cons_succ]
                      refine walk_step 15 rfl (by kernel_rfl) (by kernel_rfl) (fun K hK => ?uptrue)
                      case uptrue =>
                        go_simp
                        refine HUP.out.mono ?_
                        rintro e v2 ⟨Ab, cb, rfl, hOb, hb⟩
                        have hbd : Below wr.heap.size wr v2 := ((Below.refl wr.heap.size wr).drew).trans hb
                        have hob := hOb.lt
                        have zv := hbd.size
                        have b4 : Below wr.heap.size wr (v2.alloc (.cells #[.slice Ab nb cb] 26)) := hbd.alloc zv _
                        have i9 := i8.step b4
                        have hOr4 := hOr.step b4
                        have hb4 := (hOb.alloc (.cells #[.slice Ab nb cb] 26)).mono (base' := base) (by have : base ≤ wr.heap.size := i8.2.2.2.2.2.2.2.2.2; show base ≤ wr.heap.size; omega)
                        have hR4 := Rd_new v2 [.slice Ab nb cb] 26
                        have hlr := fun (q : Nat) (hq : Touch R rl q) => (hOr.lt hq).2
                        have hbz : base ≤ (v2.alloc (.cells #[.slice Ab nb cb] 26)).heap.size := i9.2.2.2.2.2.2.2.2.2
                        have e1v := (hbd.cell (p := ⟨gA, oA + k, none⟩) hg2).trans e1
                        refine hK _ _ ⟨bB.step hbd, e1v⟩ ?_
                        clear hK K hSS w1 w2 k3 HUP
                        try simp only [List.getElem_toArray, List.getElem_cons_succ, List.getElem_cons_zero, Act.put, List.setIfInBounds_toArray, List.set_cons_zero, List.set_cons_succ]
                        refine walk_step 16 rfl (by kernel_rfl) (by kernel_rfl) (fun K hK => ?butrue)
                        case butrue =>
                          go_simp
                          refine hK _ _ ⟨(bB.step b4), (b4.cell (p := ⟨gA, oA + k, none⟩) hg2).trans e1⟩ ?_
                          clear hK K e1 e1v
                          try simp only [List.getElem_toArray, List.getElem_cons_succ, List.getElem_cons_zero, Act.put, List.setIfInBounds_toArray, List.set_cons_zero, List.set_cons_succ]
                          refine walk_tail (by kernel_rfl) ?_
                          simp only [List.drop_succ_cons, List.drop_zero]
                          go_wp2_with (first
                            | (at_builtin; refine wpList_append_Own (v2.alloc (.cells #[.slice Ab nb cb] 26)) rfl (.tmp 126) (.tmp 142) 22 rfl base 26 j0 _ 1 24 Try.underlying22 hj0 hy0 hy1 hy2 rfl R k cR (rowvs rl) rfl hOr4.arr (some ⟨v2.heap.size, 0, none⟩) 1 1 [.slice Ab nb cb] rfl rfl hR4 (one_slice Ab nb cb) q4 q5' hbz ?_; intro B6 d6 w6 hB6 hg6 hor6))
                          have hx6 := add_row (x := ⟨upB h3.craft (h3.next - (k3n : Int) + (k : Int)) x.b, Ab, cb⟩) hOr4.bs (by show Own _ _ _ _ Ab (upB h3.craft (h3.next - (k3n : Int) + (k : Int)) x.b).length cb _; rw [NB.out]; exact hb4) hOr4.arr hg6 (m := wr.heap.size) (fun i y hy q hq => (hOr.bs.lt hy hq).2) (fun q hq => (hob q hq).1) (by show Own _ _ _ _ _ _ _ (rowvs rl ++ [.slice Ab (upB h3.craft (h3.next - (k3n : Int) + (k : Int)) x.b).length cb]); rw [NB.out]; exact hB6)
                          have i10 := i9.grown hg6 (fun q hq => by
                            have h1 := hRt q (.inl hq)
                            refine ⟨by omega, fun ht => ?_, fun ht => ?_⟩
                            · have := (hlS q ht).2; omega
                            · have := (hlA q ht).2; omega)
                          have z6 := hg6.size
                          have z4 := b4.size
                          go_roundw
                          case rel =>
                            refine ⟨k + 1, B6, d6, _, by omega, rfl, by go_num, Lib.hid ?_, hx6, ?_, by omega, i10⟩
                            · rw [List.map_append, HRL.out, HTk.out, upsB_snoc, HTl.out]; rfl
                            · rintro q (hq | ⟨i, r, hr, hq⟩)
                              · rcases hor6 with e | e
                                · rw [e] at hq; exact hRt q (.inl hq)
                                · rw [e] at hq; have := Option.some.inj hq; omega
                              · rcases Nat.lt_or_ge i rl.length with h6 | h6
                                · rw [List.getElem?_append_left h6] at hr
                                  exact hRt q (.inr ⟨i, r, hr, hq⟩)
                                · have hi := (List.getElem?_eq_some_iff.1 hr).1
                                  rw [List.length_append, List.length_singleton] at hi
                                  rw [List.getElem?_append_right h6, show i - rl.length = 0 by omega] at hr
                                  injection hr with hr
                                  subst hr
                                  have := (hob q hq).1
                                  have : wr.heap.size ≤ q := this
                                  omega
                          case measure => simp [intOf]; omega
                    · obtain rfl : k = k3n := by omega
                      have h5i : ¬ (k : Int) < (k : Int) := by omega
                      go_wp2_with fail
                      go_meet
                      refine ⟨h3, R, k, cR, rl, _, rfl, rfl, tL, i8, hOr, fun q h1 h2 => by have := hRt q h2; have := (hlS q h1).2; omega, fun q h1 h2 => by have := hRt q h2; have := (hlA q h1).2; omega, by omega, Lib.hid ?_⟩
                      have e7 : h3.sent.take k = h3.sent := List.take_of_length_le (by rw [← i8.1.out, List.length_map]; omega)
                      have e8 := HRL.out
                      rw [e7] at e8
                      rw [e8]
                      simpa using HG3.out
      -- BEHIND WHAT WAS LATE
      obtain ⟨h3, R3, nR3, cR3, rl3, W6, rfl, rfl, t3, i6, hOr3, dsr, dar, hn3, HG3⟩ := hcut
      clear HG t2 k3 k5 kf i5 hl2 hlen
      have hl3 : h3.sent.length = k3n := by rw [← i6.1.out, List.length_map]; exact i6.2.2.2.2.1.len
      have hla : h3.asked.length = n2 := by rw [← i6.2.1.out, List.length_map]; exact i6.2.2.2.2.2.1.len
      obtain ⟨N, hN⟩ : ∃ N, moreN h3 = N := ⟨_, rfl⟩
      have hN1 : (N : Int) ≤ h3.ahead - k3n := by have := t3.1; rw [← hN]; unfold moreN; rw [hl3]; omega
      have hN2 : N ≤ n2 := by rw [← hN, ← hla]; exact Nat.min_le_right _ _
      have hN3 : N = n2 ∨ (N : Int) = h3.ahead - k3n := by have := t3.1; rw [← hN]; unfold moreN; rw [hl3, hla]; omega
      have t31 := t3.1
      have t32 := t3.2.1
      have t33 := t3.2.2.1
      have hnx3 := t3.2.2.2.2.2.1
      rw [hl3] at t31
      rw [hla] at t33
      obtain ⟨j0, hj0, hy0, hy1, hy2⟩ := info_parts rowsinfo
      have hmd : moreH h3 = (moreK h3 N, upsB h3.craft h3.next (h3.asked.take N)) := by unfold moreH; rw [hN]
      rw [hmd] at HG3
      have HSL := Lib.hid i6.2.2.2.2.1.len
      have HAL := Lib.hid i6.2.2.2.2.2.1.len
      have start : MoreInv w base h3 k3n n2 nR3 sl3 al rl3 W6.heap.size 0 (.slice R3 nR3 cR3) W6 := by
        refine ⟨S3, c3, Ak, dk, R3, cR3, rl3, rfl, ?_, hOr3, Lib.hid (by simp [upsB]), by simpa using dsr, by simpa using dar, Nat.le_refl _⟩
        rw [show moreK h3 0 = h3 by unfold moreK; rw [show (h3.next + ((0 : Nat) : Int)) % 256 = h3.next by omega]; simp]
        simpa using i6
      clear i6 hOr3 dsr dar hmd hN
      go_wp2_with fail
      go_loopw [14] (fun ov wr => ∃ k : Nat, k ≤ N ∧ (wa = true → k = 0) ∧ MoreInv w base h3 k3n n2 nR3 sl3 al rl3 W6.heap.size k ov wr) (fun ov _ => nR3 + N - sliceLen ov)
      case atStart => exact ⟨0, Nat.zero_le _, fun _ => rfl, start⟩
      case round =>
        as_aux_lemma =>
          clear start
          obtain ⟨k, hk, hwk, S6, c6, A6, d6, R, cR, rl, rfl, i8, hOr, HRL, dsr, dar, hzr⟩ := hrel
          obtain ⟨ks, hks⟩ : ∃ x, k3n + k = x := ⟨_, rfl⟩
          obtain ⟨ka, hka⟩ : ∃ x, n2 - k = x := ⟨_, rfl⟩
          rw [hks, hka] at i8
          have k2 := i8.2.2.1.cell' (i := 2) rfl
          have k3 := i8.2.2.1.cell' (i := 3) rfl
          have k4 := i8.2.2.1.cell' (i := 4) rfl
          cases wa
          · by_cases h5 : k < N
            · have l1 : (ks : Int) < h3.ahead := by omega
              have l2 : (0 : Int) < (ka : Int) := by omega

              go_upto_region 40 with fail
              obtain ⟨hk3, hkk⟩ : ∃ x, moreK h3 k = x := ⟨_, rfl⟩
              have hkc := Lib.hid (show hk3.craft = h3.craft by rw [← hkk]; rfl)
              have hkn := Lib.hid (show hk3.next = (h3.next + (k : Int)) % 256 by rw [← hkk]; rfl)
              have hkr : 0 ≤ hk3.next ∧ hk3.next ≤ 255 := by rw [hkn.out]; omega
              have HKK := Lib.hid hkk
              have HKS := Lib.hid hks
              have HKA := Lib.hid hka
              rw [hkk] at i8
              clear hkk
              have hkl : k < al.length := by have := HAL.out; omega
              have hx := List.getElem?_eq_getElem hkl
              obtain ⟨x, hxx⟩ : ∃ x, al[k] = x := ⟨_, rfl⟩
              rw [hxx] at hx
              clear hxx
              have hx0 : (al.drop k)[0]? = some x := by rw [List.getElem?_drop]; exact hx
              obtain ⟨gA, oA, rfl, hg1, hg2⟩ := i8.2.2.2.2.2.1.arr.form (by have := i8.2.2.2.2.2.1.arr.le; omega)
              have e1 : wr.cell? ⟨gA, oA, none⟩ = some (.slice x.A x.b.length x.c) := i8.2.2.2.2.2.1.arr.cell (rowvs_get hx0)
              have hxO := i8.2.2.2.2.2.1.bs.1 0 x hx0
              obtain ⟨nx, hnx⟩ : ∃ nx, x.b.length = nx := ⟨_, rfl⟩
              obtain ⟨nb, hnb⟩ : ∃ nb, (upB hk3.craft hk3.next x.b).length = nb := ⟨_, rfl⟩
              have HUP := Lib.hid (up_any hk3 S6 (some ⟨gA, oA, none⟩) x.A ks c6 ka d6 nx x.c nb hk3.next x.b wr.drew hxO.rd.drew hnx (by omega) (by omega) hnb)
              unfold hvn at HUP
              have NB := Lib.hid hnb
              have NX := Lib.hid hnx
              rw [hnx] at e1
              clear hnx hnb
              have bB := i8.2.2.1
              refine heldRegion (fun v => Blk v w.heap.size 25 #[.int .i64 hk3.craft, .int .i64 hk3.next, .int .i64 hk3.ahead, .slice S6 ks c6, .slice (some ⟨gA, oA, none⟩) ka d6, .int .i64 hk3.timer, .int .i64 hk3.patience, .int .i64 hk3.tries, .int .i64 hk3.limit, .int .i64 hk3.since, .int .i64 hk3.pause, .int .i64 hk3.halt] ∧ v.cell? ⟨gA, oA, none⟩ = some (.slice x.A nx x.c)) 10 (by kernel_rfl) (by kernel_rfl) ⟨bB.drew, e1⟩ (fun hSS => ?_)
              refine walk_take 0 (v := ?vm0) rfl (by kernel_rfl) (by kernel_rfl) (by kernel_rfl) (fun _ _ _ h => h) (hSS) (Or.inl ⟨by rfl, ?ym0⟩) ?rm0
              case ym0 => intro w hSw; obtain ⟨hwB, hw99⟩ := id hSw; obtain ⟨hw0, hw1, hw2, hw3, hw4, hw5, hw6, hw7, hw8, hw9, hw10, hw11, hw12⟩ := Blk.twelve hwB; have hSx := hSw; (try dsimp only at hSw); go_simp; try rfl
              case' rm0 => try simp only [List.getElem_toArray, List.getElem_cons_succ, List.getElem_cons_zero, Act.put, List.setIfInBounds_toArray, List.set_cons_zero, List.set_cons_succ]
              refine walk_take 1 (v := ?vm1) rfl (by kernel_rfl) (by kernel_rfl) (by kernel_rfl) (fun _ _ _ h => h) (hSS) (Or.inl ⟨by rfl, ?ym1⟩) ?rm1
              case ym1 => intro w hSw; obtain ⟨hwB, hw99⟩ := id hSw; obtain ⟨hw0, hw1, hw2, hw3, hw4, hw5, hw6, hw7, hw8, hw9, hw10, hw11, hw12⟩ := Blk.twelve hwB; have hSx := hSw; (try dsimp only at hSw); go_simp; try rfl
              case' rm1 => try simp only [List.getElem_toArray, List.getElem_cons_succ, List.getElem_cons_zero, Act.put, List.setIfInBounds_toArray, List.set_cons_zero, List.set_cons_succ]
              refine walk_take 2 (v := ?vm2) rfl (by kernel_rfl) (by kernel_rfl) (by kernel_rfl) (fun _ _ _ h => h) (hSS) (Or.inl ⟨by rfl, ?ym2⟩) ?rm2
              case ym2 => intro w hSw; obtain ⟨hwB, hw99⟩ := id hSw; obtain ⟨hw0, hw1, hw2, hw3, hw4, hw5, hw6, hw7, hw8, hw9, hw10, hw11, hw12⟩ := Blk.twelve hwB; have hSx := hSw; (try dsimp only at hSw); go_simp; try rfl
              case' rm2 => try simp only [List.getElem_toArray, List.getElem_cons_succ, List.getElem_cons_zero, Act.put, List.setIfInBounds_toArray, List.set_cons_zero, List.set_cons_succ]
              refine walk_take 3 (v := ?vm3) rfl (by kernel_rfl) (by kernel_rfl) (by kernel_rfl) (fun _ _ _ h => h) (hSS) (Or.inl ⟨by rfl, ?ym3⟩) ?rm3
              case ym3 => intro w hSw; obtain ⟨hwB, hw99⟩ := id hSw; obtain ⟨hw0, hw1, hw2, hw3, hw4, hw5, hw6, hw7, hw8, hw9, hw10, hw11, hw12⟩ := Blk.twelve hwB; have hSx := hSw; (try dsimp only at hSw); go_simp; try rfl
              case' rm3 => try simp only [List.getElem_toArray, List.getElem_cons_succ, List.getElem_cons_zero, Act.put, List.setIfInBounds_toArray, List.set_cons_zero, List.set_cons_succ]
              refine walk_take 4 (v := ?vm4) rfl (by kernel_rfl) (by kernel_rfl) (by kernel_rfl) (fun _ _ _ h => h) (hSS) (Or.inl ⟨by rfl, ?ym4⟩) ?rm4
              case ym4 => intro w hSw; obtain ⟨hwB, hw99⟩ := id hSw; obtain ⟨hw0, hw1, hw2, hw3, hw4, hw5, hw6, hw7, hw8, hw9, hw10, hw11, hw12⟩ := Blk.twelve hwB; have hSx := hSw; (try dsimp only at hSw); go_simp; try rfl
              case' rm4 => try simp only [List.getElem_toArray, List.getElem_cons_succ, List.getElem_cons_zero, Act.put, List.setIfInBounds_toArray, List.set_cons_zero, List.set_cons_succ]
              refine walk_take 5 (v := ?vm5) rfl (by kernel_rfl) (by kernel_rfl) (by kernel_rfl) (fun _ _ _ h => h) (hSS) (Or.inl ⟨by rfl, ?ym5⟩) ?rm5
              case ym5 => intro w hSw; obtain ⟨hwB, hw99⟩ := id hSw; obtain ⟨hw0, hw1, hw2, hw3, hw4, hw5, hw6, hw7, hw8, hw9, hw10, hw11, hw12⟩ := Blk.twelve hwB; have hSx := hSw; (try dsimp only at hSw); go_simp; try rfl
              case' rm5 => try simp only [List.getElem_toArray, List.getElem_cons_succ, List.getElem_cons_zero, Act.put, List.setIfInBounds_toArray, List.set_cons_zero, List.set_cons_succ]
              refine walk_take 6 (v := ?vm6) rfl (by kernel_rfl) (by kernel_rfl) (by kernel_rfl) (fun _ _ _ h => h) (hSS) (Or.inl ⟨by rfl, ?ym6⟩) ?rm6
              case ym6 => intro w hSw; obtain ⟨hwB, hw99⟩ := id hSw; obtain ⟨hw0, hw1, hw2, hw3, hw4, hw5, hw6, hw7, hw8, hw9, hw10, hw11, hw12⟩ := Blk.twelve hwB; have hSx := hSw; (try dsimp only at hSw); go_simp; try rfl
              case' rm6 => try simp only [List.getElem_toArray, List.getElem_cons_succ, List.getElem_cons_zero, Act.put, List.setIfInBounds_toArray, List.set_cons_zero, List.set_cons_succ]
              refine walk_take 7 (v := ?vm7) rfl (by kernel_rfl) (by kernel_rfl) (by kernel_rfl) (fun _ _ _ h => h) (hSS) (Or.inl ⟨by rfl, ?ym7⟩) ?rm7
              case ym7 => intro w hSw; obtain ⟨hwB, hw99⟩ := id hSw; obtain ⟨hw0, hw1, hw2, hw3, hw4, hw5, hw6, hw7, hw8, hw9, hw10, hw11, hw12⟩ := Blk.twelve hwB; have hSx := hSw; (try dsimp only at hSw); go_simp; try rfl
              case' rm7 => try simp only [List.getElem_toArray, List.getElem_cons_succ, List.getElem_cons_zero, Act.put, List.setIfInBounds_toArray, List.set_cons_zero, List.set_cons_succ]
              have q4 : nR3 + k + 1 ≤ maxLen := by unfold maxLen; omega
              have q5' : (nR3 + k + 1) * 24 ≤ 140737488355328 := by omega

              refine walk_step 8 rfl (by kernel_rfl) (by kernel_rfl) (fun K hK => ?upm)
              case upm =>
                go_simp
                refine HUP.out.mono ?_
                rintro e v2 ⟨Ab, cb, rfl, hOb, hb⟩
                have hbd : Below wr.heap.size wr v2 := ((Below.refl wr.heap.size wr).drew).trans hb
                have hob := hOb.lt
                have zv := hbd.size
                have b4 : Below wr.heap.size wr (v2.alloc (.cells #[.slice Ab nb cb] 26)) := hbd.alloc zv _
                have i9 := i8.step b4
                have hOr4 := hOr.step b4
                have hb4 := (hOb.alloc (.cells #[.slice Ab nb cb] 26)).mono (base' := base) (by have : base ≤ wr.heap.size := i8.2.2.2.2.2.2.2.2.2; show base ≤ wr.heap.size; omega)
                have hR4 := Rd_new v2 [.slice Ab nb cb] 26
                have hbz : base ≤ (v2.alloc (.cells #[.slice Ab nb cb] 26)).heap.size := i9.2.2.2.2.2.2.2.2.2
                have e1v := (hbd.cell (p := ⟨gA, oA, none⟩) hg2).trans e1
                refine hK _ _ ⟨bB.step hbd, e1v⟩ ?_
                clear hK K hSS k2 k3 k4 HUP
                try simp only [List.getElem_toArray, List.getElem_cons_succ, List.getElem_cons_zero, Act.put, List.setIfInBounds_toArray, List.set_cons_zero, List.set_cons_succ]
                refine walk_step 9 rfl (by kernel_rfl) (by kernel_rfl) (fun K hK => ?bum)
                case bum =>
                  go_simp
                  refine hK _ _ ⟨bB.step b4, (b4.cell (p := ⟨gA, oA, none⟩) hg2).trans e1⟩ ?_
                  clear hK K e1v
                  try simp only [List.getElem_toArray, List.getElem_cons_succ, List.getElem_cons_zero, Act.put, List.setIfInBounds_toArray, List.set_cons_zero, List.set_cons_succ]
                  refine walk_tail (by kernel_rfl) ?_
                  simp only [List.drop_succ_cons, List.drop_zero]

                  go_upto_region 41 with (first
                    | (at_builtin; refine wpList_append_Own (v2.alloc (.cells #[.slice Ab nb cb] 26)) rfl (.tmp 164) (.tmp 173) 22 rfl base 26 j0 _ 1 24 Try.underlying22 hj0 hy0 hy1 hy2 rfl R (nR3 + k) cR (rowvs rl) rfl hOr4.arr (some ⟨v2.heap.size, 0, none⟩) 1 1 [.slice Ab nb cb] rfl rfl hR4 (one_slice Ab nb cb) q4 q5' hbz ?_; intro B6 d7 w6 hB6 hg6 hor6))

                  have hx6 := add_row (x := ⟨upB hk3.craft hk3.next x.b, Ab, cb⟩) hOr4.bs (by show Own _ _ _ _ Ab (upB hk3.craft hk3.next x.b).length cb _; rw [NB.out]; exact hb4) hOr4.arr hg6 (m := wr.heap.size) (fun i y hy q hq => (hOr.bs.lt hy hq).2) (fun q hq => (hob q hq).1) (by show Own _ _ _ _ _ _ _ (rowvs rl ++ [.slice Ab (upB hk3.craft hk3.next x.b).length cb]); rw [NB.out]; exact hB6)

                  have i10 := i9.grown hg6 (fun q hq => ⟨(hOr.lt (.inl hq)).1, fun ht => dsr q ht (.inl hq), fun ht => dar q ht (.inl hq)⟩)

                  have z6 := hg6.size
                  have z4 := b4.size
                  have hltS := fun (q : Nat) (hq : Touch S6 (sl3 ++ al.take k) q) => (i8.2.2.2.2.1.lt hq).2
                  have hltA := fun (q : Nat) (hq : Touch (some ⟨gA, oA, none⟩) (al.drop k) q) => (i8.2.2.2.2.2.1.lt hq).2

                  have hob1 : ∀ q, blk Ab = some q → wr.heap.size ≤ q := fun q hq => (hob q hq).1

                  obtain ⟨m6, hm6, hle6⟩ : ∃ m6, (blk B6 = blk R ∨ blk B6 = some m6) ∧ wr.heap.size ≤ m6 := ⟨_, hor6.imp (fun e => by rw [e]) id, z4⟩

                  clear hor6
                  have dsr6 : Disj S6 (sl3 ++ al.take k) B6 (rl ++ [(⟨upB hk3.craft hk3.next x.b, Ab, cb⟩ : RowR)]) := disj_grown dsr hltS hm6 hle6 hob1

                  have dar6 : Disj (some ⟨gA, oA, none⟩) (al.drop k) B6 (rl ++ [(⟨upB hk3.craft hk3.next x.b, Ab, cb⟩ : RowR)]) := disj_grown dar hltA hm6 hle6 hob1

                  have hxa : h3.asked[k]? = some x.b := by
                    have h1 : hk3.asked = h3.asked.drop k := by rw [← HKK.out]; rfl
                    have h2 := i10.2.1.out
                    have h3' : (hk3.asked)[0]? = some x.b := by rw [← h2, List.getElem?_map, hx0]; rfl
                    rw [h1, List.getElem?_drop] at h3'
                    exact h3'
                  obtain ⟨rl6, hrl6⟩ : ∃ y, rl ++ [(⟨upB hk3.craft hk3.next x.b, Ab, cb⟩ : RowR)] = y := ⟨_, rfl⟩
                  have HRL6 : Hid (rl6.map RowR.b = rl3.map RowR.b ++ upsB h3.craft h3.next (h3.asked.take (k + 1))) := Lib.hid (by
                    have hl : (h3.asked.take k).length = k := by rw [List.length_take]; omega
                    rw [← hrl6, List.map_append, HRL.out, List.take_add_one, hxa, List.append_assoc]
                    show _ = _ ++ upsB _ _ (_ ++ [x.b])
                    rw [upsB_snoc, hl, hkc.out, hkn.out]
                    show _ ++ (_ ++ [upB h3.craft ((h3.next + (k : Int)) % 256) x.b]) = _ ++ (_ ++ [upB h3.craft (h3.next + (k : Int)) x.b])
                    unfold upB
                    rw [Int.emod_emod_of_dvd _ (by decide)])
                  rw [hrl6] at hx6 dsr6 dar6

                  have e6 : w6.cell? ⟨gA, oA, none⟩ = some (.slice x.A x.b.length x.c) := i10.2.2.2.2.2.1.arr.cell (rowvs_get hx0)
                  have hxk : x.b.length = nx := NX.out
                  rw [hxk] at e6
                  clear hxk
                  have z66 : wr.heap.size ≤ w6.heap.size := Nat.le_trans z4 z6
                  clear hrl6 i8 i9 hOr hOr4 hb4 hR4 dsr dar hltS hltA hob zv b4 hbd hB6 hg6 e1 HRL hOb hb bB z6 z4 hbz q4 q5' hxO hg1 hg2 HG3
                  have i11 : StepInv w base hk3 S6 (some ⟨gA, oA, none⟩) ks c6 ka d6 (sl3 ++ al.take k) (al.drop k) w6.drew := i10.drewN 1
                  have hx11 : OwnRs w6.drew base B6 (nR3 + k + 1) d7 rl6 := hx6.drewN 1
                  have e11 : w6.drew.cell? ⟨gA, oA, none⟩ = some (.slice x.A nx x.c) := e6
                  have z11 : wr.heap.size ≤ w6.drew.heap.size := z66
                  have bB := i11.2.2.1
                  clear i10 hx6 e6 z66

                  refine heldRegion (fun v => Blk v w.heap.size 25 #[.int .i64 hk3.craft, .int .i64 hk3.next, .int .i64 hk3.ahead, .slice S6 ks c6, .slice (some ⟨gA, oA, none⟩) ka d6, .int .i64 hk3.timer, .int .i64 hk3.patience, .int .i64 hk3.tries, .int .i64 hk3.limit, .int .i64 hk3.since, .int .i64 hk3.pause, .int .i64 hk3.halt] ∧ v.cell? ⟨gA, oA, none⟩ = some (.slice x.A nx x.c)) 9 (by kernel_rfl) (by kernel_rfl) ⟨bB, e11⟩ (fun hSS => ?_)

                  generalize w6.drew = v6 at *

                  have b7 : Below v6.heap.size v6 (v6.alloc (.cells #[.slice x.A nx x.c] 26)) := (Below.refl _ _).alloc (Nat.le_refl _) _
                  have i12 := i11.step b7
                  have hx12 := hx11.step b7
                  have hS12 := i12.2.2.2.2.1.arr
                  have p12 := i12.2.2.1
                  have e12 : (v6.alloc (.cells #[.slice x.A nx x.c] 26)).cell? ⟨gA, oA, none⟩ = some (.slice x.A nx x.c) := by have := i12.2.2.2.2.2.1.arr.cell (rowvs_get hx0); rw [NX.out] at this; exact this
                  have hR7 := Rd_new v6 [.slice x.A nx x.c] 26
                  have hbz7 : base ≤ (v6.alloc (.cells #[.slice x.A nx x.c] 26)).heap.size := i12.2.2.2.2.2.2.2.2.2
                  have hnS : blk S6 ≠ some w.heap.size := hS12.notBlk p12 (by decide)
                  have q6 : ks + 1 ≤ maxLen := by unfold maxLen; omega
                  have q7 : (ks + 1) * 24 ≤ 140737488355328 := by omega

                  refine walk_take 0 (v := ?vn0) rfl (by kernel_rfl) (by kernel_rfl) (by kernel_rfl) (fun _ _ _ h => h) (hSS) (Or.inl ⟨by rfl, ?yn0⟩) ?rn0
                  case yn0 => intro w hSw; obtain ⟨hwB, hw99⟩ := id hSw; obtain ⟨hw0, hw1, hw2, hw3, hw4, hw5, hw6, hw7, hw8, hw9, hw10, hw11, hw12⟩ := Blk.twelve hwB; have hSx := hSw; (try dsimp only at hSw); go_simp; try rfl
                  case' rn0 => try simp only [List.getElem_toArray, List.getElem_cons_succ, List.getElem_cons_zero, Act.put, List.setIfInBounds_toArray, List.set_cons_zero, List.set_cons_succ]
                  refine walk_take 1 (v := ?vn1) rfl (by kernel_rfl) (by kernel_rfl) (by kernel_rfl) (fun _ _ _ h => h) (hSS) (Or.inl ⟨by rfl, ?yn1⟩) ?rn1
                  case yn1 => intro w hSw; obtain ⟨hwB, hw99⟩ := id hSw; obtain ⟨hw0, hw1, hw2, hw3, hw4, hw5, hw6, hw7, hw8, hw9, hw10, hw11, hw12⟩ := Blk.twelve hwB; have hSx := hSw; (try dsimp only at hSw); go_simp; try rfl
                  case' rn1 => try simp only [List.getElem_toArray, List.getElem_cons_succ, List.getElem_cons_zero, Act.put, List.setIfInBounds_toArray, List.set_cons_zero, List.set_cons_succ]
                  refine walk_take 2 (v := ?vn2) rfl (by kernel_rfl) (by kernel_rfl) (by kernel_rfl) (fun _ _ _ h => h) (hSS) (Or.inl ⟨by rfl, ?yn2⟩) ?rn2
                  case yn2 => intro w hSw; obtain ⟨hwB, hw99⟩ := id hSw; obtain ⟨hw0, hw1, hw2, hw3, hw4, hw5, hw6, hw7, hw8, hw9, hw10, hw11, hw12⟩ := Blk.twelve hwB; have hSx := hSw; (try dsimp only at hSw); go_simp; try rfl
                  case' rn2 => try simp only [List.getElem_toArray, List.getElem_cons_succ, List.getElem_cons_zero, Act.put, List.setIfInBounds_toArray, List.set_cons_zero, List.set_cons_succ]
                  refine walk_take 3 (v := ?vn3) rfl (by kernel_rfl) (by kernel_rfl) (by kernel_rfl) (fun _ _ _ h => h) (hSS) (Or.inl ⟨by rfl, ?yn3⟩) ?rn3
                  case yn3 => intro w hSw; obtain ⟨hwB, hw99⟩ := id hSw; obtain ⟨hw0, hw1, hw2, hw3, hw4, hw5, hw6, hw7, hw8, hw9, hw10, hw11, hw12⟩ := Blk.twelve hwB; have hSx := hSw; (try dsimp only at hSw); go_simp; try rfl
                  case' rn3 => try simp only [List.getElem_toArray, List.getElem_cons_succ, List.getElem_cons_zero, Act.put, List.setIfInBounds_toArray, List.set_cons_zero, List.set_cons_succ]
                  refine walk_take 4 (v := ?vn4) rfl (by kernel_rfl) (by kernel_rfl) (by kernel_rfl) (fun _ _ _ h => h) (hSS) (Or.inl ⟨by rfl, ?yn4⟩) ?rn4
                  case yn4 => intro w hSw; obtain ⟨hwB, hw99⟩ := id hSw; obtain ⟨hw0, hw1, hw2, hw3, hw4, hw5, hw6, hw7, hw8, hw9, hw10, hw11, hw12⟩ := Blk.twelve hwB; have hSx := hSw; (try dsimp only at hSw); go_simp; try rfl
                  case' rn4 => try simp only [List.getElem_toArray, List.getElem_cons_succ, List.getElem_cons_zero, Act.put, List.setIfInBounds_toArray, List.set_cons_zero, List.set_cons_succ]
                  refine walk_take 5 (v := ?vn5) rfl (by kernel_rfl) (by kernel_rfl) (by kernel_rfl) (fun _ _ _ h => h) (hSS) (Or.inl ⟨by rfl, ?yn5⟩) ?rn5
                  case yn5 => intro w hSw; obtain ⟨hwB, hw99⟩ := id hSw; obtain ⟨hw0, hw1, hw2, hw3, hw4, hw5, hw6, hw7, hw8, hw9, hw10, hw11, hw12⟩ := Blk.twelve hwB; have hSx := hSw; (try dsimp only at hSw); go_simp; try rfl
                  case' rn5 => try simp only [List.getElem_toArray, List.getElem_cons_succ, List.getElem_cons_zero, Act.put, List.setIfInBounds_toArray, List.set_cons_zero, List.set_cons_succ]

                  refine walk_step 6 rfl (by kernel_rfl) (by kernel_rfl) (fun K hK => ?bun)
                  case bun =>
                    go_simp
                    refine hK _ _ ⟨p12, e12⟩ ?_
                    clear hK K hSS
                    try simp only [List.getElem_toArray, List.getElem_cons_succ, List.getElem_cons_zero, Act.put, List.setIfInBounds_toArray, List.set_cons_zero, List.set_cons_succ]

                    refine walk_step 7 rfl (by kernel_rfl) (by kernel_rfl) (fun K hK => ?apn)
                    case apn =>
                      rw [if_pos (by kernel_rfl)]

                      refine wp_append_Own _ (.tmp 176) (.tmp 181) 22 rfl base 26 j0 _ 1 24 Try.underlying22 hj0 hy0 hy1 hy2 rfl S6 ks c6 (rowvs (sl3 ++ al.take k)) rfl hS12 (some ⟨v6.heap.size, 0, none⟩) 1 1 [.slice x.A nx x.c] rfl rfl hR7 (one_slice x.A nx x.c) q6 q7 hbz7 ?_
                      intro B8 d8 w8 hB8 hg8 hor8
                      have hor9 : blk B8 = blk S6 ∨ blk B8 = some (v6.alloc (.cells #[.slice x.A nx x.c] 26)).heap.size := hor8.imp (fun e => by rw [e]) id
                      have p8 := p12.over hg8 (fun q hq e => hnS (by rw [hq, e]))
                      have hA8 := i12.2.2.2.2.2.1.over hg8 (fun q hq ht => i12.2.2.2.2.2.2.1 q (.inl hq) ht)
                      have e8 : w8.cell? ⟨gA, oA, none⟩ = some (.slice x.A nx x.c) := by have := hA8.arr.cell (rowvs_get hx0); rw [NX.out] at this; exact this
                      have hx8 := hx12.over hg8 (fun q hq ht => dsr6 q (.inl hq) ht)
                      refine hK _ _ ⟨p8, e8⟩ ?_
                      clear hK K
                      try simp only [List.getElem_toArray, List.getElem_cons_succ, List.getElem_cons_zero, Act.put, List.setIfInBounds_toArray, List.set_cons_zero, List.set_cons_succ]
                      refine walk_take 8 (v := ?vo8) rfl (by kernel_rfl) (by kernel_rfl) (by kernel_rfl) (fun _ _ _ h => h) (⟨p8, e8⟩) (Or.inl ⟨by rfl, ?yo8⟩) ?ro8
                      case yo8 => intro w hSw; obtain ⟨hwB, hw99⟩ := hSw; (try dsimp only at hSw); go_simp; try rfl
                      case' ro8 => try simp only [List.getElem_toArray, List.getElem_cons_succ, List.getElem_cons_zero, Act.put, List.setIfInBounds_toArray, List.set_cons_zero, List.set_cons_succ]

                      refine walk_tail (by kernel_rfl) ?_
                      simp only [List.drop_succ_cons, List.drop_zero]
                      obtain ⟨nv, hnv⟩ : ∃ nv, (h3.next + ((k + 1 : Nat) : Int)) % 256 = nv := ⟨_, rfl⟩
                      have hlt6 := fun (q : Nat) (hq : Touch B6 rl6 q) => (hx12.lt hq).2

                      have hB9 : Own w8 base 26 1 B8 (ks + 1) d8 (rowvs (sl3 ++ al.take k) ++ [.slice x.A x.b.length x.c]) := by rw [NX.out]; exact hB8

                      obtain ⟨h4, hh4⟩ : ∃ y, ({ hk3 with sent := hk3.sent ++ [x.b], asked := hk3.asked.drop 1, next := nv } : Hnd) = y := ⟨_, rfl⟩
                      have hka0 : 0 < ka := by omega
                      have i13 := i12.moved (B := B8) (c' := d8) (m := (v6.alloc (.cells #[.slice x.A nx x.c] 26)).heap.size) (h' := h4) (x := x) (W' := w8) hx0 hg8 hB9 hor9 (Nat.le_refl _) (.int .i64 nv) (by rw [← hh4]) (by rw [← hh4]) (by rw [← hh4]; rfl) hka0

                      have hsz : w.heap.size + 2 ≤ base := i12.2.2.2.2.2.2.2.2.1

                      have hlb : w.heap.size < base := Nat.lt_of_lt_of_le (Nat.lt_add_of_pos_right (by decide)) hsz

                      have hx13a := hx8.low (p := ⟨w.heap.size, 3, none⟩) hlb (.slice B8 (ks + 1) d8)

                      have hx13b := hx13a.low (p := ⟨w.heap.size, 4, none⟩) hlb (.slice (if d6 = 1 then some (⟨gA, oA, none⟩ : Addr) else Option.map (fun x : Addr => x.add 1) (some (⟨gA, oA, none⟩ : Addr))) (ka - 1) (d6 - 1))

                      have hx13 := hx13b.low (p := ⟨w.heap.size, 1, none⟩) hlb (.int .i64 nv)
                      clear hx13a hx13b

                      have dsr13 := disj_moved dsr6 dar6 hx0 hlt6 hor9
                      have dar13 : Disj (if d6 = 1 then some (⟨gA, oA, none⟩ : Addr) else Option.map (fun x : Addr => x.add 1) (some (⟨gA, oA, none⟩ : Addr))) ((al.drop k).drop 1) B6 rl6 := fun q h1 h2 => dar6 q (touch_drop h1) h2

                      have w1 : IntKind.i64.wrap (hk3.next + 1) = hk3.next + 1 := IntWalk.i64_in _ (by omega)
                      have w2 : Int.tmod (hk3.next + 1) 256 = nv := by rw [Int.tmod_eq_emod_of_nonneg (by omega), ← hnv, hkn.out]; omega
                      have k38 := p8.cell' (i := 3) rfl
                      have kf8 := p8.frozen
                      have pm1 := p8.set_ 3 (.slice B8 (ks + 1) d8)
                      have k49 := pm1.cell' (i := 4) rfl
                      have kf9 := pm1.frozen
                      have le1 : (1 : Int) ≤ (ka : Int) := by omega
                      have le2 : (ka : Int) ≤ (d6 : Int) := by have := hA8.arr.le; omega
                      have zz8 : v6.heap.size ≤ w8.heap.size := by have := hg8.size; have := b7.size; omega
                      have zf : W6.heap.size ≤ w8.heap.size := Nat.le_trans hzr (Nat.le_trans z11 zz8)
                      have e0 : h4 = moreK h3 (k + 1) := by rw [← hh4, ← more_succ hxa, HKK.out, hnv]
                      have HE0 := Lib.hid e0
                      have HNV := Lib.hid hnv
                      clear hh4 hB9 e0 hnv i11 hx11 e11 z11 b7 i12 hx12 hS12 p12 e12 hR7 hbz7 hnS q6 q7 hB8 hg8 p8 hA8 e8 hx8 hlt6 hor8 hor9 hks hka

                      by_cases hd1 : d6 = 1
                      · subst hd1
                        have eA : (if 1 = 1 then some (⟨gA, oA, none⟩ : Addr) else Option.map (fun x : Addr => x.add 1) (some (⟨gA, oA, none⟩ : Addr))) = some (⟨gA, oA, none⟩ : Addr) := if_pos rfl
                        rw [eA, show (1 - 1 : Nat) = 0 from rfl] at i13 hx13
                        rw [eA] at dar13
                        clear eA
                        have pm2 := pm1.set_ 4 (.slice (some (⟨gA, oA, none⟩ : Addr)) (ka - 1) 0)
                        have k1a := pm2.cell' (i := 1) rfl
                        have kfa := pm2.frozen
                        clear pm1 pm2
                        go_upto_region 43 with fail

                        go_wp2_with fail

                        go_roundw
                        case rel =>
                          refine ⟨k + 1, by omega, (fun h => by cases h), B8, d8, (some (⟨gA, oA, none⟩ : Addr)), 0, B6, d7, rl6, rfl, ?_, hx13, HRL6, ?_, ?_, by simpa using zf⟩
                          · rw [← HE0.out, show sl3 ++ al.take (k + 1) = sl3 ++ al.take k ++ [x] by rw [List.take_add_one, hx, List.append_assoc]; rfl, show al.drop (k + 1) = (al.drop k).drop 1 by rw [List.drop_drop], show k3n + (k + 1) = ks + 1 by rw [← HKS.out]; omega, show n2 - (k + 1) = ka - 1 by rw [← HKA.out]; omega]
                            exact i13
                          · rw [show sl3 ++ al.take (k + 1) = sl3 ++ al.take k ++ [x] by rw [List.take_add_one, hx, List.append_assoc]; rfl]
                            exact dsr13
                          · rw [show al.drop (k + 1) = (al.drop k).drop 1 by rw [List.drop_drop]]
                            exact dar13
                        case measure => simp [sliceLen]; omega
                      · have eA : (if d6 = 1 then some (⟨gA, oA, none⟩ : Addr) else Option.map (fun x : Addr => x.add 1) (some (⟨gA, oA, none⟩ : Addr))) = some (⟨gA, oA + 1, none⟩ : Addr) := (if_neg hd1).trans rfl
                        rw [eA] at i13 hx13 dar13
                        clear eA
                        have pm2 := pm1.set_ 4 (.slice (some (⟨gA, oA + 1, none⟩ : Addr)) (ka - 1) (d6 - 1))
                        have k1a := pm2.cell' (i := 1) rfl
                        have kfa := pm2.frozen
                        clear pm1 pm2
                        go_upto_region 43 with fail

                        go_wp2_with fail

                        go_roundw
                        case rel =>
                          refine ⟨k + 1, by omega, (fun h => by cases h), B8, d8, (some (⟨gA, oA + 1, none⟩ : Addr)), (d6 - 1), B6, d7, rl6, rfl, ?_, hx13, HRL6, ?_, ?_, by simpa using zf⟩
                          · rw [← HE0.out, show sl3 ++ al.take (k + 1) = sl3 ++ al.take k ++ [x] by rw [List.take_add_one, hx, List.append_assoc]; rfl, show al.drop (k + 1) = (al.drop k).drop 1 by rw [List.drop_drop], show k3n + (k + 1) = ks + 1 by rw [← HKS.out]; omega, show n2 - (k + 1) = ka - 1 by rw [← HKA.out]; omega]
                            exact i13
                          · rw [show sl3 ++ al.take (k + 1) = sl3 ++ al.take k ++ [x] by rw [List.take_add_one, hx, List.append_assoc]; rfl]
                            exact dsr13
                          · rw [show al.drop (k + 1) = (al.drop k).drop 1 by rw [List.drop_drop]]
                            exact dar13
                        case measure => simp [sliceLen]; omega
            · obtain rfl : k = N := by omega
              obtain ⟨hH, hro, rfl⟩ : moreK h3 k = H ∧ rl.map RowR.b = rows ∧ err = 0 := by have := HG3.out; rw [if_pos rfl] at this; simp only [Prod.mk.injEq] at this; exact ⟨this.1, by rw [HRL.out]; exact this.2.1, this.2.2.symm⟩
              obtain rfl : nR = nR3 + k := by rw [← NR.out, ← hro, List.length_map]; exact hOr.len
              replace i8 : StepInv w base H S6 A6 ks c6 ka d6 (sl3 ++ al.take k) (al.drop k) wr := by rw [← hH]; exact i8
              obtain rfl : m1 = ks := by rw [← M1.out, ← i8.1.out, List.length_map]; exact i8.2.2.2.2.1.len
              obtain rfl : m2 = ka := by rw [← M2.out, ← i8.2.1.out, List.length_map]; exact i8.2.2.2.2.2.1.len
              have eah : H.ahead = h3.ahead := by rw [← hH]; rfl
              have EAH := Lib.hid eah
              have HKS := Lib.hid hks
              have HKA := Lib.hid hka
              have HN3 := Lib.hid hN3
              clear hks hka hN3 hH eah k2 k3 k4
              have k2 := i8.2.2.1.cell' (i := 2) rfl
              have k3 := i8.2.2.1.cell' (i := 3) rfl
              have k4 := i8.2.2.1.cell' (i := 4) rfl

              by_cases l1 : (m1 : Int) < H.ahead
              · have l2 : ¬ (0 : Int) < (m2 : Int) := by have := HN3.out; have := HKS.out; have := HKA.out; have := EAH.out; omega

                obtain ⟨r1, r2, r3, r4, r5, r6, r7, r8, r9, r10⟩ := i8
                go_wp2_with (first
                  | (refine wpList_load_row rfl 25 (.tmp 3) rfl (w.heap.size) rfl 25 #[.int .i64 H.craft, .int .i64 H.next, .int .i64 H.ahead, .slice S6 m1 c6, .slice A6 m2 d6, .int .i64 H.timer, .int .i64 H.patience, .int .i64 H.tries, .int .i64 H.limit, .int .i64 H.since, .int .i64 H.pause, .int .i64 H.halt] (0, 0) _ r3 Try.underlying25 rfl handsz ?_)
                  | (refine wpList_store_row rfl 25 (.tmp 6) (.tmp 193) rfl (w.heap.size + 1) #[.int .i64 H.craft, .int .i64 H.next, .int .i64 H.ahead, .slice S6 m1 c6, .slice A6 m2 d6, .int .i64 H.timer, .int .i64 H.patience, .int .i64 H.tries, .int .i64 H.limit, .int .i64 H.since, .int .i64 H.pause, .int .i64 H.halt] rfl rfl 25 _ r4 handsz rfl (hand_one H S6 m1 c6 A6 m2 d6) ?_))
                have r4' := r4.row #[.int .i64 H.craft, .int .i64 H.next, .int .i64 H.ahead, .slice S6 m1 c6, .slice A6 m2 d6, .int .i64 H.timer, .int .i64 H.patience, .int .i64 H.tries, .int .i64 H.limit, .int .i64 H.since, .int .i64 H.pause, .int .i64 H.halt]
                refine bodyPost_ret (v := .tuple #[.agg #[.int .i64 H.craft, .int .i64 H.next, .int .i64 H.ahead, .slice S6 m1 c6, .slice A6 m2 d6, .int .i64 H.timer, .int .i64 H.patience, .int .i64 H.tries, .int .i64 H.limit, .int .i64 H.since, .int .i64 H.pause, .int .i64 H.halt], .slice R (nR3 + k) cR, .int .i64 0]) (results_cell_slot2 (ty := 25) Try.results17 _ _ (w.heap.size + 1) 25 _ (0, 0) _ rfl rfl rfl r4' Try.underlying25 rfl handsz) rfl ?_
                exact ⟨S6, c6, A6, d6, R, cR, sl3 ++ al.take k, al.drop k, rl, rfl, ⟨r1.out, r2.out, hro⟩, (r5.lowRow (by omega) _).mono (by omega), (r6.lowRow (by omega) _).mono (by omega), (hOr.lowRow (by omega) _).mono (by omega), r7, dsr, dar, below_row r8 (by omega) _⟩
              · skip
                obtain ⟨r1, r2, r3, r4, r5, r6, r7, r8, r9, r10⟩ := i8
                go_wp2_with (first
                  | (refine wpList_load_row rfl 25 (.tmp 3) rfl (w.heap.size) rfl 25 #[.int .i64 H.craft, .int .i64 H.next, .int .i64 H.ahead, .slice S6 m1 c6, .slice A6 m2 d6, .int .i64 H.timer, .int .i64 H.patience, .int .i64 H.tries, .int .i64 H.limit, .int .i64 H.since, .int .i64 H.pause, .int .i64 H.halt] (0, 0) _ r3 Try.underlying25 rfl handsz ?_)
                  | (refine wpList_store_row rfl 25 (.tmp 6) (.tmp 193) rfl (w.heap.size + 1) #[.int .i64 H.craft, .int .i64 H.next, .int .i64 H.ahead, .slice S6 m1 c6, .slice A6 m2 d6, .int .i64 H.timer, .int .i64 H.patience, .int .i64 H.tries, .int .i64 H.limit, .int .i64 H.since, .int .i64 H.pause, .int .i64 H.halt] rfl rfl 25 _ r4 handsz rfl (hand_one H S6 m1 c6 A6 m2 d6) ?_))
                have r4' := r4.row #[.int .i64 H.craft, .int .i64 H.next, .int .i64 H.ahead, .slice S6 m1 c6, .slice A6 m2 d6, .int .i64 H.timer, .int .i64 H.patience, .int .i64 H.tries, .int .i64 H.limit, .int .i64 H.since, .int .i64 H.pause, .int .i64 H.halt]
                refine bodyPost_ret (v := .tuple #[.agg #[.int .i64 H.craft, .int .i64 H.next, .int .i64 H.ahead, .slice S6 m1 c6, .slice A6 m2 d6, .int .i64 H.timer, .int .i64 H.patience, .int .i64 H.tries, .int .i64 H.limit, .int .i64 H.since, .int .i64 H.pause, .int .i64 H.halt], .slice R (nR3 + k) cR, .int .i64 0]) (results_cell_slot2 (ty := 25) Try.results17 _ _ (w.heap.size + 1) 25 _ (0, 0) _ rfl rfl rfl r4' Try.underlying25 rfl handsz) rfl ?_
                exact ⟨S6, c6, A6, d6, R, cR, sl3 ++ al.take k, al.drop k, rl, rfl, ⟨r1.out, r2.out, hro⟩, (r5.lowRow (by omega) _).mono (by omega), (r6.lowRow (by omega) _).mono (by omega), (hOr.lowRow (by omega) _).mono (by omega), r7, dsr, dar, below_row r8 (by omega) _⟩
          · have hk0 : k = 0 := hwk rfl
            obtain ⟨hH, hro, rfl⟩ : moreK h3 k = H ∧ rl.map RowR.b = rows ∧ err = 0 := by have := HG3.out; rw [if_neg (by simp)] at this; simp only [Prod.mk.injEq] at this; exact ⟨by rw [hk0, more_zero hnx3]; exact this.1, by rw [HRL.out, hk0]; simpa [upsB] using this.2.1, this.2.2.symm⟩
            clear hk0 hwk
            obtain rfl : nR = nR3 + k := by rw [← NR.out, ← hro, List.length_map]; exact hOr.len
            replace i8 : StepInv w base H S6 A6 ks c6 ka d6 (sl3 ++ al.take k) (al.drop k) wr := by rw [← hH]; exact i8
            obtain rfl : m1 = ks := by rw [← M1.out, ← i8.1.out, List.length_map]; exact i8.2.2.2.2.1.len
            obtain rfl : m2 = ka := by rw [← M2.out, ← i8.2.1.out, List.length_map]; exact i8.2.2.2.2.2.1.len
            have eah : H.ahead = h3.ahead := by rw [← hH]; rfl
            have EAH := Lib.hid eah
            have HKS := Lib.hid hks
            have HKA := Lib.hid hka
            have HN3 := Lib.hid hN3
            clear hks hka hN3 hH eah k2 k3 k4
            have k2 := i8.2.2.1.cell' (i := 2) rfl
            have k3 := i8.2.2.1.cell' (i := 3) rfl
            have k4 := i8.2.2.1.cell' (i := 4) rfl

            obtain ⟨r1, r2, r3, r4, r5, r6, r7, r8, r9, r10⟩ := i8
            go_wp2_with (first
              | (refine wpList_load_row rfl 25 (.tmp 3) rfl (w.heap.size) rfl 25 #[.int .i64 H.craft, .int .i64 H.next, .int .i64 H.ahead, .slice S6 m1 c6, .slice A6 m2 d6, .int .i64 H.timer, .int .i64 H.patience, .int .i64 H.tries, .int .i64 H.limit, .int .i64 H.since, .int .i64 H.pause, .int .i64 H.halt] (0, 0) _ r3 Try.underlying25 rfl handsz ?_)
              | (refine wpList_store_row rfl 25 (.tmp 6) (.tmp 193) rfl (w.heap.size + 1) #[.int .i64 H.craft, .int .i64 H.next, .int .i64 H.ahead, .slice S6 m1 c6, .slice A6 m2 d6, .int .i64 H.timer, .int .i64 H.patience, .int .i64 H.tries, .int .i64 H.limit, .int .i64 H.since, .int .i64 H.pause, .int .i64 H.halt] rfl rfl 25 _ r4 handsz rfl (hand_one H S6 m1 c6 A6 m2 d6) ?_))
            have r4' := r4.row #[.int .i64 H.craft, .int .i64 H.next, .int .i64 H.ahead, .slice S6 m1 c6, .slice A6 m2 d6, .int .i64 H.timer, .int .i64 H.patience, .int .i64 H.tries, .int .i64 H.limit, .int .i64 H.since, .int .i64 H.pause, .int .i64 H.halt]
            refine bodyPost_ret (v := .tuple #[.agg #[.int .i64 H.craft, .int .i64 H.next, .int .i64 H.ahead, .slice S6 m1 c6, .slice A6 m2 d6, .int .i64 H.timer, .int .i64 H.patience, .int .i64 H.tries, .int .i64 H.limit, .int .i64 H.since, .int .i64 H.pause, .int .i64 H.halt], .slice R (nR3 + k) cR, .int .i64 0]) (results_cell_slot2 (ty := 25) Try.results17 _ _ (w.heap.size + 1) 25 _ (0, 0) _ rfl rfl rfl r4' Try.underlying25 rfl handsz) rfl ?_
            exact ⟨S6, c6, A6, d6, R, cR, sl3 ++ al.take k, al.drop k, rl, rfl, ⟨r1.out, r2.out, hro⟩, (r5.lowRow (by omega) _).mono (by omega), (r6.lowRow (by omega) _).mono (by omega), (hOr.lowRow (by omega) _).mono (by omega), r7, dsr, dar, below_row r8 (by omega) _⟩
    · obtain ⟨hH, rfl, rfl⟩ : h = H ∧ [] = rows ∧ err = 0 := by have := HR1.out; unfold stepS at this; rw [if_pos hh] at this; simp only [Prod.mk.injEq] at this; exact ⟨this.1, this.2.1, this.2.2.symm⟩
      replace i2 : StepInv w base H Sk Ak n1 ck n2 dk sl al W2 := by rw [← hH]; exact i2
      obtain rfl : m1 = n1 := by rw [← N1.out, hH, M1.out]
      obtain rfl : m2 = n2 := by rw [← N2.out, hH, M2.out]
      obtain rfl : nR = 0 := by rw [← NR.out]; rfl
      have e0 : (h.halt == 0) = false := by rw [beq_eq_false_iff_ne]; exact hh
      have e0' : (h.halt != 0) = true := by rw [bne_iff_ne]; exact hh
      clear HR1 hh t hH
      obtain ⟨r1, r2, r3, r4, r5, r6, r7, r8, r9, r10⟩ := i2
      go_wp2_with (first
        | (refine wpList_load_row rfl 25 (.tmp 3) rfl (w.heap.size) rfl 25 #[.int .i64 H.craft, .int .i64 H.next, .int .i64 H.ahead, .slice Sk m1 ck, .slice Ak m2 dk, .int .i64 H.timer, .int .i64 H.patience, .int .i64 H.tries, .int .i64 H.limit, .int .i64 H.since, .int .i64 H.pause, .int .i64 H.halt] (0, 0) _ r3 Try.underlying25 rfl handsz ?_)
        | (refine wpList_store_row rfl 25 (.tmp 6) (.tmp 25) rfl (w.heap.size + 1) #[.int .i64 H.craft, .int .i64 H.next, .int .i64 H.ahead, .slice Sk m1 ck, .slice Ak m2 dk, .int .i64 H.timer, .int .i64 H.patience, .int .i64 H.tries, .int .i64 H.limit, .int .i64 H.since, .int .i64 H.pause, .int .i64 H.halt] rfl rfl 25 _ r4 handsz rfl (hand_one H Sk m1 ck Ak m2 dk) ?_)
        | (refine wpList_store_row rfl 25 (.tmp 6) (.tmp 62) rfl (w.heap.size + 1) #[.int .i64 H.craft, .int .i64 H.next, .int .i64 H.ahead, .slice Sk m1 ck, .slice Ak m2 dk, .int .i64 H.timer, .int .i64 H.patience, .int .i64 H.tries, .int .i64 H.limit, .int .i64 H.since, .int .i64 H.pause, .int .i64 H.halt] rfl rfl 25 _ r4 handsz rfl (hand_one H Sk m1 ck Ak m2 dk) ?_)
        | (refine wpList_store_row rfl 25 (.tmp 6) (.tmp 75) rfl (w.heap.size + 1) #[.int .i64 H.craft, .int .i64 H.next, .int .i64 H.ahead, .slice Sk m1 ck, .slice Ak m2 dk, .int .i64 H.timer, .int .i64 H.patience, .int .i64 H.tries, .int .i64 H.limit, .int .i64 H.since, .int .i64 H.pause, .int .i64 H.halt] rfl rfl 25 _ r4 handsz rfl (hand_one H Sk m1 ck Ak m2 dk) ?_)
        | (refine wpList_store_row rfl 25 (.tmp 6) (.tmp 114) rfl (w.heap.size + 1) #[.int .i64 H.craft, .int .i64 H.next, .int .i64 H.ahead, .slice Sk m1 ck, .slice Ak m2 dk, .int .i64 H.timer, .int .i64 H.patience, .int .i64 H.tries, .int .i64 H.limit, .int .i64 H.since, .int .i64 H.pause, .int .i64 H.halt] rfl rfl 25 _ r4 handsz rfl (hand_one H Sk m1 ck Ak m2 dk) ?_))
      have r4' := r4.row #[.int .i64 H.craft, .int .i64 H.next, .int .i64 H.ahead, .slice Sk m1 ck, .slice Ak m2 dk, .int .i64 H.timer, .int .i64 H.patience, .int .i64 H.tries, .int .i64 H.limit, .int .i64 H.since, .int .i64 H.pause, .int .i64 H.halt]
      refine bodyPost_ret (v := .tuple #[.agg #[.int .i64 H.craft, .int .i64 H.next, .int .i64 H.ahead, .slice Sk m1 ck, .slice Ak m2 dk, .int .i64 H.timer, .int .i64 H.patience, .int .i64 H.tries, .int .i64 H.limit, .int .i64 H.since, .int .i64 H.pause, .int .i64 H.halt], .slice none 0 0, .int .i64 0]) (results_cell_slot2 (ty := 25) Try.results17 _ _ (w.heap.size + 1) 25 _ (0, 0) _ rfl rfl rfl r4' Try.underlying25 rfl handsz) rfl ?_
      exact ⟨Sk, ck, Ak, dk, none, 0, sl, al, [], rfl, ⟨r1.out, r2.out, rfl⟩, (r5.lowRow (by omega) _).mono (by omega), (r6.lowRow (by omega) _).mono (by omega), OwnRs.nil _ _, r7, Disj.nil _ _, Disj.nil _ _, below_row r8 (by omega) _⟩
  · obtain ⟨rfl, rfl, rfl⟩ : H = Hnd.zero ∧ rows = [] ∧ err = 11 := by have := HR.out; unfold stepR at this; rw [if_neg hok] at this; simp only [Prod.mk.injEq] at this; exact ⟨this.1.symm, this.2.1.symm, this.2.2.symm⟩
    obtain rfl : m1 = 0 := by rw [← M1.out]; rfl
    obtain rfl : m2 = 0 := by rw [← M2.out]; rfl
    obtain rfl : nR = 0 := by rw [← NR.out]; rfl
    rw [show handB h = false from decide_eq_false hok] at CM
    clear HR hok
    go_enter Try.func17, Try.ntmps17
    go_wp2_with (refine wpList_load_row rfl 25 (.tmp 3) rfl (w.heap.size) rfl 25 #[.int .i64 h.craft, .int .i64 h.next, .int .i64 h.ahead, .slice S n1 c, .slice A n2 d, .int .i64 h.timer, .int .i64 h.patience, .int .i64 h.tries, .int .i64 h.limit, .int .i64 h.since, .int .i64 h.pause, .int .i64 h.halt] (0, 0) _ b1 Try.underlying25 rfl handsz ?_)
    generalize ((w.alloc (.cells #[.int .i64 h.craft, .int .i64 h.next, .int .i64 h.ahead, .slice S n1 c, .slice A n2 d, .int .i64 h.timer, .int .i64 h.patience, .int .i64 h.tries, .int .i64 h.limit, .int .i64 h.since, .int .i64 h.pause, .int .i64 h.halt] 25)).alloc (.cells #[.int .i64 0, .int .i64 0, .int .i64 0, .slice none 0 0, .slice none 0 0, .int .i64 0, .int .i64 0, .int .i64 0, .int .i64 0, .int .i64 0, .int .i64 0, .int .i64 0] 25)) = W0 at *
    refine (CM.out W0 (HS.out.below hB) (HA.out.below hB)).mono ?_
    rintro e w1 ⟨rfl, hb⟩
    clear CM
    have s1 := hb.size
    replace b2 := b2.step hb
    replace hB := hB.trans (hb.mono hB.size)
    go_wp2_with (first
      | (refine wpList_store_row rfl 25 (.tmp 6) (.tmp 19) rfl (w.heap.size + 1) #[.int .i64 0, .int .i64 0, .int .i64 0, .slice none 0 0, .slice none 0 0, .int .i64 0, .int .i64 0, .int .i64 0, .int .i64 0, .int .i64 0, .int .i64 0, .int .i64 0] rfl rfl 25 _ b2 handsz rfl (by simp [Value.oneCell']) ?_))
    have b2' := b2.row #[.int .i64 0, .int .i64 0, .int .i64 0, .slice none 0 0, .slice none 0 0, .int .i64 0, .int .i64 0, .int .i64 0, .int .i64 0, .int .i64 0, .int .i64 0, .int .i64 0]
    refine bodyPost_ret (v := .tuple #[.agg #[.int .i64 0, .int .i64 0, .int .i64 0, .slice none 0 0, .slice none 0 0, .int .i64 0, .int .i64 0, .int .i64 0, .int .i64 0, .int .i64 0, .int .i64 0, .int .i64 0], .slice none 0 0, .int .i64 11]) (results_cell_slot2 (ty := 25) Try.results17 _ _ (w.heap.size + 1) 25 _ (0, 0) _ rfl rfl rfl b2' Try.underlying25 rfl handsz) rfl ?_
    exact ⟨none, 0, none, 0, none, 0, [], [], [], rfl, ⟨rfl, rfl, rfl⟩, OwnRs.nil _ _, OwnRs.nil _ _, OwnRs.nil _ _, Disj.nil _ _, Disj.nil _ _, Disj.nil _ _, below_row hB (by omega) _⟩
end Go.Proofs.Ytppmdamcdhmcpaa
