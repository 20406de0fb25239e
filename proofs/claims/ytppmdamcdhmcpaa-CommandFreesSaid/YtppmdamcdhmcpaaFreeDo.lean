/-
  command.Free's func: a hand that stood still goes on.
-/
import Derived.Test.YtppmdamcdhmcpaaSend
namespace Go.Proofs.Ytppmdamcdhmcpaa
set_option linter.unusedSimpArgs false
set_option linter.unusedVariables false
open Go.RowKit

set_option maxHeartbeats 12800000 in
set_option maxRecDepth 100000 in
theorem free1_any (h : Hnd) (n1 n2 p ck dk base : Nat) (Sk Ak : Option Addr) (sl al : List RowR) (W : World) (hp : Blk W p 45 #[.int .i64 h.craft, .int .i64 h.next, .int .i64 h.ahead, .slice Sk n1 ck, .slice Ak n2 dk, .int .i64 h.timer, .int .i64 h.patience, .int .i64 h.tries, .int .i64 h.limit, .int .i64 h.since, .int .i64 h.pause, .int .i64 h.halt, .slice none 0 0]) (hbase : base ≤ p)
    (hsl : sl.map RowR.b = h.sent) (hal : al.map RowR.b = h.asked) (hOs : OwnRs W base Sk n1 ck sl) (hOa : OwnRs W base Ak n2 dk al) (hdj : Disj Sk sl Ak al) (H : Hnd) (m1 m2 : Nat) (rows : List (List UInt8)) (nR : Nat) (err : Int) (hR : freeS h = (H, rows, err)) (hm1 : H.sent.length = m1) (hm2 : H.asked.length = m2) (hnR : rows.length = nR) :
    Calls Try.prog 29 #[.pointer (some ⟨p, 0, none⟩)] W fun e w' => DoOut W w' base p Sk sl Ak al H m1 m2 rows nR err e := by
  have N1 : h.sent.length = n1 := by rw [← hsl, List.length_map]; exact hOs.len
  have N2 : h.asked.length = n2 := by rw [← hal, List.length_map]; exact hOa.len
  have N1 := Lib.hid N1
  have N2 := Lib.hid N2
  have M1 := Lib.hid hm1
  have M2 := Lib.hid hm2
  have NR := Lib.hid hnR
  have MS := Lib.hid hsl
  have MA := Lib.hid hal
  have HR := Lib.hid hR
  have DD := Lib.hid hdj
  clear hm1 hm2 hnR hsl hal hR hdj
  have hpl := hp.lt
  have hlts := fun (q : Nat) (hq : Touch Sk sl q) => hOs.lt hq
  have hlta := fun (q : Nat) (hq : Touch Ak al q) => hOa.lt hq
  have hns : ¬ Touch Sk sl p := fun ht => by
    rcases ht with e | ⟨i, r, hr, e⟩
    · exact hOs.arr.notBlk hp (by decide) e
    · exact (hOs.bs.1 i r hr).notBlk hp (by decide) e
  have hna : ¬ Touch Ak al p := fun ht => by
    rcases ht with e | ⟨i, r, hr, e⟩
    · exact hOa.arr.notBlk hp (by decide) e
    · exact (hOa.bs.1 i r hr).notBlk hp (by decide) e
  have k10 := hp.cell' (i := 10) rfl
  have k11 := hp.cell' (i := 11) rfl
  have kf0 := hp.frozen
  have p_0 : Blk (W.setCell ⟨p, 11, none⟩ (.int .i64 0)) p 45 #[.int .i64 h.craft, .int .i64 h.next, .int .i64 h.ahead, .slice Sk n1 ck, .slice Ak n2 dk, .int .i64 h.timer, .int .i64 h.patience, .int .i64 h.tries, .int .i64 h.limit, .int .i64 h.since, .int .i64 h.pause, .int .i64 0, .slice none 0 0] := hp.set_ 11 (.int .i64 0)
  have k5 := p_0.cell' (i := 5) rfl
  have kf1 := p_0.frozen
  have p_1 : Blk ((W.setCell ⟨p, 11, none⟩ (.int .i64 0)).setCell ⟨p, 5, none⟩ (.int .i64 0)) p 45 #[.int .i64 h.craft, .int .i64 h.next, .int .i64 h.ahead, .slice Sk n1 ck, .slice Ak n2 dk, .int .i64 0, .int .i64 h.patience, .int .i64 h.tries, .int .i64 h.limit, .int .i64 h.since, .int .i64 h.pause, .int .i64 0, .slice none 0 0] := p_0.set_ 5 (.int .i64 0)
  have k7 := p_1.cell' (i := 7) rfl
  have kf2 := p_1.frozen
  have p_2 : Blk (((W.setCell ⟨p, 11, none⟩ (.int .i64 0)).setCell ⟨p, 5, none⟩ (.int .i64 0)).setCell ⟨p, 7, none⟩ (.int .i64 0)) p 45 #[.int .i64 h.craft, .int .i64 h.next, .int .i64 h.ahead, .slice Sk n1 ck, .slice Ak n2 dk, .int .i64 0, .int .i64 h.patience, .int .i64 0, .int .i64 h.limit, .int .i64 h.since, .int .i64 h.pause, .int .i64 0, .slice none 0 0] := p_1.set_ 7 (.int .i64 0)
  have k9 := p_2.cell' (i := 9) rfl
  have kf3 := p_2.frozen
  have p_3 : Blk ((((W.setCell ⟨p, 11, none⟩ (.int .i64 0)).setCell ⟨p, 5, none⟩ (.int .i64 0)).setCell ⟨p, 7, none⟩ (.int .i64 0)).setCell ⟨p, 9, none⟩ (.int .i64 h.pause)) p 45 #[.int .i64 h.craft, .int .i64 h.next, .int .i64 h.ahead, .slice Sk n1 ck, .slice Ak n2 dk, .int .i64 0, .int .i64 h.patience, .int .i64 0, .int .i64 h.limit, .int .i64 h.pause, .int .i64 h.pause, .int .i64 0, .slice none 0 0] := p_2.set_ 9 (.int .i64 h.pause)
  have hOs3 := ((((hOs).far (p := ⟨p, 11, none⟩) hns (.int .i64 0)).far (p := ⟨p, 5, none⟩) hns (.int .i64 0)).far (p := ⟨p, 7, none⟩) hns (.int .i64 0)).far (p := ⟨p, 9, none⟩) hns (.int .i64 h.pause)
  have hOa3 := ((((hOa).far (p := ⟨p, 11, none⟩) hna (.int .i64 0)).far (p := ⟨p, 5, none⟩) hna (.int .i64 0)).far (p := ⟨p, 7, none⟩) hna (.int .i64 0)).far (p := ⟨p, 9, none⟩) hna (.int .i64 h.pause)
  have T3 : Turned W ((((W.setCell ⟨p, 11, none⟩ (.int .i64 0)).setCell ⟨p, 5, none⟩ (.int .i64 0)).setCell ⟨p, 7, none⟩ (.int .i64 0)).setCell ⟨p, 9, none⟩ (.int .i64 h.pause)) (fun q => q = p ∨ Touch Sk sl q ∨ Touch Ak al q) := (((((Turned.refl W _)).set (p := ⟨p, 11, none⟩) (fun _ => .inl rfl) (.int .i64 0)).set (p := ⟨p, 5, none⟩) (fun _ => .inl rfl) (.int .i64 0)).set (p := ⟨p, 7, none⟩) (fun _ => .inl rfl) (.int .i64 0)).set (p := ⟨p, 9, none⟩) (fun _ => .inl rfl) (.int .i64 h.pause)
  have z3 : W.heap.size ≤ (((((W.setCell ⟨p, 11, none⟩ (.int .i64 0)).setCell ⟨p, 5, none⟩ (.int .i64 0)).setCell ⟨p, 7, none⟩ (.int .i64 0)).setCell ⟨p, 9, none⟩ (.int .i64 h.pause))).heap.size := T3.size
  by_cases h15 : h.halt = 15
  · have HR2 : Hid ((freeH h, [(ordEnc (freeO h)).1], (0 : Int)) = (H, rows, err)) := Lib.hid (by have := HR.out; unfold freeS at this; rw [if_pos (.inl h15)] at this; exact this)
    have e15 : (h.halt == 15) = true := by rw [h15]; rfl
    have e15' : (h.halt != 15) = false := by rw [h15]; rfl
    clear HR h15
    go_enter Try.func29, Try.ntmps29
    go_upto_region 4 with fail
    generalize ((((W.setCell ⟨p, 11, none⟩ (.int .i64 0)).setCell ⟨p, 5, none⟩ (.int .i64 0)).setCell ⟨p, 7, none⟩ (.int .i64 0)).setCell ⟨p, 9, none⟩ (.int .i64 h.pause)) = W3 at *
    have p4 := p_3.alloc (.cells #[.int .u8 0] 5)
    have hOs4 := hOs3.alloc (.cells #[.int .u8 0] 5)
    have hOa4 := hOa3.alloc (.cells #[.int .u8 0] 5)
    have T4 := T3.step ((Below.refl W3.heap.size W3).alloc (Nat.le_refl _) (.cells #[.int .u8 0] 5))
    have hX4 := Rd_new W3 [.int .u8 0] 5
    have z4 : W3.heap.size ≤ (W3.alloc (.cells #[.int .u8 0] 5)).heap.size := by simp
    have CS := psend_any (freeH h) ⟨0, true, true, 0, [0]⟩ Sk Ak none (some ⟨W3.heap.size, 0, none⟩) n1 ck n2 dk 0 0 1 1 p base [] (W3.alloc (.cells #[.int .u8 0] 5)) p4 hX4 rfl (OwnRs.nil _ _) (by omega) (by omega)
    have HCS := Lib.hid CS
    clear CS k10 k11 k5 k7 k9 kf0 kf1 kf2 kf3 p_0 p_1 p_2
    go_wp2_with fail
    generalize W3.alloc (.cells #[.int .u8 0] 5) = W4 at *
    refine HCS.out.mono ?_
    rintro e w5 ⟨rfl, R', cR', rl', hrl, p5, hO5, ht5, T5⟩
    clear HCS
    have HRL := Lib.hid hrl
    clear hrl
    go_wp2_with fail
    obtain ⟨rfl, rfl, rfl⟩ : freeH h = H ∧ [(ordEnc (freeO h)).1] = rows ∧ err = 0 := by have := HR2.out; simp only [Prod.mk.injEq] at this; exact ⟨this.1, this.2.1, this.2.2.symm⟩
    obtain rfl : n1 = m1 := by rw [← N1.out, ← M1.out]; rfl
    obtain rfl : n2 = m2 := by rw [← N2.out, ← M2.out]; rfl
    obtain rfl : nR = 1 := by rw [← NR.out]; rfl
    have hns4 : ∀ q, Touch Sk sl q → ¬ (q = p ∨ Touch (none : Option Addr) [] q) := fun q hq h => by
      rcases h with h | h
      · exact hns (h ▸ hq)
      · exact Disj.nil none [] q h h
    have hna4 : ∀ q, Touch Ak al q → ¬ (q = p ∨ Touch (none : Option Addr) [] q) := fun q hq h => by
      rcases h with h | h
      · exact hna (h ▸ hq)
      · exact Disj.nil none [] q h h
    have hnew : ∀ q, Touch R' rl' q → W.heap.size ≤ q := fun q hq => by
      rcases ht5 q hq with h | h
      · exact (Disj.nil none [] q h h).elim
      · have := T3.size; omega
    refine bodyPost_ret (v := .int .i64 0) (by simp [results, Try.results29, go_sem]) rfl ?_
    refine ⟨Sk, ck, Ak, dk, R', cR', sl, al, rl', rfl, ⟨MS.out, MA.out, HRL.out⟩, p5, hOs4.turned T5 hns4, hOa4.turned T5 hna4, hO5, DD.out, fun q h1 h2 => by have := hnew q h2; have := (hlts q h1).2; omega, fun q h1 h2 => by have := hnew q h2; have := (hlta q h1).2; omega, T4.trans T5 (fun i _ hi => ?_)⟩
    rcases hi with hi | hi
    · exact .inl hi
    · exact (Disj.nil none [] i hi hi).elim
  · have e15 : (h.halt == 15) = false := by rw [beq_eq_false_iff_ne]; exact h15
    have e15' : (h.halt != 15) = true := by rw [bne_iff_ne]; exact h15
    by_cases h19 : h.halt = 19
    · have HR2 : Hid ((freeH h, [(ordEnc (freeO h)).1], (0 : Int)) = (H, rows, err)) := Lib.hid (by have := HR.out; unfold freeS at this; rw [if_pos (.inr h19)] at this; exact this)
      have e19 : (h.halt == 19) = true := by rw [h19]; rfl
      have e19' : (h.halt != 19) = false := by rw [h19]; rfl
      clear HR h15 h19
      go_enter Try.func29, Try.ntmps29
      go_upto_region 4 with fail
      generalize ((((W.setCell ⟨p, 11, none⟩ (.int .i64 0)).setCell ⟨p, 5, none⟩ (.int .i64 0)).setCell ⟨p, 7, none⟩ (.int .i64 0)).setCell ⟨p, 9, none⟩ (.int .i64 h.pause)) = W3 at *
      have p4 := p_3.alloc (.cells #[.int .u8 0] 5)
      have hOs4 := hOs3.alloc (.cells #[.int .u8 0] 5)
      have hOa4 := hOa3.alloc (.cells #[.int .u8 0] 5)
      have T4 := T3.step ((Below.refl W3.heap.size W3).alloc (Nat.le_refl _) (.cells #[.int .u8 0] 5))
      have hX4 := Rd_new W3 [.int .u8 0] 5
      have z4 : W3.heap.size ≤ (W3.alloc (.cells #[.int .u8 0] 5)).heap.size := by simp
      have CS := psend_any (freeH h) ⟨0, true, true, 0, [0]⟩ Sk Ak none (some ⟨W3.heap.size, 0, none⟩) n1 ck n2 dk 0 0 1 1 p base [] (W3.alloc (.cells #[.int .u8 0] 5)) p4 hX4 rfl (OwnRs.nil _ _) (by omega) (by omega)
      have HCS := Lib.hid CS
      clear CS k10 k11 k5 k7 k9 kf0 kf1 kf2 kf3 p_0 p_1 p_2
      go_wp2_with fail
      generalize W3.alloc (.cells #[.int .u8 0] 5) = W4 at *
      refine HCS.out.mono ?_
      rintro e w5 ⟨rfl, R', cR', rl', hrl, p5, hO5, ht5, T5⟩
      clear HCS
      have HRL := Lib.hid hrl
      clear hrl
      go_wp2_with fail
      obtain ⟨rfl, rfl, rfl⟩ : freeH h = H ∧ [(ordEnc (freeO h)).1] = rows ∧ err = 0 := by have := HR2.out; simp only [Prod.mk.injEq] at this; exact ⟨this.1, this.2.1, this.2.2.symm⟩
      obtain rfl : n1 = m1 := by rw [← N1.out, ← M1.out]; rfl
      obtain rfl : n2 = m2 := by rw [← N2.out, ← M2.out]; rfl
      obtain rfl : nR = 1 := by rw [← NR.out]; rfl
      have hns4 : ∀ q, Touch Sk sl q → ¬ (q = p ∨ Touch (none : Option Addr) [] q) := fun q hq h => by
        rcases h with h | h
        · exact hns (h ▸ hq)
        · exact Disj.nil none [] q h h
      have hna4 : ∀ q, Touch Ak al q → ¬ (q = p ∨ Touch (none : Option Addr) [] q) := fun q hq h => by
        rcases h with h | h
        · exact hna (h ▸ hq)
        · exact Disj.nil none [] q h h
      have hnew : ∀ q, Touch R' rl' q → W.heap.size ≤ q := fun q hq => by
        rcases ht5 q hq with h | h
        · exact (Disj.nil none [] q h h).elim
        · have := T3.size; omega
      refine bodyPost_ret (v := .int .i64 0) (by simp [results, Try.results29, go_sem]) rfl ?_
      refine ⟨Sk, ck, Ak, dk, R', cR', sl, al, rl', rfl, ⟨MS.out, MA.out, HRL.out⟩, p5, hOs4.turned T5 hns4, hOa4.turned T5 hna4, hO5, DD.out, fun q h1 h2 => by have := hnew q h2; have := (hlts q h1).2; omega, fun q h1 h2 => by have := hnew q h2; have := (hlta q h1).2; omega, T4.trans T5 (fun i _ hi => ?_)⟩
      rcases hi with hi | hi
      · exact .inl hi
      · exact (Disj.nil none [] i hi hi).elim
    · have HR2 : Hid ((h, ([] : List (List UInt8)), (6 : Int)) = (H, rows, err)) := Lib.hid (by have := HR.out; unfold freeS at this; rw [if_neg (by rintro (h | h); exact h15 h; exact h19 h)] at this; exact this)
      have e19 : (h.halt == 19) = false := by rw [beq_eq_false_iff_ne]; exact h19
      have e19' : (h.halt != 19) = true := by rw [bne_iff_ne]; exact h19
      clear HR h15 h19
      obtain ⟨rfl, rfl, rfl⟩ : h = H ∧ [] = rows ∧ err = 6 := by have := HR2.out; simp only [Prod.mk.injEq] at this; exact ⟨this.1, this.2.1, this.2.2.symm⟩
      obtain rfl : n1 = m1 := by rw [← N1.out, M1.out]
      obtain rfl : n2 = m2 := by rw [← N2.out, M2.out]
      obtain rfl : nR = 0 := by rw [← NR.out]; rfl
      go_enter Try.func29, Try.ntmps29
      go_wp2_with fail
      refine bodyPost_ret (v := .int .i64 6) (by simp [results, Try.results29, go_sem]) rfl ?_
      exact ⟨Sk, ck, Ak, dk, none, 0, sl, al, [], rfl, ⟨MS.out, MA.out, rfl⟩, hp, hOs, hOa, OwnRs.nil _ _, DD.out, Disj.nil _ _, Disj.nil _ _, Turned.refl _ _⟩
end Go.Proofs.Ytppmdamcdhmcpaa
