/-
  A hand: whether it may be, by the program (all of it).
-/
import Derived.Test.YtppmdamcdhmcpaaHandR
namespace Go.Proofs.Ytppmdamcdhmcpaa
set_option linter.unusedSimpArgs false
set_option linter.unusedVariables false
open Go.RowKit

set_option maxHeartbeats 12800000 in
set_option maxRecDepth 100000 in
theorem pready_any (h : Hnd) (S : Option Addr) (c : Nat) (A : Option Addr) (d : Nat) (w : World) (hS : RdRows w S h.sent) (hA : RdRows w A h.asked) (hsn : h.sent.length ≤ 5864062014634) (han : h.asked.length ≤ 5864062014634) (hsb : ∀ l ∈ h.sent, l.length ≤ 140737488351300) (hab : ∀ l ∈ h.asked, l.length ≤ 140737488351300) :
    Calls Try.prog 41 #[hdv h S c A d] w fun e w' => e = .returned (.bool (handB h)) ∧ Below w.heap.size w w' := by
  obtain ⟨r, hr⟩ : ∃ r, r = handB h := ⟨_, rfl⟩
  rw [← hr]
  unfold hdv
  obtain ⟨craft, next, ahead, sent, asked, timer, patience, tries, limit, since, pause, halt⟩ := h
  dsimp only at *
  obtain ⟨n1, hn1⟩ : ∃ n1, sent.length = n1 := ⟨_, rfl⟩
  obtain ⟨n2, hn2⟩ : ∃ n2, asked.length = n2 := ⟨_, rfl⟩
  rw [hn1] at hsn ⊢
  rw [hn2] at han ⊢
  have C1 := Lib.hid (fun w (h : RdRows w S sent) => containsR_any S sent n1 c w hn1 h hsn hsb)
  have C2 := Lib.hid (fun w (h : RdRows w A asked) => containsR_any A asked n2 d w hn2 h han hab)
  have HS := Lib.hid hS
  have HA := Lib.hid hA
  have b0 := Blk.new w 25 #[.int .i64 craft, .int .i64 next, .int .i64 ahead, .slice S n1 c, .slice A n2 d, .int .i64 timer, .int .i64 patience, .int .i64 tries, .int .i64 limit, .int .i64 since, .int .i64 pause, .int .i64 halt]
  have hB0 : Below w.heap.size w (w.alloc (.cells #[.int .i64 craft, .int .i64 next, .int .i64 ahead, .slice S n1 c, .slice A n2 d, .int .i64 timer, .int .i64 patience, .int .i64 tries, .int .i64 limit, .int .i64 since, .int .i64 pause, .int .i64 halt] 25)) := (Below.refl _ _).alloc (Nat.le_refl _) _
  obtain ⟨k0, k1, k2, k3, k4, k5, k6, k7, k8, k9, k10, k11, kf⟩ := b0.twelve
  have HR : Hid (r = handB ⟨craft, next, ahead, sent, asked, timer, patience, tries, limit, since, pause, halt⟩) := Lib.hid hr
  have HO : Hid (handOk ⟨craft, next, ahead, sent, asked, timer, patience, tries, limit, since, pause, halt⟩ ↔ rdOk craft ahead patience pause limit ∧ (0 ≤ next ∧ next ≤ 255) ∧ (n1 : Int) ≤ ahead ∧ n2 ≤ 100 ∧ ordOk sent ∧ ordOk asked ∧ (halt = 0 ∨ halt = 15 ∨ halt = 11 ∨ halt = 19) ∧ (0 ≤ timer ∧ timer < patience) ∧ (0 ≤ tries ∧ tries ≤ limit) ∧ (0 ≤ since ∧ since ≤ pause)) := Lib.hid (by rw [← hn1, ← hn2]; exact Iff.rfl)
  have HB1 : Hid (ordB sent = true ↔ ordOk sent) := Lib.hid (by unfold ordB; exact decide_eq_true_iff)
  have HB2 : Hid (ordB asked = true ↔ ordOk asked) := Lib.hid (by unfold ordB; exact decide_eq_true_iff)
  clear hn1 hn2 hr hS hA hsb hab
  by_cases hrd : rdOk craft ahead patience pause limit
  · have hpat : 1 ≤ patience ∧ patience ≤ 1000 := hrd.2.2.1
    go_enter Try.func41, Try.ntmps41
    go_wp2_with fail
    generalize w.alloc (.cells #[.int .i64 craft, .int .i64 next, .int .i64 ahead, .slice S n1 c, .slice A n2 d, .int .i64 timer, .int .i64 patience, .int .i64 tries, .int .i64 limit, .int .i64 since, .int .i64 pause, .int .i64 halt] 25) = W at *
    clear k0 k1 k2 k3 k4 k5 k6 k7 k8 k9 k10 k11 kf
    refine (ready_yes craft ahead patience pause limit W hrd).mono ?_
    rintro e w1 ⟨rfl, hb⟩
    replace b0 := b0.step hb
    replace hB0 := hB0.trans (hb.mono hB0.size)
    replace b0 := b0.alloc (.cells #[.int .i64 craft, .int .i64 0, .int .i64 ahead, .slice none 0 0, .slice none 0 0, .int .i64 0, .int .i64 patience, .int .i64 0, .int .i64 limit, .int .i64 pause, .int .i64 pause, .int .i64 0] 25)
    replace hB0 := hB0.alloc hB0.size (.cells #[.int .i64 craft, .int .i64 0, .int .i64 ahead, .slice none 0 0, .slice none 0 0, .int .i64 0, .int .i64 patience, .int .i64 0, .int .i64 limit, .int .i64 pause, .int .i64 pause, .int .i64 0] 25)
    unfold handNew
    have C1' := Lib.hid (C1.out _ (HS.out.below hB0))
    have C2' := Lib.hid (C2.out _ (HA.out.below hB0))
    obtain ⟨k0, k1, k2, k3, k4, k5, k6, k7, k8, k9, k10, k11, kf⟩ := b0.twelve
    clear C1 C2
    go_wp2_with (first
      | (go_at_call 23; refine (cin_any _ _ _ _).mono ?_; rintro e w' ⟨rfl, rfl⟩)
      | (go_at_call 50; first | ((with_reducible refine C1'.out.mono ?_); rintro e w' ⟨rfl, rfl⟩) | ((with_reducible refine C2'.out.mono ?_); rintro e w' ⟨rfl, rfl⟩)))
    all_goals (go_ret; refine ⟨ret_bool ?_, hB0⟩)
    all_goals (rw [HR.out]; unfold handB)
    all_goals first
      | (refine (decide_eq_false (fun hh => ?_)).symm
         obtain ⟨_, g1, g2, g3, g4, g5, g6, g7, g8, g9⟩ := HO.out.1 hh
         first
           | omega
           | (exfalso
              have e0 : ¬ halt = 0 := by
                suffices g11 : (halt == 0) = false from (by simpa using g11)
                assumption
              have e1 : ¬ halt = 15 := by
                suffices g11 : (halt == 15) = false from (by simpa using g11)
                assumption
              have e2 : ¬ halt = 11 := by
                suffices g11 : (halt == 11) = false from (by simpa using g11)
                assumption
              have e3 : ¬ halt = 19 := by
                suffices g11 : (halt == 19) = false from (by simpa using g11)
                assumption
              omega)
           | (have g10 := HB1.out.2 g4
              suffices g11 : ordB sent = false from absurd (g10.symm.trans g11) (by decide)
              assumption)
           | (have g10 := HB1.out.2 g4
              suffices g11 : (!ordB sent) = true from (by rw [g10] at g11; cases g11)
              assumption)
           | (have g10 := HB2.out.2 g5
              suffices g11 : ordB asked = false from absurd (g10.symm.trans g11) (by decide)
              assumption)
           | (have g10 := HB2.out.2 g5
              suffices g11 : (!ordB asked) = true from (by rw [g10] at g11; cases g11)
              assumption)
           | (have g10 := (inB_iff _ _ _).2 g1
              suffices g11 : inB next 0 255 = false from absurd (g10.symm.trans g11) (by decide)
              assumption)
           | (have g10 := (inB_iff _ _ _).2 g1
              suffices g11 : (!inB next 0 255) = true from (by rw [g10] at g11; cases g11)
              assumption)
           | (have g10 : inB timer 0 (patience - 1) = true := (inB_iff timer 0 (patience - 1)).2 ⟨g7.1, by omega⟩
              suffices g11 : inB timer 0 (patience - 1) = false from absurd (g10.symm.trans g11) (by decide)
              assumption)
           | (have g10 : inB timer 0 (patience - 1) = true := (inB_iff timer 0 (patience - 1)).2 ⟨g7.1, by omega⟩
              suffices g11 : (!inB timer 0 (patience - 1)) = true from (by rw [g10] at g11; cases g11)
              assumption)
           | (have g10 := (inB_iff _ _ _).2 g8
              suffices g11 : inB tries 0 limit = false from absurd (g10.symm.trans g11) (by decide)
              assumption)
           | (have g10 := (inB_iff _ _ _).2 g8
              suffices g11 : (!inB tries 0 limit) = true from (by rw [g10] at g11; cases g11)
              assumption)
           | (have g10 := (inB_iff _ _ _).2 g9
              suffices g11 : inB since 0 pause = false from absurd (g10.symm.trans g11) (by decide)
              assumption)
           | (have g10 := (inB_iff _ _ _).2 g9
              suffices g11 : (!inB since 0 pause) = true from (by rw [g10] at g11; cases g11)
              assumption))
      | (refine (decide_eq_true (HO.out.2 ?_)).symm
         have q0 : ordB sent = true := by
           first
             | assumption
             | (suffices g11 : (!ordB sent) = false from (by simpa using g11)
                assumption)
         have q1 : ordB asked = true := by
           first
             | assumption
             | (suffices g11 : (!ordB asked) = false from (by simpa using g11)
                assumption)
         have q2 : inB next 0 255 = true := by
           first
             | assumption
             | (suffices g11 : (!inB next 0 255) = false from (by simpa using g11)
                assumption)
         have q3 : inB timer 0 (patience - 1) = true := by
           first
             | assumption
             | (suffices g11 : (!inB timer 0 (patience - 1)) = false from (by simpa using g11)
                assumption)
         have q4 : inB tries 0 limit = true := by
           first
             | assumption
             | (suffices g11 : (!inB tries 0 limit) = false from (by simpa using g11)
                assumption)
         have q5 : inB since 0 pause = true := by
           first
             | assumption
             | (suffices g11 : (!inB since 0 pause) = false from (by simpa using g11)
                assumption)
         have q6 : halt = 0 ∨ halt = 15 ∨ halt = 11 ∨ halt = 19 := by
           first
             | (suffices g11 : (halt == 0) = true from (fun g12 => .inl g12) (by simpa using g11)
                assumption)
             | (suffices g11 : (halt == 15) = true from (fun g12 => .inr (.inl g12)) (by simpa using g11)
                assumption)
             | (suffices g11 : (halt == 11) = true from (fun g12 => .inr (.inr (.inl g12))) (by simpa using g11)
                assumption)
             | (suffices g11 : (halt == 19) = true from (fun g12 => .inr (.inr (.inr g12))) (by simpa using g11)
                assumption)
         have q12 := (inB_iff _ _ _).1 q2
         have q13 := (inB_iff _ _ _).1 q3
         have q14 := (inB_iff _ _ _).1 q4
         have q15 := (inB_iff _ _ _).1 q5
         exact ⟨hrd, q12, by omega, by omega, HB1.out.1 q0, HB2.out.1 q1, q6, ⟨q13.1, by omega⟩, q14, q15⟩)
  · have hno : r = false := HR.out.trans (handB_no (fun h => hrd (HO.out.1 h).1))
    subst hno
    go_enter Try.func41, Try.ntmps41
    go_wp2_with fail
    generalize w.alloc (.cells #[.int .i64 craft, .int .i64 next, .int .i64 ahead, .slice S n1 c, .slice A n2 d, .int .i64 timer, .int .i64 patience, .int .i64 tries, .int .i64 limit, .int .i64 since, .int .i64 pause, .int .i64 halt] 25) = W at *
    refine (ready_no craft ahead patience pause limit W hrd).mono ?_
    rintro e w1 ⟨rfl, hb⟩
    unfold handZero
    replace hB0 := hB0.trans (hb.mono hB0.size)
    go_wp2_with fail
    go_ret
    exact ⟨rfl, hB0.alloc hB0.size _⟩
end Go.Proofs.Ytppmdamcdhmcpaa
