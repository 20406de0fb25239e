/-
  A hand: whether it may be, by the program (all of it). A hand with memory of its own, by the document.
-/
import Derived.Test.YtppmdamcdhmcpaaMCommandSteps8
import Derived.Deep.DeepCutAuto
namespace Go.Proofs.Ytppmdamcdhmcpaa
set_option linter.unusedSimpArgs false
set_option linter.unusedVariables false
open Go.RowKit

set_option maxHeartbeats 12800000 in
set_option maxRecDepth 100000 in
theorem pready_any (h : Hnd) (S : Option Addr) (c : Nat) (A : Option Addr) (d : Nat) (w : World) (hS : RdRows w S h.sent) (hA : RdRows w A h.asked) (hsn : h.sent.length ≤ 5864062014634) (han : h.asked.length ≤ 5864062014634) (hsb : ∀ l ∈ h.sent, l.length ≤ 140737488351300) (hab : ∀ l ∈ h.asked, l.length ≤ 140737488351300) :
    Calls Try.prog 41 #[hdv h S c A d] w fun e w' => e = .returned (.bool (handB h)) ∧ Below w.heap.size w w' := by
  obtain ⟨r, hr⟩ : ∃ r, r = handB h := ⟨_, rfl⟩
  rw [← hr]
  unfold hdv
  obtain ⟨craft, next, ahead, sent, asked, timer, patience, tries, limit, since, pause, halt⟩ := h
  dsimp only at *
  obtain ⟨n1, hn1⟩ : ∃ n1, sent.length = n1 := ⟨_, rfl⟩
  obtain ⟨n2, hn2⟩ : ∃ n2, asked.length = n2 := ⟨_, rfl⟩
  rw [hn1] at hsn ⊢
  rw [hn2] at han ⊢
  have C1 := Lib.hid (fun w (h : RdRows w S sent) => containsR_any S sent n1 c w hn1 h hsn hsb)
  have C2 := Lib.hid (fun w (h : RdRows w A asked) => containsR_any A asked n2 d w hn2 h han hab)
  have HS := Lib.hid hS
  have HA := Lib.hid hA
  have b0 := Blk.new w 25 #[.int .i64 craft, .int .i64 next, .int .i64 ahead, .slice S n1 c, .slice A n2 d, .int .i64 timer, .int .i64 patience, .int .i64 tries, .int .i64 limit, .int .i64 since, .int .i64 pause, .int .i64 halt]
  have hB0 : Below w.heap.size w (w.alloc (.cells #[.int .i64 craft, .int .i64 next, .int .i64 ahead, .slice S n1 c, .slice A n2 d, .int .i64 timer, .int .i64 patience, .int .i64 tries, .int .i64 limit, .int .i64 since, .int .i64 pause, .int .i64 halt] 25)) := (Below.refl _ _).alloc (Nat.le_refl _) _
  obtain ⟨k0, k1, k2, k3, k4, k5, k6, k7, k8, k9, k10, k11, kf⟩ := b0.twelve
  have HR : Hid (r = handB ⟨craft, next, ahead, sent, asked, timer, patience, tries, limit, since, pause, halt⟩) := Lib.hid hr
  have HO : Hid (handOk ⟨craft, next, ahead, sent, asked, timer, patience, tries, limit, since, pause, halt⟩ ↔ rdOk craft ahead patience pause limit ∧ (0 ≤ next ∧ next ≤ 255) ∧ (n1 : Int) ≤ ahead ∧ n2 ≤ 100 ∧ ordOk sent ∧ ordOk asked ∧ (halt = 0 ∨ halt = 15 ∨ halt = 11 ∨ halt = 19) ∧ (0 ≤ timer ∧ timer < patience) ∧ (0 ≤ tries ∧ tries ≤ limit) ∧ (0 ≤ since ∧ since ≤ pause)) := Lib.hid (by rw [← hn1, ← hn2]; exact Iff.rfl)
  have HB1 : Hid (ordB sent = true ↔ ordOk sent) := Lib.hid (by unfold ordB; exact decide_eq_true_iff)
  have HB2 : Hid (ordB asked = true ↔ ordOk asked) := Lib.hid (by unfold ordB; exact decide_eq_true_iff)
  clear hn1 hn2 hr hS hA hsb hab
  by_cases hrd : rdOk craft ahead patience pause limit
  · have hpat : 1 ≤ patience ∧ patience ≤ 1000 := hrd.2.2.1
    go_enter Try.func41, Try.ntmps41
    go_wp2_with fail
    generalize w.alloc (.cells #[.int .i64 craft, .int .i64 next, .int .i64 ahead, .slice S n1 c, .slice A n2 d, .int .i64 timer, .int .i64 patience, .int .i64 tries, .int .i64 limit, .int .i64 since, .int .i64 pause, .int .i64 halt] 25) = W at *
    clear k0 k1 k2 k3 k4 k5 k6 k7 k8 k9 k10 k11 kf
    refine (ready_yes craft ahead patience pause limit W hrd).mono ?_
    rintro e w1 ⟨rfl, hb⟩
    replace b0 := b0.step hb
    replace hB0 := hB0.trans (hb.mono hB0.size)
    replace b0 := b0.alloc (.cells #[.int .i64 craft, .int .i64 0, .int .i64 ahead, .slice none 0 0, .slice none 0 0, .int .i64 0, .int .i64 patience, .int .i64 0, .int .i64 limit, .int .i64 pause, .int .i64 pause, .int .i64 0] 25)
    replace hB0 := hB0.alloc hB0.size (.cells #[.int .i64 craft, .int .i64 0, .int .i64 ahead, .slice none 0 0, .slice none 0 0, .int .i64 0, .int .i64 patience, .int .i64 0, .int .i64 limit, .int .i64 pause, .int .i64 pause, .int .i64 0] 25)
    unfold handNew
    have C1' := Lib.hid (C1.out _ (HS.out.below hB0))
    have C2' := Lib.hid (C2.out _ (HA.out.below hB0))
    obtain ⟨k0, k1, k2, k3, k4, k5, k6, k7, k8, k9, k10, k11, kf⟩ := b0.twelve
    clear C1 C2
    go_wp2_with (first
      | (go_at_call 23; refine (cin_any _ _ _ _).mono ?_; rintro e w' ⟨rfl, rfl⟩)
      | (go_at_call 50; first | ((with_reducible refine C1'.out.mono ?_); rintro e w' ⟨rfl, rfl⟩) | ((with_reducible refine C2'.out.mono ?_); rintro e w' ⟨rfl, rfl⟩)))
    all_goals (go_ret; refine ⟨ret_bool ?_, hB0⟩)
    all_goals (rw [HR.out]; unfold handB)
    all_goals first
      | (refine (decide_eq_false (fun hh => ?_)).symm
         obtain ⟨_, g1, g2, g3, g4, g5, g6, g7, g8, g9⟩ := HO.out.1 hh
         first
           | omega
           | (exfalso
              have e0 : ¬ halt = 0 := by
                suffices g11 : (halt == 0) = false from (by simpa using g11)
                assumption
              have e1 : ¬ halt = 15 := by
                suffices g11 : (halt == 15) = false from (by simpa using g11)
                assumption
              have e2 : ¬ halt = 11 := by
                suffices g11 : (halt == 11) = false from (by simpa using g11)
                assumption
              have e3 : ¬ halt = 19 := by
                suffices g11 : (halt == 19) = false from (by simpa using g11)
                assumption
              omega)
           | (have g10 := HB1.out.2 g4
              suffices g11 : ordB sent = false from absurd (g10.symm.trans g11) (by decide)
              assumption)
           | (have g10 := HB1.out.2 g4
              suffices g11 : (!ordB sent) = true from (by rw [g10] at g11; cases g11)
              assumption)
           | (have g10 := HB2.out.2 g5
              suffices g11 : ordB asked = false from absurd (g10.symm.trans g11) (by decide)
              assumption)
           | (have g10 := HB2.out.2 g5
              suffices g11 : (!ordB asked) = true from (by rw [g10] at g11; cases g11)
              assumption)
           | (have g10 := (inB_iff _ _ _).2 g1
              suffices g11 : inB next 0 255 = false from absurd (g10.symm.trans g11) (by decide)
              assumption)
           | (have g10 := (inB_iff _ _ _).2 g1
              suffices g11 : (!inB next 0 255) = true from (by rw [g10] at g11; cases g11)
              assumption)
           | (have g10 : inB timer 0 (patience - 1) = true := (inB_iff timer 0 (patience - 1)).2 ⟨g7.1, by omega⟩
              suffices g11 : inB timer 0 (patience - 1) = false from absurd (g10.symm.trans g11) (by decide)
              assumption)
           | (have g10 : inB timer 0 (patience - 1) = true := (inB_iff timer 0 (patience - 1)).2 ⟨g7.1, by omega⟩
              suffices g11 : (!inB timer 0 (patience - 1)) = true from (by rw [g10] at g11; cases g11)
              assumption)
           | (have g10 := (inB_iff _ _ _).2 g8
              suffices g11 : inB tries 0 limit = false from absurd (g10.symm.trans g11) (by decide)
              assumption)
           | (have g10 := (inB_iff _ _ _).2 g8
              suffices g11 : (!inB tries 0 limit) = true from (by rw [g10] at g11; cases g11)
              assumption)
           | (have g10 := (inB_iff _ _ _).2 g9
              suffices g11 : inB since 0 pause = false from absurd (g10.symm.trans g11) (by decide)
              assumption)
           | (have g10 := (inB_iff _ _ _).2 g9
              suffices g11 : (!inB since 0 pause) = true from (by rw [g10] at g11; cases g11)
              assumption))
      | (refine (decide_eq_true (HO.out.2 ?_)).symm
         have q0 : ordB sent = true := by
           first
             | assumption
             | (suffices g11 : (!ordB sent) = false from (by simpa using g11)
                assumption)
         have q1 : ordB asked = true := by
           first
             | assumption
             | (suffices g11 : (!ordB asked) = false from (by simpa using g11)
                assumption)
         have q2 : inB next 0 255 = true := by
           first
             | assumption
             | (suffices g11 : (!inB next 0 255) = false from (by simpa using g11)
                assumption)
         have q3 : inB timer 0 (patience - 1) = true := by
           first
             | assumption
             | (suffices g11 : (!inB timer 0 (patience - 1)) = false from (by simpa using g11)
                assumption)
         have q4 : inB tries 0 limit = true := by
           first
             | assumption
             | (suffices g11 : (!inB tries 0 limit) = false from (by simpa using g11)
                assumption)
         have q5 : inB since 0 pause = true := by
           first
             | assumption
             | (suffices g11 : (!inB since 0 pause) = false from (by simpa using g11)
                assumption)
         have q6 : halt = 0 ∨ halt = 15 ∨ halt = 11 ∨ halt = 19 := by
           first
             | (suffices g11 : (halt == 0) = true from (fun g12 => .inl g12) (by simpa using g11)
                assumption)
             | (suffices g11 : (halt == 15) = true from (fun g12 => .inr (.inl g12)) (by simpa using g11)
                assumption)
             | (suffices g11 : (halt == 11) = true from (fun g12 => .inr (.inr (.inl g12))) (by simpa using g11)
                assumption)
             | (suffices g11 : (halt == 19) = true from (fun g12 => .inr (.inr (.inr g12))) (by simpa using g11)
                assumption)
         have q12 := (inB_iff _ _ _).1 q2
         have q13 := (inB_iff _ _ _).1 q3
         have q14 := (inB_iff _ _ _).1 q4
         have q15 := (inB_iff _ _ _).1 q5
         exact ⟨hrd, q12, by omega, by omega, HB1.out.1 q0, HB2.out.1 q1, q6, ⟨q13.1, by omega⟩, q14, q15⟩)
  · have hno : r = false := HR.out.trans (handB_no (fun h => hrd (HO.out.1 h).1))
    subst hno
    go_enter Try.func41, Try.ntmps41
    go_wp2_with fail
    generalize w.alloc (.cells #[.int .i64 craft, .int .i64 next, .int .i64 ahead, .slice S n1 c, .slice A n2 d, .int .i64 timer, .int .i64 patience, .int .i64 tries, .int .i64 limit, .int .i64 since, .int .i64 pause, .int .i64 halt] 25) = W at *
    refine (ready_no craft ahead patience pause limit W hrd).mono ?_
    rintro e w1 ⟨rfl, hb⟩
    unfold handZero
    replace hB0 := hB0.trans (hb.mono hB0.size)
    go_wp2_with fail
    go_ret
    exact ⟨rfl, hB0.alloc hB0.size _⟩
end Go.Proofs.Ytppmdamcdhmcpaa
namespace Go.Proofs.Ytppmdamcdhmcpaa
set_option linter.unusedSimpArgs false
set_option linter.unusedVariables false
open Go.RowKit

/-- Two rows of rows share no block. -/
def Disj (A : Option Addr) (l : List RowR) (B : Option Addr) (m : List RowR) : Prop := ∀ q, Touch A l q → ¬ Touch B m q
theorem Disj.symm {A B : Option Addr} {l m : List RowR} (h : Disj A l B m) : Disj B m A l := fun q h1 h2 => h q h2 h1
/-- What belongs to two calls lies apart. -/
theorem OwnRs.disj {w w' : World} {b b' n m c d : Nat} {A B : Option Addr} {l k : List RowR} (h : OwnRs w b A n c l) (h' : OwnRs w' b' B m d k) (hb : w.heap.size ≤ b') : Disj A l B k := fun q h1 h2 => by
  have := (h.lt h1).2
  have := (h'.lt h2).1
  omega
theorem Disj.nil (A : Option Addr) (l : List RowR) : Disj A l none [] := fun q _ h => by
  rcases h with h | ⟨i, r, hr, _⟩
  · simp [blk] at h
  · simp at hr
/-- A hand's value. -/
def hvn (h : Hnd) (S : Option Addr) (n1 c : Nat) (A : Option Addr) (n2 d : Nat) : Value := .agg #[.int .i64 h.craft, .int .i64 h.next, .int .i64 h.ahead, .slice S n1 c, .slice A n2 d, .int .i64 h.timer, .int .i64 h.patience, .int .i64 h.tries, .int .i64 h.limit, .int .i64 h.since, .int .i64 h.pause, .int .i64 h.halt]
theorem hvn_hdv (h : Hnd) (S : Option Addr) (c : Nat) (A : Option Addr) (d : Nat) : hvn h S h.sent.length c A h.asked.length d = hdv h S c A d := rfl

theorem handsz : (Try.prog.info? 25).map (·.size) = some 12 := by kernel_rfl
section
variable {w w' : World} {g : Nat} {t : TypeId} {cs ds : Array Value}
theorem Blk.row (h : Blk w g t cs) (ds : Array Value) : Blk (w.setRow g ds) g t ds := setRow_heap w g cs ds t (0, 0) h
theorem setRow_size (w : World) (g : Nat) (ds : Array Value) : (w.setRow g ds).heap.size = w.heap.size := by simp [World.setRow]
theorem grown_row (w : World) (g : Nat) (ds : Array Value) : w.grownBy (w.setRow g ds) (some g) := ⟨rfl, rfl, rfl, Nat.le_of_eq (setRow_size w g ds).symm, fun k _ hk => setRow_other w g k ds (fun e => hk (by rw [e]))⟩
theorem Blk.farRow {k : Nat} (h : Blk w k t cs) (hk : k ≠ g) (ds : Array Value) : Blk (w.setRow g ds) k t cs := (setRow_other w g k ds hk).trans h
theorem below_row {N : Nat} (h : Below N w w') (hg : N ≤ g) (ds : Array Value) : Below N w (w'.setRow g ds) := ⟨h.os, h.tape, h.output, by rw [setRow_size]; exact h.size, fun k hk => (setRow_other w' g k ds (by omega)).trans (h.block k hk)⟩
end
theorem hand_one (h : Hnd) (S : Option Addr) (n1 c : Nat) (A : Option Addr) (n2 d : Nat) : (#[.int .i64 h.craft, .int .i64 h.next, .int .i64 h.ahead, .slice S n1 c, .slice A n2 d, .int .i64 h.timer, .int .i64 h.patience, .int .i64 h.tries, .int .i64 h.limit, .int .i64 h.since, .int .i64 h.pause, .int .i64 h.halt] : Array Value).all (·.oneCell') = true := by simp [Value.oneCell']
theorem OwnRs.lowRow {w : World} {base g n c : Nat} {A : Option Addr} {l : List RowR} (h : OwnRs w base A n c l) (hg : g < base) (ds : Array Value) : OwnRs (w.setRow g ds) base A n c l := h.keep fun q hq => setRow_other w g q ds (by have := (h.lt hq).1; omega)

set_option maxHeartbeats 6400000 in
set_option maxRecDepth 100000 in
theorem rhandOf_any (h : Hnd) (S : Option Addr) (n1 c : Nat) (A : Option Addr) (n2 d : Nat) (w : World) (hn1 : h.sent.length = n1) (hn2 : h.asked.length = n2) (hS : RdRows w S h.sent) (hA : RdRows w A h.asked) (hsn : n1 ≤ 5864062014634) (han : n2 ≤ 5864062014634) (hsb : ∀ l ∈ h.sent, l.length ≤ 140737488351300) (hab : ∀ l ∈ h.asked, l.length ≤ 140737488351300) :
    Calls Try.prog 12 #[hvn h S n1 c A n2 d] w fun e w' => ∃ S' c' A' d' sl al, e = .returned (hvn h S' n1 c' A' n2 d') ∧ sl.map RowR.b = h.sent ∧ al.map RowR.b = h.asked ∧ OwnRs w' w.heap.size S' n1 c' sl ∧ OwnRs w' w.heap.size A' n2 d' al ∧ Disj S' sl A' al ∧ Below w.heap.size w w' := by
  have C1 := Lib.hid (fun w (hS : RdRows w S h.sent) => rrows_any S h.sent n1 c w hn1 hS hsn hsb)
  have C2 := Lib.hid (fun w (hA : RdRows w A h.asked) => rrows_any A h.asked n2 d w hn2 hA han hab)
  have HS := Lib.hid hS
  have HA := Lib.hid hA
  clear hn1 hn2 hS hA hsb hab
  unfold hvn
  have b1 := (Blk.new w 25 #[.int .i64 h.craft, .int .i64 h.next, .int .i64 h.ahead, .slice S n1 c, .slice A n2 d, .int .i64 h.timer, .int .i64 h.patience, .int .i64 h.tries, .int .i64 h.limit, .int .i64 h.since, .int .i64 h.pause, .int .i64 h.halt]).alloc (.cells #[.int .i64 0, .int .i64 0, .int .i64 0, .slice none 0 0, .slice none 0 0, .int .i64 0, .int .i64 0, .int .i64 0, .int .i64 0, .int .i64 0, .int .i64 0, .int .i64 0] 25)
  have b2 := Blk.new (w.alloc (.cells #[.int .i64 h.craft, .int .i64 h.next, .int .i64 h.ahead, .slice S n1 c, .slice A n2 d, .int .i64 h.timer, .int .i64 h.patience, .int .i64 h.tries, .int .i64 h.limit, .int .i64 h.since, .int .i64 h.pause, .int .i64 h.halt] 25)) 25 #[.int .i64 0, .int .i64 0, .int .i64 0, .slice none 0 0, .slice none 0 0, .int .i64 0, .int .i64 0, .int .i64 0, .int .i64 0, .int .i64 0, .int .i64 0, .int .i64 0]
  rw [show (w.alloc (.cells #[.int .i64 h.craft, .int .i64 h.next, .int .i64 h.ahead, .slice S n1 c, .slice A n2 d, .int .i64 h.timer, .int .i64 h.patience, .int .i64 h.tries, .int .i64 h.limit, .int .i64 h.since, .int .i64 h.pause, .int .i64 h.halt] 25)).heap.size = w.heap.size + 1 by simp] at b2
  have hB0 : Below w.heap.size w ((w.alloc (.cells #[.int .i64 h.craft, .int .i64 h.next, .int .i64 h.ahead, .slice S n1 c, .slice A n2 d, .int .i64 h.timer, .int .i64 h.patience, .int .i64 h.tries, .int .i64 h.limit, .int .i64 h.since, .int .i64 h.pause, .int .i64 h.halt] 25)).alloc (.cells #[.int .i64 0, .int .i64 0, .int .i64 0, .slice none 0 0, .slice none 0 0, .int .i64 0, .int .i64 0, .int .i64 0, .int .i64 0, .int .i64 0, .int .i64 0, .int .i64 0] 25)) := ((Below.refl _ _).alloc (Nat.le_refl _) _).alloc (by simp) _
  have hz0 : ((w.alloc (.cells #[.int .i64 h.craft, .int .i64 h.next, .int .i64 h.ahead, .slice S n1 c, .slice A n2 d, .int .i64 h.timer, .int .i64 h.patience, .int .i64 h.tries, .int .i64 h.limit, .int .i64 h.since, .int .i64 h.pause, .int .i64 h.halt] 25)).alloc (.cells #[.int .i64 0, .int .i64 0, .int .i64 0, .slice none 0 0, .slice none 0 0, .int .i64 0, .int .i64 0, .int .i64 0, .int .i64 0, .int .i64 0, .int .i64 0, .int .i64 0] 25)).heap.size = w.heap.size + 2 := by simp
  have k3 := b1.cell' (i := 3) rfl
  go_enter Try.func12, Try.ntmps12
  go_wp2_with fail
  clear k3
  generalize (w.alloc (.cells #[.int .i64 h.craft, .int .i64 h.next, .int .i64 h.ahead, .slice S n1 c, .slice A n2 d, .int .i64 h.timer, .int .i64 h.patience, .int .i64 h.tries, .int .i64 h.limit, .int .i64 h.since, .int .i64 h.pause, .int .i64 h.halt] 25)).alloc (.cells #[.int .i64 0, .int .i64 0, .int .i64 0, .slice none 0 0, .slice none 0 0, .int .i64 0, .int .i64 0, .int .i64 0, .int .i64 0, .int .i64 0, .int .i64 0, .int .i64 0] 25) = W at *
  refine (C1.out W (HS.out.below hB0)).mono ?_
  rintro e w1 ⟨S', c', rfl, ⟨sl, hsl, hO1⟩, hb1⟩
  clear C1 HS
  have HSL := Lib.hid hsl
  clear hsl
  have z1 := hb1.size
  replace b1 := b1.step hb1
  replace b2 := b2.step hb1
  replace hB0 := hB0.trans (hb1.mono hB0.size)
  have k3 := b1.cell' (i := 3) rfl
  have kf := b1.frozen
  have b1' := b1.set_ 3 (.slice S' n1 c')
  have k4 := b1'.cell' (i := 4) rfl
  have b2' := b2.far (p := ⟨w.heap.size, 3, none⟩) (by simp) (.slice S' n1 c')
  have hO1' := hO1.low (p := ⟨w.heap.size, 3, none⟩) (by show w.heap.size < W.heap.size; omega) (.slice S' n1 c')
  have hB1 := hB0.setCell (p := ⟨w.heap.size, 3, none⟩) (Nat.le_refl _) (.slice S' n1 c')
  have z1' : (w1.setCell ⟨w.heap.size, 3, none⟩ (.slice S' n1 c')).heap.size = w1.heap.size := by simp
  go_wp2_with fail
  clear k3 k4 kf b1 b2 hO1 hB0
  generalize w1.setCell ⟨w.heap.size, 3, none⟩ (.slice S' n1 c') = W1 at *
  refine (C2.out W1 (HA.out.below hB1)).mono ?_
  rintro e w2 ⟨A', d', rfl, ⟨al, hal, hO2⟩, hb2⟩
  have HAL := Lib.hid hal
  clear hal C2 HA
  have z2 := hb2.size
  have b1 := b1'.step hb2
  have b2 := b2'.step hb2
  have hO1 := hO1'.step hb2
  have hdj : Disj S' sl A' al := hO1'.disj hO2 (Nat.le_refl _)
  have hB2 := hB1.trans (hb2.mono hB1.size)
  have k4 := b1.cell' (i := 4) rfl
  have kf := b1.frozen
  have b1'' := b1.set_ 4 (.slice A' n2 d')
  have b2'' := b2.far (p := ⟨w.heap.size, 4, none⟩) (by simp) (.slice A' n2 d')
  have hO1'' := hO1.low (p := ⟨w.heap.size, 4, none⟩) (by show w.heap.size < W.heap.size; omega) (.slice A' n2 d')
  have hO2'' := hO2.low (p := ⟨w.heap.size, 4, none⟩) (by show w.heap.size < W1.heap.size; omega) (.slice A' n2 d')
  have hB3 := hB2.setCell (p := ⟨w.heap.size, 4, none⟩) (Nat.le_refl _) (.slice A' n2 d')
  have z2' : (w2.setCell ⟨w.heap.size, 4, none⟩ (.slice A' n2 d')).heap.size = w2.heap.size := by simp
  replace b1'' : Blk (w2.setCell ⟨w.heap.size, 4, none⟩ (.slice A' n2 d')) w.heap.size 25 #[.int .i64 h.craft, .int .i64 h.next, .int .i64 h.ahead, .slice S' n1 c', .slice A' n2 d', .int .i64 h.timer, .int .i64 h.patience, .int .i64 h.tries, .int .i64 h.limit, .int .i64 h.since, .int .i64 h.pause, .int .i64 h.halt] := b1''
  clear b1' b2' hO1' hB1 hO1 hO2 hB2 hb1 hb2
  go_upto_region 3 with fail
  clear k4 kf b1 b2
  generalize w2.setCell ⟨w.heap.size, 4, none⟩ (.slice A' n2 d') = W2 at *
  go_wp2_with (first
    | (refine wpList_load_row rfl 25 (.tmp 1) rfl w.heap.size rfl 25 #[.int .i64 h.craft, .int .i64 h.next, .int .i64 h.ahead, .slice S' n1 c', .slice A' n2 d', .int .i64 h.timer, .int .i64 h.patience, .int .i64 h.tries, .int .i64 h.limit, .int .i64 h.since, .int .i64 h.pause, .int .i64 h.halt] (0, 0) _ b1'' Try.underlying25 rfl handsz ?_)
    | (refine wpList_store_row rfl 25 (.tmp 2) (.tmp 11) rfl (w.heap.size + 1) #[.int .i64 h.craft, .int .i64 h.next, .int .i64 h.ahead, .slice S' n1 c', .slice A' n2 d', .int .i64 h.timer, .int .i64 h.patience, .int .i64 h.tries, .int .i64 h.limit, .int .i64 h.since, .int .i64 h.pause, .int .i64 h.halt] rfl rfl 25 _ b2'' handsz rfl (hand_one h S' n1 c' A' n2 d') ?_))
  have b2 := b2''.row #[.int .i64 h.craft, .int .i64 h.next, .int .i64 h.ahead, .slice S' n1 c', .slice A' n2 d', .int .i64 h.timer, .int .i64 h.patience, .int .i64 h.tries, .int .i64 h.limit, .int .i64 h.since, .int .i64 h.pause, .int .i64 h.halt]
  refine bodyPost_ret (v := .agg #[.int .i64 h.craft, .int .i64 h.next, .int .i64 h.ahead, .slice S' n1 c', .slice A' n2 d', .int .i64 h.timer, .int .i64 h.patience, .int .i64 h.tries, .int .i64 h.limit, .int .i64 h.since, .int .i64 h.pause, .int .i64 h.halt]) (results_cell_row (ty := 25) rfl _ _ (w.heap.size + 1) 25 _ (0, 0) _ rfl b2 Try.underlying25 rfl handsz) rfl ?_
  refine ⟨S', c', A', d', sl, al, rfl, HSL.out, HAL.out, ?_, ?_, hdj, below_row hB3 (by omega) _⟩
  · exact (hO1''.lowRow (by omega) _).mono (by omega)
  · exact (hO2''.lowRow (by omega) _).mono (by omega)
end Go.Proofs.Ytppmdamcdhmcpaa
