/-
  A hand with memory of its own, by the document.
-/
import Derived.Test.YtppmdamcdhmcpaaHandS
import Derived.Deep.DeepCutAuto
namespace Go.Proofs.Ytppmdamcdhmcpaa
set_option linter.unusedSimpArgs false
set_option linter.unusedVariables false
open Go.RowKit

/-- Two rows of rows share no block. -/
def Disj (A : Option Addr) (l : List RowR) (B : Option Addr) (m : List RowR) : Prop := ∀ q, Touch A l q → ¬ Touch B m q
theorem Disj.symm {A B : Option Addr} {l m : List RowR} (h : Disj A l B m) : Disj B m A l := fun q h1 h2 => h q h2 h1
/-- What belongs to two calls lies apart. -/
theorem OwnRs.disj {w w' : World} {b b' n m c d : Nat} {A B : Option Addr} {l k : List RowR} (h : OwnRs w b A n c l) (h' : OwnRs w' b' B m d k) (hb : w.heap.size ≤ b') : Disj A l B k := fun q h1 h2 => by
  have := (h.lt h1).2
  have := (h'.lt h2).1
  omega
theorem Disj.nil (A : Option Addr) (l : List RowR) : Disj A l none [] := fun q _ h => by
  rcases h with h | ⟨i, r, hr, _⟩
  · simp [blk] at h
  · simp at hr
/-- A hand's value. -/
def hvn (h : Hnd) (S : Option Addr) (n1 c : Nat) (A : Option Addr) (n2 d : Nat) : Value := .agg #[.int .i64 h.craft, .int .i64 h.next, .int .i64 h.ahead, .slice S n1 c, .slice A n2 d, .int .i64 h.timer, .int .i64 h.patience, .int .i64 h.tries, .int .i64 h.limit, .int .i64 h.since, .int .i64 h.pause, .int .i64 h.halt]
theorem hvn_hdv (h : Hnd) (S : Option Addr) (c : Nat) (A : Option Addr) (d : Nat) : hvn h S h.sent.length c A h.asked.length d = hdv h S c A d := rfl

theorem handsz : (Try.prog.info? 25).map (·.size) = some 12 := by kernel_rfl
section
variable {w w' : World} {g : Nat} {t : TypeId} {cs ds : Array Value}
theorem Blk.row (h : Blk w g t cs) (ds : Array Value) : Blk (w.setRow g ds) g t ds := setRow_heap w g cs ds t (0, 0) h
theorem setRow_size (w : World) (g : Nat) (ds : Array Value) : (w.setRow g ds).heap.size = w.heap.size := by simp [World.setRow]
theorem grown_row (w : World) (g : Nat) (ds : Array Value) : w.grownBy (w.setRow g ds) (some g) := ⟨rfl, rfl, rfl, Nat.le_of_eq (setRow_size w g ds).symm, fun k _ hk => setRow_other w g k ds (fun e => hk (by rw [e]))⟩
theorem Blk.farRow {k : Nat} (h : Blk w k t cs) (hk : k ≠ g) (ds : Array Value) : Blk (w.setRow g ds) k t cs := (setRow_other w g k ds hk).trans h
theorem below_row {N : Nat} (h : Below N w w') (hg : N ≤ g) (ds : Array Value) : Below N w (w'.setRow g ds) := ⟨h.os, h.tape, h.output, by rw [setRow_size]; exact h.size, fun k hk => (setRow_other w' g k ds (by omega)).trans (h.block k hk)⟩
end
theorem hand_one (h : Hnd) (S : Option Addr) (n1 c : Nat) (A : Option Addr) (n2 d : Nat) : (#[.int .i64 h.craft, .int .i64 h.next, .int .i64 h.ahead, .slice S n1 c, .slice A n2 d, .int .i64 h.timer, .int .i64 h.patience, .int .i64 h.tries, .int .i64 h.limit, .int .i64 h.since, .int .i64 h.pause, .int .i64 h.halt] : Array Value).all (·.oneCell') = true := by simp [Value.oneCell']
theorem OwnRs.lowRow {w : World} {base g n c : Nat} {A : Option Addr} {l : List RowR} (h : OwnRs w base A n c l) (hg : g < base) (ds : Array Value) : OwnRs (w.setRow g ds) base A n c l := h.keep fun q hq => setRow_other w g q ds (by have := (h.lt hq).1; omega)

set_option maxHeartbeats 6400000 in
set_option maxRecDepth 100000 in
theorem rhandOf_any (h : Hnd) (S : Option Addr) (n1 c : Nat) (A : Option Addr) (n2 d : Nat) (w : World) (hn1 : h.sent.length = n1) (hn2 : h.asked.length = n2) (hS : RdRows w S h.sent) (hA : RdRows w A h.asked) (hsn : n1 ≤ 5864062014634) (han : n2 ≤ 5864062014634) (hsb : ∀ l ∈ h.sent, l.length ≤ 140737488351300) (hab : ∀ l ∈ h.asked, l.length ≤ 140737488351300) :
    Calls Try.prog 12 #[hvn h S n1 c A n2 d] w fun e w' => ∃ S' c' A' d' sl al, e = .returned (hvn h S' n1 c' A' n2 d') ∧ sl.map RowR.b = h.sent ∧ al.map RowR.b = h.asked ∧ OwnRs w' w.heap.size S' n1 c' sl ∧ OwnRs w' w.heap.size A' n2 d' al ∧ Disj S' sl A' al ∧ Below w.heap.size w w' := by
  have C1 := Lib.hid (fun w (hS : RdRows w S h.sent) => rrows_any S h.sent n1 c w hn1 hS hsn hsb)
  have C2 := Lib.hid (fun w (hA : RdRows w A h.asked) => rrows_any A h.asked n2 d w hn2 hA han hab)
  have HS := Lib.hid hS
  have HA := Lib.hid hA
  clear hn1 hn2 hS hA hsb hab
  unfold hvn
  have b1 := (Blk.new w 25 #[.int .i64 h.craft, .int .i64 h.next, .int .i64 h.ahead, .slice S n1 c, .slice A n2 d, .int .i64 h.timer, .int .i64 h.patience, .int .i64 h.tries, .int .i64 h.limit, .int .i64 h.since, .int .i64 h.pause, .int .i64 h.halt]).alloc (.cells #[.int .i64 0, .int .i64 0, .int .i64 0, .slice none 0 0, .slice none 0 0, .int .i64 0, .int .i64 0, .int .i64 0, .int .i64 0, .int .i64 0, .int .i64 0, .int .i64 0] 25)
  have b2 := Blk.new (w.alloc (.cells #[.int .i64 h.craft, .int .i64 h.next, .int .i64 h.ahead, .slice S n1 c, .slice A n2 d, .int .i64 h.timer, .int .i64 h.patience, .int .i64 h.tries, .int .i64 h.limit, .int .i64 h.since, .int .i64 h.pause, .int .i64 h.halt] 25)) 25 #[.int .i64 0, .int .i64 0, .int .i64 0, .slice none 0 0, .slice none 0 0, .int .i64 0, .int .i64 0, .int .i64 0, .int .i64 0, .int .i64 0, .int .i64 0, .int .i64 0]
  rw [show (w.alloc (.cells #[.int .i64 h.craft, .int .i64 h.next, .int .i64 h.ahead, .slice S n1 c, .slice A n2 d, .int .i64 h.timer, .int .i64 h.patience, .int .i64 h.tries, .int .i64 h.limit, .int .i64 h.since, .int .i64 h.pause, .int .i64 h.halt] 25)).heap.size = w.heap.size + 1 by simp] at b2
  have hB0 : Below w.heap.size w ((w.alloc (.cells #[.int .i64 h.craft, .int .i64 h.next, .int .i64 h.ahead, .slice S n1 c, .slice A n2 d, .int .i64 h.timer, .int .i64 h.patience, .int .i64 h.tries, .int .i64 h.limit, .int .i64 h.since, .int .i64 h.pause, .int .i64 h.halt] 25)).alloc (.cells #[.int .i64 0, .int .i64 0, .int .i64 0, .slice none 0 0, .slice none 0 0, .int .i64 0, .int .i64 0, .int .i64 0, .int .i64 0, .int .i64 0, .int .i64 0, .int .i64 0] 25)) := ((Below.refl _ _).alloc (Nat.le_refl _) _).alloc (by simp) _
  have hz0 : ((w.alloc (.cells #[.int .i64 h.craft, .int .i64 h.next, .int .i64 h.ahead, .slice S n1 c, .slice A n2 d, .int .i64 h.timer, .int .i64 h.patience, .int .i64 h.tries, .int .i64 h.limit, .int .i64 h.since, .int .i64 h.pause, .int .i64 h.halt] 25)).alloc (.cells #[.int .i64 0, .int .i64 0, .int .i64 0, .slice none 0 0, .slice none 0 0, .int .i64 0, .int .i64 0, .int .i64 0, .int .i64 0, .int .i64 0, .int .i64 0, .int .i64 0] 25)).heap.size = w.heap.size + 2 := by simp
  have k3 := b1.cell' (i := 3) rfl
  go_enter Try.func12, Try.ntmps12
  go_wp2_with fail
  clear k3
  generalize (w.alloc (.cells #[.int .i64 h.craft, .int .i64 h.next, .int .i64 h.ahead, .slice S n1 c, .slice A n2 d, .int .i64 h.timer, .int .i64 h.patience, .int .i64 h.tries, .int .i64 h.limit, .int .i64 h.since, .int .i64 h.pause, .int .i64 h.halt] 25)).alloc (.cells #[.int .i64 0, .int .i64 0, .int .i64 0, .slice none 0 0, .slice none 0 0, .int .i64 0, .int .i64 0, .int .i64 0, .int .i64 0, .int .i64 0, .int .i64 0, .int .i64 0] 25) = W at *
  refine (C1.out W (HS.out.below hB0)).mono ?_
  rintro e w1 ⟨S', c', rfl, ⟨sl, hsl, hO1⟩, hb1⟩
  clear C1 HS
  have HSL := Lib.hid hsl
  clear hsl
  have z1 := hb1.size
  replace b1 := b1.step hb1
  replace b2 := b2.step hb1
  replace hB0 := hB0.trans (hb1.mono hB0.size)
  have k3 := b1.cell' (i := 3) rfl
  have kf := b1.frozen
  have b1' := b1.set_ 3 (.slice S' n1 c')
  have k4 := b1'.cell' (i := 4) rfl
  have b2' := b2.far (p := ⟨w.heap.size, 3, none⟩) (by simp) (.slice S' n1 c')
  have hO1' := hO1.low (p := ⟨w.heap.size, 3, none⟩) (by show w.heap.size < W.heap.size; omega) (.slice S' n1 c')
  have hB1 := hB0.setCell (p := ⟨w.heap.size, 3, none⟩) (Nat.le_refl _) (.slice S' n1 c')
  have z1' : (w1.setCell ⟨w.heap.size, 3, none⟩ (.slice S' n1 c')).heap.size = w1.heap.size := by simp
  go_wp2_with fail
  clear k3 k4 kf b1 b2 hO1 hB0
  generalize w1.setCell ⟨w.heap.size, 3, none⟩ (.slice S' n1 c') = W1 at *
  refine (C2.out W1 (HA.out.below hB1)).mono ?_
  rintro e w2 ⟨A', d', rfl, ⟨al, hal, hO2⟩, hb2⟩
  have HAL := Lib.hid hal
  clear hal C2 HA
  have z2 := hb2.size
  have b1 := b1'.step hb2
  have b2 := b2'.step hb2
  have hO1 := hO1'.step hb2
  have hdj : Disj S' sl A' al := hO1'.disj hO2 (Nat.le_refl _)
  have hB2 := hB1.trans (hb2.mono hB1.size)
  have k4 := b1.cell' (i := 4) rfl
  have kf := b1.frozen
  have b1'' := b1.set_ 4 (.slice A' n2 d')
  have b2'' := b2.far (p := ⟨w.heap.size, 4, none⟩) (by simp) (.slice A' n2 d')
  have hO1'' := hO1.low (p := ⟨w.heap.size, 4, none⟩) (by show w.heap.size < W.heap.size; omega) (.slice A' n2 d')
  have hO2'' := hO2.low (p := ⟨w.heap.size, 4, none⟩) (by show w.heap.size < W1.heap.size; omega) (.slice A' n2 d')
  have hB3 := hB2.setCell (p := ⟨w.heap.size, 4, none⟩) (Nat.le_refl _) (.slice A' n2 d')
  have z2' : (w2.setCell ⟨w.heap.size, 4, none⟩ (.slice A' n2 d')).heap.size = w2.heap.size := by simp
  replace b1'' : Blk (w2.setCell ⟨w.heap.size, 4, none⟩ (.slice A' n2 d')) w.heap.size 25 #[.int .i64 h.craft, .int .i64 h.next, .int .i64 h.ahead, .slice S' n1 c', .slice A' n2 d', .int .i64 h.timer, .int .i64 h.patience, .int .i64 h.tries, .int .i64 h.limit, .int .i64 h.since, .int .i64 h.pause, .int .i64 h.halt] := b1''
  clear b1' b2' hO1' hB1 hO1 hO2 hB2 hb1 hb2
  go_upto_region 3 with fail
  clear k4 kf b1 b2
  generalize w2.setCell ⟨w.heap.size, 4, none⟩ (.slice A' n2 d') = W2 at *
  go_wp2_with (first
    | (refine wpList_load_row rfl 25 (.tmp 1) rfl w.heap.size rfl 25 #[.int .i64 h.craft, .int .i64 h.next, .int .i64 h.ahead, .slice S' n1 c', .slice A' n2 d', .int .i64 h.timer, .int .i64 h.patience, .int .i64 h.tries, .int .i64 h.limit, .int .i64 h.since, .int .i64 h.pause, .int .i64 h.halt] (0, 0) _ b1'' Try.underlying25 rfl handsz ?_)
    | (refine wpList_store_row rfl 25 (.tmp 2) (.tmp 11) rfl (w.heap.size + 1) #[.int .i64 h.craft, .int .i64 h.next, .int .i64 h.ahead, .slice S' n1 c', .slice A' n2 d', .int .i64 h.timer, .int .i64 h.patience, .int .i64 h.tries, .int .i64 h.limit, .int .i64 h.since, .int .i64 h.pause, .int .i64 h.halt] rfl rfl 25 _ b2'' handsz rfl (hand_one h S' n1 c' A' n2 d') ?_))
  have b2 := b2''.row #[.int .i64 h.craft, .int .i64 h.next, .int .i64 h.ahead, .slice S' n1 c', .slice A' n2 d', .int .i64 h.timer, .int .i64 h.patience, .int .i64 h.tries, .int .i64 h.limit, .int .i64 h.since, .int .i64 h.pause, .int .i64 h.halt]
  refine bodyPost_ret (v := .agg #[.int .i64 h.craft, .int .i64 h.next, .int .i64 h.ahead, .slice S' n1 c', .slice A' n2 d', .int .i64 h.timer, .int .i64 h.patience, .int .i64 h.tries, .int .i64 h.limit, .int .i64 h.since, .int .i64 h.pause, .int .i64 h.halt]) (results_cell_row (ty := 25) rfl _ _ (w.heap.size + 1) 25 _ (0, 0) _ rfl b2 Try.underlying25 rfl handsz) rfl ?_
  refine ⟨S', c', A', d', sl, al, rfl, HSL.out, HAL.out, ?_, ?_, hdj, below_row hB3 (by omega) _⟩
  · exact (hO1''.lowRow (by omega) _).mono (by omega)
  · exact (hO2''.lowRow (by omega) _).mono (by omega)
end Go.Proofs.Ytppmdamcdhmcpaa
