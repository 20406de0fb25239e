/-
  Takers that are the same. Gaps within so many bytes: by the document and by the program.
-/
import Derived.Test.YtianombjgdmbeaaMDeliverTakes9
import Derived.Test.YtianombjgdmbeaaMDeliverTakes14
import Derived.WalkSpells
import Derived.Test.YtianombjgdmbeaaMDeliverTakes13
namespace Go.Proofs.Ytianombjgdmbeaa
set_option linter.unusedSimpArgs false
set_option linter.unusedVariables false
open Go.RowKit

set_option maxHeartbeats 6400000 in
set_option maxRecDepth 100000 in
theorem sameTk_yes (x : Tk) (H B : Option Addr) (hn hc bc : Nat) (F E : Option Addr) (fn fc ec : Nat) (w : World) (hh : x.have_.length = hn) (hf : x.file.length = fn) (hhn : hn ≤ 140737488351300) (hfn : fn ≤ 140737488351300) (hH : Rd w H (gps x.have_)) (hBR : Rd w B (gps x.have_)) (hF : Rd w F (bvs x.file)) (hE : Rd w E (bvs x.file)) :
    Calls Try.prog 28 #[tkv x H hn hc F fn fc, tkv x B hn bc E fn ec] w fun e w' => e = .returned (.bool true) ∧ Below w.heap.size w w' := by
  have CD := Lib.hid (fun (V : World) (hB : Below w.heap.size w V) => sameBytes_yes F E x.file fc ec V (hF.below hB) (hE.below hB))
  have CG := Lib.hid (fun (V : World) (hB : Below w.heap.size w V) => sameGaps_yes H B x.have_ hn hc bc V hh hhn (hH.below hB) (hBR.below hB))
  rw [hf] at CD
  clear hf hh hF hE hH hBR
  obtain ⟨id, known, name, size, ended, last, sum, have_, file, stage, timer, patience, tries, limit⟩ := x
  unfold tkv tkc
  dsimp only at CD CG ⊢
  have k1 := (Blk.new w 44 #[.int .i64 id, .bool known, .string name, .int .i64 size, .bool ended, .int .i64 last, .int .i64 sum, .slice H hn hc, .slice F fn fc, .int .i64 stage, .int .i64 timer, .int .i64 patience, .int .i64 tries, .int .i64 limit]).alloc (.cells #[.int .i64 id, .bool known, .string name, .int .i64 size, .bool ended, .int .i64 last, .int .i64 sum, .slice B hn bc, .slice E fn ec, .int .i64 stage, .int .i64 timer, .int .i64 patience, .int .i64 tries, .int .i64 limit] 44)
  have k2 := Blk.new (w.alloc (.cells #[.int .i64 id, .bool known, .string name, .int .i64 size, .bool ended, .int .i64 last, .int .i64 sum, .slice H hn hc, .slice F fn fc, .int .i64 stage, .int .i64 timer, .int .i64 patience, .int .i64 tries, .int .i64 limit] 44)) 44 #[.int .i64 id, .bool known, .string name, .int .i64 size, .bool ended, .int .i64 last, .int .i64 sum, .slice B hn bc, .slice E fn ec, .int .i64 stage, .int .i64 timer, .int .i64 patience, .int .i64 tries, .int .i64 limit]
  rw [show (w.alloc (.cells #[.int .i64 id, .bool known, .string name, .int .i64 size, .bool ended, .int .i64 last, .int .i64 sum, .slice H hn hc, .slice F fn fc, .int .i64 stage, .int .i64 timer, .int .i64 patience, .int .i64 tries, .int .i64 limit] 44)).heap.size = w.heap.size + 1 by simp] at k2
  have hB : Below w.heap.size w ((w.alloc (.cells #[.int .i64 id, .bool known, .string name, .int .i64 size, .bool ended, .int .i64 last, .int .i64 sum, .slice H hn hc, .slice F fn fc, .int .i64 stage, .int .i64 timer, .int .i64 patience, .int .i64 tries, .int .i64 limit] 44)).alloc (.cells #[.int .i64 id, .bool known, .string name, .int .i64 size, .bool ended, .int .i64 last, .int .i64 sum, .slice B hn bc, .slice E fn ec, .int .i64 stage, .int .i64 timer, .int .i64 patience, .int .i64 tries, .int .i64 limit] 44)) := ((Below.refl _ _).alloc (Nat.le_refl _) _).alloc (by simp) _
  go_enter Try.func28, Try.ntmps28
  try simp only [List.append_eq, List.cons_append, List.nil_append]
  go_upto_region 1 with fail
  try simp only [List.append_eq, List.cons_append, List.nil_append]
  generalize (w.alloc (.cells #[.int .i64 id, .bool known, .string name, .int .i64 size, .bool ended, .int .i64 last, .int .i64 sum, .slice H hn hc, .slice F fn fc, .int .i64 stage, .int .i64 timer, .int .i64 patience, .int .i64 tries, .int .i64 limit] 44)).alloc (.cells #[.int .i64 id, .bool known, .string name, .int .i64 size, .bool ended, .int .i64 last, .int .i64 sum, .slice B hn bc, .slice E fn ec, .int .i64 stage, .int .i64 timer, .int .i64 patience, .int .i64 tries, .int .i64 limit] 44) = W at *
  have x0 := k1.cell' (i := 0) rfl
  have y0 := k2.cell' (i := 0) rfl
  have x1 := k1.cell' (i := 1) rfl
  have y1 := k2.cell' (i := 1) rfl
  have x2 := k1.cell' (i := 2) rfl
  have y2 := k2.cell' (i := 2) rfl
  have x3 := k1.cell' (i := 3) rfl
  have y3 := k2.cell' (i := 3) rfl
  have x4 := k1.cell' (i := 4) rfl
  have y4 := k2.cell' (i := 4) rfl
  have x5 := k1.cell' (i := 5) rfl
  have y5 := k2.cell' (i := 5) rfl
  have x6 := k1.cell' (i := 6) rfl
  have y6 := k2.cell' (i := 6) rfl
  have x7 := k1.cell' (i := 7) rfl
  have y7 := k2.cell' (i := 7) rfl
  have x8 := k1.cell' (i := 8) rfl
  have y8 := k2.cell' (i := 8) rfl
  go_wp2_with fail
  refine (CG.out _ hB).mono ?_
  rintro e _ ⟨rfl, j1, rfl⟩
  have k1' := k1.drewN j1
  have k2' := k2.drewN j1
  have hB' := below_drewN hB j1
  clear x0 x1 x2 x3 x4 x5 x6 x7 x8 y0 y1 y2 y3 y4 y5 y6 y7 y8 k1 k2 hB CG
  generalize W.drewN j1 = W2 at *
  have x8 := k1'.cell' (i := 8) rfl
  have y8 := k2'.cell' (i := 8) rfl
  have x9 := k1'.cell' (i := 9) rfl
  have y9 := k2'.cell' (i := 9) rfl
  have x10 := k1'.cell' (i := 10) rfl
  have y10 := k2'.cell' (i := 10) rfl
  have x11 := k1'.cell' (i := 11) rfl
  have y11 := k2'.cell' (i := 11) rfl
  have x12 := k1'.cell' (i := 12) rfl
  have y12 := k2'.cell' (i := 12) rfl
  have x13 := k1'.cell' (i := 13) rfl
  have y13 := k2'.cell' (i := 13) rfl
  go_wp2_with fail
  refine (CD.out _ hB').mono ?_
  rintro e _ ⟨rfl, rfl⟩
  go_wp2_with fail
  go_ret
  exact ⟨rfl, hB'⟩
end Go.Proofs.Ytianombjgdmbeaa
namespace Go.Proofs.Ytianombjgdmbeaa
set_option linter.unusedSimpArgs false
set_option linter.unusedVariables false
open Go.RowKit

/-- Both 0, or a row of bytes within so many. -/
def gapIn (L : Int) (g : Int × Int) : Bool := decide (g.1 = 0 ∧ g.2 = 0) || decide (0 ≤ g.1 ∧ g.1 < g.2 ∧ g.2 ≤ L)
theorem gapL_out {L a b : Int} {r : Bool} (h : (decide (a = 0 ∧ b = 0) || decide (0 ≤ a ∧ a < b ∧ b ≤ L)) = r) : gapIn L (a, b) = r := h
theorem gapMayL_any (L a b : Int) (w : World) : Calls Try.prog 80 #[.agg #[.int .i64 a, .int .i64 b], .int .i64 L] w fun e w' => e = .returned (.bool (gapIn L (a, b))) ∧ Below w.heap.size w w' := by
  have hB : ∀ o, Below w.heap.size w (w.alloc o) := fun o => (Below.refl _ _).alloc (Nat.le_refl _) _
  by_cases a0 : a = 0
  · have ia : (a == 0) = true := by rw [beq_iff_eq]; exact a0
    by_cases b0 : b = 0
    · have ib : (b == 0) = true := by rw [beq_iff_eq]; exact b0
      rw [gapL_out (r := true) (by rw [decide_eq_true (⟨a0, b0⟩ : a = 0 ∧ b = 0)] <;> rfl)]
      clear a0 b0
      go_enter Try.func80, Try.ntmps80
      go_wp2_with fail
      go_ret
      exact ⟨rfl, hB _⟩
    · have ib : (b == 0) = false := by rw [beq_eq_false_iff_ne]; exact b0
      by_cases p : 0 ≤ a
      rotate_left
      · exact absurd (by omega) p
      by_cases q : a < b
      · by_cases r : b ≤ L
        · rw [gapL_out (r := true) (by rw [decide_eq_false (by omega : ¬ (a = 0 ∧ b = 0)), decide_eq_true (by omega)] <;> rfl)]
          go_enter Try.func80, Try.ntmps80
          go_wp2_with fail
          go_ret
          exact ⟨rfl, hB _⟩
        · rw [gapL_out (r := false) (by rw [decide_eq_false (by omega : ¬ (a = 0 ∧ b = 0)), decide_eq_false (by omega)] <;> rfl)]
          go_enter Try.func80, Try.ntmps80
          go_wp2_with fail
          go_ret
          exact ⟨rfl, hB _⟩
      · rw [gapL_out (r := false) (by rw [decide_eq_false (by omega : ¬ (a = 0 ∧ b = 0)), decide_eq_false (by omega)] <;> rfl)]
        go_enter Try.func80, Try.ntmps80
        go_wp2_with fail
        go_ret
        exact ⟨rfl, hB _⟩
  · have ia : (a == 0) = false := by rw [beq_eq_false_iff_ne]; exact a0
    by_cases p : 0 ≤ a
    · by_cases q : a < b
      · by_cases r : b ≤ L
        · rw [gapL_out (r := true) (by rw [decide_eq_false (by omega : ¬ (a = 0 ∧ b = 0)), decide_eq_true (by omega)] <;> rfl)]
          go_enter Try.func80, Try.ntmps80
          go_wp2_with fail
          go_ret
          exact ⟨rfl, hB _⟩
        · rw [gapL_out (r := false) (by rw [decide_eq_false (by omega : ¬ (a = 0 ∧ b = 0)), decide_eq_false (by omega)] <;> rfl)]
          go_enter Try.func80, Try.ntmps80
          go_wp2_with fail
          go_ret
          exact ⟨rfl, hB _⟩
      · rw [gapL_out (r := false) (by rw [decide_eq_false (by omega : ¬ (a = 0 ∧ b = 0)), decide_eq_false (by omega)] <;> rfl)]
        go_enter Try.func80, Try.ntmps80
        go_wp2_with fail
        go_ret
        exact ⟨rfl, hB _⟩
    · rw [gapL_out (r := false) (by rw [decide_eq_false (by omega : ¬ (a = 0 ∧ b = 0)), decide_eq_false (by omega)] <;> rfl)]
      go_enter Try.func80, Try.ntmps80
      go_wp2_with fail
      go_ret
      exact ⟨rfl, hB _⟩
set_option maxHeartbeats 1600000 in
set_option maxRecDepth 1000000 in
theorem spanMayL_any (L a b : Int) (w : World) : Calls Try.prog 85 #[.agg #[.int .i64 a, .int .i64 b], .int .i64 L] w fun e w' => e = .returned (.bool (gapIn L (a, b))) ∧ Below w.heap.size w w' := by
  have hB : ∀ o, Below w.heap.size w (w.alloc o) := fun o => (Below.refl _ _).alloc (Nat.le_refl _) _
  by_cases a0 : a = 0
  · have ia : (a == 0) = true := by rw [beq_iff_eq]; exact a0
    by_cases b0 : b = 0
    · have ib : (b == 0) = true := by rw [beq_iff_eq]; exact b0
      rw [gapL_out (r := true) (by rw [decide_eq_true (⟨a0, b0⟩ : a = 0 ∧ b = 0)] <;> rfl)]
      have hE : ∀ w, (Op.equalIn 10000 108 (.agg #[.int .i64 a, .int .i64 b]) (.agg #[.int .i64 0, .int .i64 0])).run Try.prog w = .ok true w := fun w => by
        rw [eq_span, decide_eq_true a0, decide_eq_true b0]
        rfl
      clear a0 b0
      go_enter Try.func85, Try.ntmps85
      go_wp2_with fail
      go_ret
      exact ⟨rfl, hB _⟩
    · have ib : (b == 0) = false := by rw [beq_eq_false_iff_ne]; exact b0
      have p : 0 ≤ a := by omega
      have hE : ∀ w, (Op.equalIn 10000 108 (.agg #[.int .i64 a, .int .i64 b]) (.agg #[.int .i64 0, .int .i64 0])).run Try.prog w = .ok false w := fun w => by
        rw [eq_span, decide_eq_false b0]
        simp
      clear a0 ia
      by_cases q : a < b
      rotate_left
      · rw [gapL_out (r := false) (by rw [decide_eq_false (by omega : ¬ (a = 0 ∧ b = 0)), decide_eq_false (by omega)] <;> rfl)]
        go_enter Try.func85, Try.ntmps85
        go_wp2_with fail
        go_ret
        exact ⟨rfl, hB _⟩
      by_cases r : b ≤ L
      rotate_left
      · rw [gapL_out (r := false) (by rw [decide_eq_false (by omega : ¬ (a = 0 ∧ b = 0)), decide_eq_false (by omega)] <;> rfl)]
        go_enter Try.func85, Try.ntmps85
        go_wp2_with fail
        go_ret
        exact ⟨rfl, hB _⟩
      rw [gapL_out (r := true) (by rw [decide_eq_false (by omega : ¬ (a = 0 ∧ b = 0)), decide_eq_true (by omega)] <;> rfl)]
      go_enter Try.func85, Try.ntmps85
      go_wp2_with fail
      go_ret
      exact ⟨rfl, hB _⟩
  · have ia : (a == 0) = false := by rw [beq_eq_false_iff_ne]; exact a0
    have hE : ∀ w, (Op.equalIn 10000 108 (.agg #[.int .i64 a, .int .i64 b]) (.agg #[.int .i64 0, .int .i64 0])).run Try.prog w = .ok false w := fun w => by
      rw [eq_span, decide_eq_false a0]
      rfl
    by_cases p : 0 ≤ a
    rotate_left
    · rw [gapL_out (r := false) (by rw [decide_eq_false (by omega : ¬ (a = 0 ∧ b = 0)), decide_eq_false (by omega)] <;> rfl)]
      go_enter Try.func85, Try.ntmps85
      go_wp2_with fail
      go_ret
      exact ⟨rfl, hB _⟩
    by_cases q : a < b
    rotate_left
    · rw [gapL_out (r := false) (by rw [decide_eq_false (by omega : ¬ (a = 0 ∧ b = 0)), decide_eq_false (by omega)] <;> rfl)]
      go_enter Try.func85, Try.ntmps85
      go_wp2_with fail
      go_ret
      exact ⟨rfl, hB _⟩
    by_cases r : b ≤ L
    rotate_left
    · rw [gapL_out (r := false) (by rw [decide_eq_false (by omega : ¬ (a = 0 ∧ b = 0)), decide_eq_false (by omega)] <;> rfl)]
      go_enter Try.func85, Try.ntmps85
      go_wp2_with fail
      go_ret
      exact ⟨rfl, hB _⟩
    rw [gapL_out (r := true) (by rw [decide_eq_false (by omega : ¬ (a = 0 ∧ b = 0)), decide_eq_true (by omega)] <;> rfl)]
    go_enter Try.func85, Try.ntmps85
    go_wp2_with fail
    go_ret
    exact ⟨rfl, hB _⟩
end Go.Proofs.Ytianombjgdmbeaa
