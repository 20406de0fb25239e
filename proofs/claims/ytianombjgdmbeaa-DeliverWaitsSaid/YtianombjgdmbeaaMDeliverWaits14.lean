/-
  Gaps within so many bytes: by the document and by the program. Givers: what they are; which may be; what a note does to one. Plainly.
-/
import Derived.Test.YtianombjgdmbeaaMDeliverWaits11
import Derived.Test.YtianombjgdmbeaaMDeliverWaits3
namespace Go.Proofs.Ytianombjgdmbeaa
set_option linter.unusedSimpArgs false
set_option linter.unusedVariables false
open Go.RowKit

/-- Both 0, or a row of bytes within so many. -/
def gapIn (L : Int) (g : Int × Int) : Bool := decide (g.1 = 0 ∧ g.2 = 0) || decide (0 ≤ g.1 ∧ g.1 < g.2 ∧ g.2 ≤ L)
theorem gapL_out {L a b : Int} {r : Bool} (h : (decide (a = 0 ∧ b = 0) || decide (0 ≤ a ∧ a < b ∧ b ≤ L)) = r) : gapIn L (a, b) = r := h
theorem gapMayL_any (L a b : Int) (w : World) : Calls Try.prog 80 #[.agg #[.int .i64 a, .int .i64 b], .int .i64 L] w fun e w' => e = .returned (.bool (gapIn L (a, b))) ∧ Below w.heap.size w w' := by
  have hB : ∀ o, Below w.heap.size w (w.alloc o) := fun o => (Below.refl _ _).alloc (Nat.le_refl _) _
  by_cases a0 : a = 0
  · have ia : (a == 0) = true := by rw [beq_iff_eq]; exact a0
    by_cases b0 : b = 0
    · have ib : (b == 0) = true := by rw [beq_iff_eq]; exact b0
      rw [gapL_out (r := true) (by rw [decide_eq_true (⟨a0, b0⟩ : a = 0 ∧ b = 0)] <;> rfl)]
      clear a0 b0
      go_enter Try.func80, Try.ntmps80
      go_wp2_with fail
      go_ret
      exact ⟨rfl, hB _⟩
    · have ib : (b == 0) = false := by rw [beq_eq_false_iff_ne]; exact b0
      by_cases p : 0 ≤ a
      rotate_left
      · exact absurd (by omega) p
      by_cases q : a < b
      · by_cases r : b ≤ L
        · rw [gapL_out (r := true) (by rw [decide_eq_false (by omega : ¬ (a = 0 ∧ b = 0)), decide_eq_true (by omega)] <;> rfl)]
          go_enter Try.func80, Try.ntmps80
          go_wp2_with fail
          go_ret
          exact ⟨rfl, hB _⟩
        · rw [gapL_out (r := false) (by rw [decide_eq_false (by omega : ¬ (a = 0 ∧ b = 0)), decide_eq_false (by omega)] <;> rfl)]
          go_enter Try.func80, Try.ntmps80
          go_wp2_with fail
          go_ret
          exact ⟨rfl, hB _⟩
      · rw [gapL_out (r := false) (by rw [decide_eq_false (by omega : ¬ (a = 0 ∧ b = 0)), decide_eq_false (by omega)] <;> rfl)]
        go_enter Try.func80, Try.ntmps80
        go_wp2_with fail
        go_ret
        exact ⟨rfl, hB _⟩
  · have ia : (a == 0) = false := by rw [beq_eq_false_iff_ne]; exact a0
    by_cases p : 0 ≤ a
    · by_cases q : a < b
      · by_cases r : b ≤ L
        · rw [gapL_out (r := true) (by rw [decide_eq_false (by omega : ¬ (a = 0 ∧ b = 0)), decide_eq_true (by omega)] <;> rfl)]
          go_enter Try.func80, Try.ntmps80
          go_wp2_with fail
          go_ret
          exact ⟨rfl, hB _⟩
        · rw [gapL_out (r := false) (by rw [decide_eq_false (by omega : ¬ (a = 0 ∧ b = 0)), decide_eq_false (by omega)] <;> rfl)]
          go_enter Try.func80, Try.ntmps80
          go_wp2_with fail
          go_ret
          exact ⟨rfl, hB _⟩
      · rw [gapL_out (r := false) (by rw [decide_eq_false (by omega : ¬ (a = 0 ∧ b = 0)), decide_eq_false (by omega)] <;> rfl)]
        go_enter Try.func80, Try.ntmps80
        go_wp2_with fail
        go_ret
        exact ⟨rfl, hB _⟩
    · rw [gapL_out (r := false) (by rw [decide_eq_false (by omega : ¬ (a = 0 ∧ b = 0)), decide_eq_false (by omega)] <;> rfl)]
      go_enter Try.func80, Try.ntmps80
      go_wp2_with fail
      go_ret
      exact ⟨rfl, hB _⟩
set_option maxHeartbeats 1600000 in
set_option maxRecDepth 1000000 in
theorem spanMayL_any (L a b : Int) (w : World) : Calls Try.prog 85 #[.agg #[.int .i64 a, .int .i64 b], .int .i64 L] w fun e w' => e = .returned (.bool (gapIn L (a, b))) ∧ Below w.heap.size w w' := by
  have hB : ∀ o, Below w.heap.size w (w.alloc o) := fun o => (Below.refl _ _).alloc (Nat.le_refl _) _
  by_cases a0 : a = 0
  · have ia : (a == 0) = true := by rw [beq_iff_eq]; exact a0
    by_cases b0 : b = 0
    · have ib : (b == 0) = true := by rw [beq_iff_eq]; exact b0
      rw [gapL_out (r := true) (by rw [decide_eq_true (⟨a0, b0⟩ : a = 0 ∧ b = 0)] <;> rfl)]
      have hE : ∀ w, (Op.equalIn 10000 108 (.agg #[.int .i64 a, .int .i64 b]) (.agg #[.int .i64 0, .int .i64 0])).run Try.prog w = .ok true w := fun w => by
        rw [eq_span, decide_eq_true a0, decide_eq_true b0]
        rfl
      clear a0 b0
      go_enter Try.func85, Try.ntmps85
      go_wp2_with fail
      go_ret
      exact ⟨rfl, hB _⟩
    · have ib : (b == 0) = false := by rw [beq_eq_false_iff_ne]; exact b0
      have p : 0 ≤ a := by omega
      have hE : ∀ w, (Op.equalIn 10000 108 (.agg #[.int .i64 a, .int .i64 b]) (.agg #[.int .i64 0, .int .i64 0])).run Try.prog w = .ok false w := fun w => by
        rw [eq_span, decide_eq_false b0]
        simp
      clear a0 ia
      by_cases q : a < b
      rotate_left
      · rw [gapL_out (r := false) (by rw [decide_eq_false (by omega : ¬ (a = 0 ∧ b = 0)), decide_eq_false (by omega)] <;> rfl)]
        go_enter Try.func85, Try.ntmps85
        go_wp2_with fail
        go_ret
        exact ⟨rfl, hB _⟩
      by_cases r : b ≤ L
      rotate_left
      · rw [gapL_out (r := false) (by rw [decide_eq_false (by omega : ¬ (a = 0 ∧ b = 0)), decide_eq_false (by omega)] <;> rfl)]
        go_enter Try.func85, Try.ntmps85
        go_wp2_with fail
        go_ret
        exact ⟨rfl, hB _⟩
      rw [gapL_out (r := true) (by rw [decide_eq_false (by omega : ¬ (a = 0 ∧ b = 0)), decide_eq_true (by omega)] <;> rfl)]
      go_enter Try.func85, Try.ntmps85
      go_wp2_with fail
      go_ret
      exact ⟨rfl, hB _⟩
  · have ia : (a == 0) = false := by rw [beq_eq_false_iff_ne]; exact a0
    have hE : ∀ w, (Op.equalIn 10000 108 (.agg #[.int .i64 a, .int .i64 b]) (.agg #[.int .i64 0, .int .i64 0])).run Try.prog w = .ok false w := fun w => by
      rw [eq_span, decide_eq_false a0]
      rfl
    by_cases p : 0 ≤ a
    rotate_left
    · rw [gapL_out (r := false) (by rw [decide_eq_false (by omega : ¬ (a = 0 ∧ b = 0)), decide_eq_false (by omega)] <;> rfl)]
      go_enter Try.func85, Try.ntmps85
      go_wp2_with fail
      go_ret
      exact ⟨rfl, hB _⟩
    by_cases q : a < b
    rotate_left
    · rw [gapL_out (r := false) (by rw [decide_eq_false (by omega : ¬ (a = 0 ∧ b = 0)), decide_eq_false (by omega)] <;> rfl)]
      go_enter Try.func85, Try.ntmps85
      go_wp2_with fail
      go_ret
      exact ⟨rfl, hB _⟩
    by_cases r : b ≤ L
    rotate_left
    · rw [gapL_out (r := false) (by rw [decide_eq_false (by omega : ¬ (a = 0 ∧ b = 0)), decide_eq_false (by omega)] <;> rfl)]
      go_enter Try.func85, Try.ntmps85
      go_wp2_with fail
      go_ret
      exact ⟨rfl, hB _⟩
    rw [gapL_out (r := true) (by rw [decide_eq_false (by omega : ¬ (a = 0 ∧ b = 0)), decide_eq_true (by omega)] <;> rfl)]
    go_enter Try.func85, Try.ntmps85
    go_wp2_with fail
    go_ret
    exact ⟨rfl, hB _⟩
end Go.Proofs.Ytianombjgdmbeaa
namespace Go.Proofs.Ytianombjgdmbeaa
set_option linter.unusedSimpArgs false
set_option linter.unusedVariables false
open Go.RowKit

structure Gv where
  id : Int
  name : ByteArray
  file : List UInt8
  most : Int
  burst : Int
  stage : Int
  first : Bool
  at_ : Int
  again : List (Int × Int)
  timer : Int
  patience : Int
  tries : Int
  limit : Int
/-- A giver's cells. -/
def gvc (x : Gv) (F : Option Addr) (fn fc : Nat) (A : Option Addr) (an ac : Nat) : Array Value := #[.int .i64 x.id, .string x.name, .slice F fn fc, .int .i64 x.most, .int .i64 x.burst, .int .i64 x.stage, .bool x.first, .int .i64 x.at_, .slice A an ac, .int .i64 x.timer, .int .i64 x.patience, .int .i64 x.tries, .int .i64 x.limit]
def gvv (x : Gv) (F : Option Addr) (fn fc : Nat) (A : Option Addr) (an ac : Nat) : Value := .agg (gvc x F fn fc A an ac)
def gvZero : Gv := ⟨0, ⟨#[]⟩, [], 0, 0, 0, false, 0, [], 0, 0, 0, 0⟩
/-- What an offer asks. -/
def offB (x : Gv) : Bool := rngOk x.id 0 65535 && rngOk x.most 1 1024 && rngOk x.burst 1 50 && rngOk x.patience 1 1000 && rngOk x.limit 1 100 && decide (1 ≤ x.name.size ∧ x.name.size ≤ 32) && decide (x.file.length ≤ 65536)
/-- Where a giver may stand. -/
def standB (x : Gv) : Bool := rngOk x.stage 0 4 && rngOk x.at_ 0 x.file.length && (decide (x.stage = 0) || (decide (x.at_ = x.file.length) && !x.first))
def waitB (x : Gv) : Bool := rngOk x.timer 0 (x.patience - 1) && rngOk x.tries 0 x.limit
def gvOk (x : Gv) : Bool := offB x && standB x && decide (x.again.length ≤ 1000) && x.again.all (gapIn x.file.length) && waitB x
theorem gv_off {x : Gv} (h : offB x = false) : gvOk x = false := by unfold gvOk; rw [h]; rfl
theorem gv_stand {x : Gv} (h : standB x = false) : gvOk x = false := by unfold gvOk; rw [h]; simp
theorem gv_len {x : Gv} (h : ¬ x.again.length ≤ 1000) : gvOk x = false := by unfold gvOk; rw [decide_eq_false h]; simp
theorem gv_again {x : Gv} (h : x.again.all (gapIn x.file.length) = false) : gvOk x = false := by unfold gvOk; rw [h]; simp
theorem gv_wait {x : Gv} (h : waitB x = false) : gvOk x = false := by unfold gvOk; rw [h]; simp
theorem gv_all {x : Gv} (h1 : offB x = true) (h2 : standB x = true) (h3 : x.again.length ≤ 1000) (h4 : x.again.all (gapIn x.file.length) = true) (h5 : waitB x = true) : gvOk x = true := by unfold gvOk; rw [h1, h2, h4, h5, decide_eq_true h3]; rfl
theorem gv_parts {x : Gv} (h : gvOk x = true) : offB x = true ∧ standB x = true ∧ x.again.length ≤ 1000 ∧ x.again.all (gapIn x.file.length) = true ∧ waitB x = true := by
  unfold gvOk at h
  simp only [Bool.and_eq_true, decide_eq_true_eq] at h
  exact ⟨h.1.1.1.1, h.1.1.1.2, h.1.1.2, h.1.2, h.2⟩
/-- A gap that is asked for, within the file. -/
def askG (L : Int) (acc : List (Int × Int)) (g : Int × Int) : List (Int × Int) :=
  if acc.length < 1000 ∧ (g.2 = 0 ∨ g.1 < min g.2 L) then acc ++ [(g.1, min g.2 L)] else acc
def askAll (L : Int) (acc l : List (Int × Int)) : List (Int × Int) := l.foldl (askG L) acc
theorem askAll_snoc (L : Int) (acc l : List (Int × Int)) (g : Int × Int) : askAll L acc (l ++ [g]) = askG L (askAll L acc l) g := by unfold askAll; rw [List.foldl_append]; rfl
theorem askG_full {L : Int} {acc : List (Int × Int)} (g : Int × Int) (h : 1000 ≤ acc.length) : askG L acc g = acc := by unfold askG; rw [if_neg (by omega)]
theorem askAll_full {L : Int} {acc : List (Int × Int)} (h : 1000 ≤ acc.length) : ∀ l : List (Int × Int), askAll L acc l = acc
  | [] => rfl
  | g :: l => by show askAll L (askG L acc g) l = acc; rw [askG_full g h, askAll_full h l]
theorem askAll_append (L : Int) (acc l m : List (Int × Int)) : askAll L acc (l ++ m) = askAll L (askAll L acc l) m := by unfold askAll; rw [List.foldl_append]
theorem askG_len {L : Int} {acc : List (Int × Int)} (g : Int × Int) (h : acc.length ≤ 1000) : (askG L acc g).length ≤ 1000 := by
  unfold askG
  split
  · simp; omega
  · exact h
theorem askAll_len {L : Int} : ∀ (l acc : List (Int × Int)), acc.length ≤ 1000 → (askAll L acc l).length ≤ 1000
  | [], _, h => h
  | g :: l, acc, h => askAll_len l (askG L acc g) (askG_len g h)
/-- Seen, of a Done. -/
def seenDone (id : Int) : Nt := ⟨6, id, ⟨#[]⟩, 0, 0, 0, [], [], 5, 0⟩
/-- A giver that a Done has ended. -/
def endG (x : Gv) (code : Int) : Gv := if x.stage = 3 then x else { x with stage := (if code = 0 then 3 else 4), first := false, at_ := x.file.length, again := [] }
/-- A giver that has been asked for gaps. -/
def heardG (x : Gv) (n : Nt) : Gv := { x with timer := 0, tries := 0, stage := (if n.of_ = 3 ∧ x.stage = 1 then 2 else x.stage), again := askAll x.file.length x.again n.gaps }
/-- What a note does to a giver: what it becomes, what goes, the error. -/
def replyR (x : Gv) (n : Nt) : Gv × List Nt × Int :=
  if gvOk x = false then (gvZero, [], 11)
  else if noteOk n = false then (x, [], 8)
  else if n.id ≠ x.id then (x, [], 10)
  else if n.kind < 4 then (x, [], 6)
  else if x.stage = 4 then (x, [], 0)
  else if n.kind = 5 then (endG x n.code, [seenDone x.id], 0)
  else if x.stage = 3 then (x, [], 0)
  else (heardG x n, [], 0)
end Go.Proofs.Ytianombjgdmbeaa
