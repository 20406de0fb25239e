/-
  Which symbols are kept: the document's and the program's.
-/
import Derived.Test.YtolcaolmdfbfhaaPop
import Derived.Test.YtolcaolmdfbfhaaStep
namespace Go.Proofs.Ytolcaolmdfbfhaa
set_option linter.unusedSimpArgs false
set_option linter.unusedVariables false
open Go.RowKit

theorem kept_at (r : Nat) (i q : Nat) (s : Bool) (n : Nat) (hn : (pats r s).length = n) (hq : i % n = q) : keptP r i s = (pats r s).getD q false := by
  unfold keptP
  rw [hn, hq]

set_option maxHeartbeats 1600000 in
set_option maxRecDepth 100000 in
theorem kept_1_0 (i : Nat) (s : Bool) (w : World) (h : i % 1 = 0) (hi : i ≤ 4611686018427387904) :
    Calls Try.prog 77 #[.int .i64 1, .int .i64 (i : Int), .bool s] w fun e w' => e = .returned (.bool (keptP 1 i s)) ∧ w = w' := by
  have hN : (i : Int) % 1 = 0 := by omega
  cases s
  · have e := kept_at 1 i 0 false _ rfl h
    rw [e]
    go_enter Try.func77, Try.ntmps77
    go_wp2
    go_ret
    exact ⟨rfl, rfl⟩
  · have e := kept_at 1 i 0 true _ rfl h
    rw [e]
    go_enter Try.func77, Try.ntmps77
    go_wp2
    go_ret
    exact ⟨rfl, rfl⟩
set_option maxHeartbeats 1600000 in
set_option maxRecDepth 100000 in
theorem kept_2_0 (i : Nat) (s : Bool) (w : World) (h : i % 2 = 0) (hi : i ≤ 4611686018427387904) :
    Calls Try.prog 77 #[.int .i64 2, .int .i64 (i : Int), .bool s] w fun e w' => e = .returned (.bool (keptP 2 i s)) ∧ w = w' := by
  have hN : (i : Int) % 2 = 0 := by omega
  cases s
  · have e := kept_at 2 i 0 false _ rfl h
    rw [e]
    go_enter Try.func77, Try.ntmps77
    go_wp2
    go_ret
    exact ⟨rfl, rfl⟩
  · have e := kept_at 2 i 0 true _ rfl h
    rw [e]
    go_enter Try.func77, Try.ntmps77
    go_wp2
    go_ret
    exact ⟨rfl, rfl⟩
set_option maxHeartbeats 1600000 in
set_option maxRecDepth 100000 in
theorem kept_2_1 (i : Nat) (s : Bool) (w : World) (h : i % 2 = 1) (hi : i ≤ 4611686018427387904) :
    Calls Try.prog 77 #[.int .i64 2, .int .i64 (i : Int), .bool s] w fun e w' => e = .returned (.bool (keptP 2 i s)) ∧ w = w' := by
  have hN : (i : Int) % 2 = 1 := by omega
  cases s
  · have e := kept_at 2 i 1 false _ rfl h
    rw [e]
    go_enter Try.func77, Try.ntmps77
    go_wp2
    go_ret
    exact ⟨rfl, rfl⟩
  · have e := kept_at 2 i 1 true _ rfl h
    rw [e]
    go_enter Try.func77, Try.ntmps77
    go_wp2
    go_ret
    exact ⟨rfl, rfl⟩
set_option maxHeartbeats 1600000 in
set_option maxRecDepth 100000 in
theorem kept_3_0 (i : Nat) (s : Bool) (w : World) (h : i % 3 = 0) (hi : i ≤ 4611686018427387904) :
    Calls Try.prog 77 #[.int .i64 3, .int .i64 (i : Int), .bool s] w fun e w' => e = .returned (.bool (keptP 3 i s)) ∧ w = w' := by
  have hN : (i : Int) % 3 = 0 := by omega
  cases s
  · have e := kept_at 3 i 0 false _ rfl h
    rw [e]
    go_enter Try.func77, Try.ntmps77
    go_wp2
    go_ret
    exact ⟨rfl, rfl⟩
  · have e := kept_at 3 i 0 true _ rfl h
    rw [e]
    go_enter Try.func77, Try.ntmps77
    go_wp2
    go_ret
    exact ⟨rfl, rfl⟩
set_option maxHeartbeats 1600000 in
set_option maxRecDepth 100000 in
theorem kept_3_1 (i : Nat) (s : Bool) (w : World) (h : i % 3 = 1) (hi : i ≤ 4611686018427387904) :
    Calls Try.prog 77 #[.int .i64 3, .int .i64 (i : Int), .bool s] w fun e w' => e = .returned (.bool (keptP 3 i s)) ∧ w = w' := by
  have hN : (i : Int) % 3 = 1 := by omega
  cases s
  · have e := kept_at 3 i 1 false _ rfl h
    rw [e]
    go_enter Try.func77, Try.ntmps77
    go_wp2
    go_ret
    exact ⟨rfl, rfl⟩
  · have e := kept_at 3 i 1 true _ rfl h
    rw [e]
    go_enter Try.func77, Try.ntmps77
    go_wp2
    go_ret
    exact ⟨rfl, rfl⟩
set_option maxHeartbeats 1600000 in
set_option maxRecDepth 100000 in
theorem kept_3_2 (i : Nat) (s : Bool) (w : World) (h : i % 3 = 2) (hi : i ≤ 4611686018427387904) :
    Calls Try.prog 77 #[.int .i64 3, .int .i64 (i : Int), .bool s] w fun e w' => e = .returned (.bool (keptP 3 i s)) ∧ w = w' := by
  have hN : (i : Int) % 3 = 2 := by omega
  cases s
  · have e := kept_at 3 i 2 false _ rfl h
    rw [e]
    go_enter Try.func77, Try.ntmps77
    go_wp2
    go_ret
    exact ⟨rfl, rfl⟩
  · have e := kept_at 3 i 2 true _ rfl h
    rw [e]
    go_enter Try.func77, Try.ntmps77
    go_wp2
    go_ret
    exact ⟨rfl, rfl⟩
set_option maxHeartbeats 1600000 in
set_option maxRecDepth 100000 in
theorem kept_4_0 (i : Nat) (s : Bool) (w : World) (h : i % 5 = 0) (hi : i ≤ 4611686018427387904) :
    Calls Try.prog 77 #[.int .i64 4, .int .i64 (i : Int), .bool s] w fun e w' => e = .returned (.bool (keptP 4 i s)) ∧ w = w' := by
  have hN : (i : Int) % 5 = 0 := by omega
  cases s
  · have e := kept_at 4 i 0 false _ rfl h
    rw [e]
    go_enter Try.func77, Try.ntmps77
    go_wp2
    go_ret
    exact ⟨rfl, rfl⟩
  · have e := kept_at 4 i 0 true _ rfl h
    rw [e]
    go_enter Try.func77, Try.ntmps77
    go_wp2
    go_ret
    exact ⟨rfl, rfl⟩
set_option maxHeartbeats 1600000 in
set_option maxRecDepth 100000 in
theorem kept_4_1 (i : Nat) (s : Bool) (w : World) (h : i % 5 = 1) (hi : i ≤ 4611686018427387904) :
    Calls Try.prog 77 #[.int .i64 4, .int .i64 (i : Int), .bool s] w fun e w' => e = .returned (.bool (keptP 4 i s)) ∧ w = w' := by
  have hN : (i : Int) % 5 = 1 := by omega
  cases s
  · have e := kept_at 4 i 1 false _ rfl h
    rw [e]
    go_enter Try.func77, Try.ntmps77
    go_wp2
    go_ret
    exact ⟨rfl, rfl⟩
  · have e := kept_at 4 i 1 true _ rfl h
    rw [e]
    go_enter Try.func77, Try.ntmps77
    go_wp2
    go_ret
    exact ⟨rfl, rfl⟩
set_option maxHeartbeats 1600000 in
set_option maxRecDepth 100000 in
theorem kept_4_2 (i : Nat) (s : Bool) (w : World) (h : i % 5 = 2) (hi : i ≤ 4611686018427387904) :
    Calls Try.prog 77 #[.int .i64 4, .int .i64 (i : Int), .bool s] w fun e w' => e = .returned (.bool (keptP 4 i s)) ∧ w = w' := by
  have hN : (i : Int) % 5 = 2 := by omega
  cases s
  · have e := kept_at 4 i 2 false _ rfl h
    rw [e]
    go_enter Try.func77, Try.ntmps77
    go_wp2
    go_ret
    exact ⟨rfl, rfl⟩
  · have e := kept_at 4 i 2 true _ rfl h
    rw [e]
    go_enter Try.func77, Try.ntmps77
    go_wp2
    go_ret
    exact ⟨rfl, rfl⟩
set_option maxHeartbeats 1600000 in
set_option maxRecDepth 100000 in
theorem kept_4_3 (i : Nat) (s : Bool) (w : World) (h : i % 5 = 3) (hi : i ≤ 4611686018427387904) :
    Calls Try.prog 77 #[.int .i64 4, .int .i64 (i : Int), .bool s] w fun e w' => e = .returned (.bool (keptP 4 i s)) ∧ w = w' := by
  have hN : (i : Int) % 5 = 3 := by omega
  cases s
  · have e := kept_at 4 i 3 false _ rfl h
    rw [e]
    go_enter Try.func77, Try.ntmps77
    go_wp2
    go_ret
    exact ⟨rfl, rfl⟩
  · have e := kept_at 4 i 3 true _ rfl h
    rw [e]
    go_enter Try.func77, Try.ntmps77
    go_wp2
    go_ret
    exact ⟨rfl, rfl⟩
set_option maxHeartbeats 1600000 in
set_option maxRecDepth 100000 in
theorem kept_4_4 (i : Nat) (s : Bool) (w : World) (h : i % 5 = 4) (hi : i ≤ 4611686018427387904) :
    Calls Try.prog 77 #[.int .i64 4, .int .i64 (i : Int), .bool s] w fun e w' => e = .returned (.bool (keptP 4 i s)) ∧ w = w' := by
  have hN : (i : Int) % 5 = 4 := by omega
  cases s
  · have e := kept_at 4 i 4 false _ rfl h
    rw [e]
    go_enter Try.func77, Try.ntmps77
    go_wp2
    go_ret
    exact ⟨rfl, rfl⟩
  · have e := kept_at 4 i 4 true _ rfl h
    rw [e]
    go_enter Try.func77, Try.ntmps77
    go_wp2
    go_ret
    exact ⟨rfl, rfl⟩
set_option maxHeartbeats 1600000 in
set_option maxRecDepth 100000 in
theorem kept_5_0 (i : Nat) (s : Bool) (w : World) (h : i % 7 = 0) (hi : i ≤ 4611686018427387904) :
    Calls Try.prog 77 #[.int .i64 5, .int .i64 (i : Int), .bool s] w fun e w' => e = .returned (.bool (keptP 5 i s)) ∧ w = w' := by
  have hN : (i : Int) % 7 = 0 := by omega
  cases s
  · have e := kept_at 5 i 0 false _ rfl h
    rw [e]
    go_enter Try.func77, Try.ntmps77
    go_wp2
    go_ret
    exact ⟨rfl, rfl⟩
  · have e := kept_at 5 i 0 true _ rfl h
    rw [e]
    go_enter Try.func77, Try.ntmps77
    go_wp2
    go_ret
    exact ⟨rfl, rfl⟩
set_option maxHeartbeats 1600000 in
set_option maxRecDepth 100000 in
theorem kept_5_1 (i : Nat) (s : Bool) (w : World) (h : i % 7 = 1) (hi : i ≤ 4611686018427387904) :
    Calls Try.prog 77 #[.int .i64 5, .int .i64 (i : Int), .bool s] w fun e w' => e = .returned (.bool (keptP 5 i s)) ∧ w = w' := by
  have hN : (i : Int) % 7 = 1 := by omega
  cases s
  · have e := kept_at 5 i 1 false _ rfl h
    rw [e]
    go_enter Try.func77, Try.ntmps77
    go_wp2
    go_ret
    exact ⟨rfl, rfl⟩
  · have e := kept_at 5 i 1 true _ rfl h
    rw [e]
    go_enter Try.func77, Try.ntmps77
    go_wp2
    go_ret
    exact ⟨rfl, rfl⟩
set_option maxHeartbeats 1600000 in
set_option maxRecDepth 100000 in
theorem kept_5_2 (i : Nat) (s : Bool) (w : World) (h : i % 7 = 2) (hi : i ≤ 4611686018427387904) :
    Calls Try.prog 77 #[.int .i64 5, .int .i64 (i : Int), .bool s] w fun e w' => e = .returned (.bool (keptP 5 i s)) ∧ w = w' := by
  have hN : (i : Int) % 7 = 2 := by omega
  cases s
  · have e := kept_at 5 i 2 false _ rfl h
    rw [e]
    go_enter Try.func77, Try.ntmps77
    go_wp2
    go_ret
    exact ⟨rfl, rfl⟩
  · have e := kept_at 5 i 2 true _ rfl h
    rw [e]
    go_enter Try.func77, Try.ntmps77
    go_wp2
    go_ret
    exact ⟨rfl, rfl⟩
set_option maxHeartbeats 1600000 in
set_option maxRecDepth 100000 in
theorem kept_5_3 (i : Nat) (s : Bool) (w : World) (h : i % 7 = 3) (hi : i ≤ 4611686018427387904) :
    Calls Try.prog 77 #[.int .i64 5, .int .i64 (i : Int), .bool s] w fun e w' => e = .returned (.bool (keptP 5 i s)) ∧ w = w' := by
  have hN : (i : Int) % 7 = 3 := by omega
  cases s
  · have e := kept_at 5 i 3 false _ rfl h
    rw [e]
    go_enter Try.func77, Try.ntmps77
    go_wp2
    go_ret
    exact ⟨rfl, rfl⟩
  · have e := kept_at 5 i 3 true _ rfl h
    rw [e]
    go_enter Try.func77, Try.ntmps77
    go_wp2
    go_ret
    exact ⟨rfl, rfl⟩
set_option maxHeartbeats 1600000 in
set_option maxRecDepth 100000 in
theorem kept_5_4 (i : Nat) (s : Bool) (w : World) (h : i % 7 = 4) (hi : i ≤ 4611686018427387904) :
    Calls Try.prog 77 #[.int .i64 5, .int .i64 (i : Int), .bool s] w fun e w' => e = .returned (.bool (keptP 5 i s)) ∧ w = w' := by
  have hN : (i : Int) % 7 = 4 := by omega
  cases s
  · have e := kept_at 5 i 4 false _ rfl h
    rw [e]
    go_enter Try.func77, Try.ntmps77
    go_wp2
    go_ret
    exact ⟨rfl, rfl⟩
  · have e := kept_at 5 i 4 true _ rfl h
    rw [e]
    go_enter Try.func77, Try.ntmps77
    go_wp2
    go_ret
    exact ⟨rfl, rfl⟩
set_option maxHeartbeats 1600000 in
set_option maxRecDepth 100000 in
theorem kept_5_5 (i : Nat) (s : Bool) (w : World) (h : i % 7 = 5) (hi : i ≤ 4611686018427387904) :
    Calls Try.prog 77 #[.int .i64 5, .int .i64 (i : Int), .bool s] w fun e w' => e = .returned (.bool (keptP 5 i s)) ∧ w = w' := by
  have hN : (i : Int) % 7 = 5 := by omega
  cases s
  · have e := kept_at 5 i 5 false _ rfl h
    rw [e]
    go_enter Try.func77, Try.ntmps77
    go_wp2
    go_ret
    exact ⟨rfl, rfl⟩
  · have e := kept_at 5 i 5 true _ rfl h
    rw [e]
    go_enter Try.func77, Try.ntmps77
    go_wp2
    go_ret
    exact ⟨rfl, rfl⟩
set_option maxHeartbeats 1600000 in
set_option maxRecDepth 100000 in
theorem kept_5_6 (i : Nat) (s : Bool) (w : World) (h : i % 7 = 6) (hi : i ≤ 4611686018427387904) :
    Calls Try.prog 77 #[.int .i64 5, .int .i64 (i : Int), .bool s] w fun e w' => e = .returned (.bool (keptP 5 i s)) ∧ w = w' := by
  have hN : (i : Int) % 7 = 6 := by omega
  cases s
  · have e := kept_at 5 i 6 false _ rfl h
    rw [e]
    go_enter Try.func77, Try.ntmps77
    go_wp2
    go_ret
    exact ⟨rfl, rfl⟩
  · have e := kept_at 5 i 6 true _ rfl h
    rw [e]
    go_enter Try.func77, Try.ntmps77
    go_wp2
    go_ret
    exact ⟨rfl, rfl⟩
theorem kept_any (r : Nat) (i : Nat) (s : Bool) (w : World) (h1 : 1 ≤ r) (h5 : r ≤ 5) (hi : i ≤ 4611686018427387904) :
    Calls Try.prog 77 #[.int .i64 (r : Int), .int .i64 (i : Int), .bool s] w fun e w' => e = .returned (.bool (keptP r i s)) ∧ w = w' := by
  rcases (by omega : r = 1 ∨ r = 2 ∨ r = 3 ∨ r = 4 ∨ r = 5) with rfl | rfl | rfl | rfl | rfl
  · exact kept_1_0 i s w (by omega) hi
  · rcases (by omega : i % 2 = 0 ∨ i % 2 = 1) with h | h
    · exact kept_2_0 i s w h hi
    · exact kept_2_1 i s w h hi
  · rcases (by omega : i % 3 = 0 ∨ i % 3 = 1 ∨ i % 3 = 2) with h | h | h
    · exact kept_3_0 i s w h hi
    · exact kept_3_1 i s w h hi
    · exact kept_3_2 i s w h hi
  · rcases (by omega : i % 5 = 0 ∨ i % 5 = 1 ∨ i % 5 = 2 ∨ i % 5 = 3 ∨ i % 5 = 4) with h | h | h | h | h
    · exact kept_4_0 i s w h hi
    · exact kept_4_1 i s w h hi
    · exact kept_4_2 i s w h hi
    · exact kept_4_3 i s w h hi
    · exact kept_4_4 i s w h hi
  · rcases (by omega : i % 7 = 0 ∨ i % 7 = 1 ∨ i % 7 = 2 ∨ i % 7 = 3 ∨ i % 7 = 4 ∨ i % 7 = 5 ∨ i % 7 = 6) with h | h | h | h | h | h | h
    · exact kept_5_0 i s w h hi
    · exact kept_5_1 i s w h hi
    · exact kept_5_2 i s w h hi
    · exact kept_5_3 i s w h hi
    · exact kept_5_4 i s w h hi
    · exact kept_5_5 i s w h hi
    · exact kept_5_6 i s w h hi
end Go.Proofs.Ytolcaolmdfbfhaa
