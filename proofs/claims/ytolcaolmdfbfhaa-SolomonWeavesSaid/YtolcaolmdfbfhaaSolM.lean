/-
  Small functions of code words: sized, backward; the numbers of powers.
-/
import Derived.Test.YtolcaolmdfbfhaaSolP
import Derived.Test.YtolcaolmdfbfhaaOverB
import Derived.Test.YtolcaolmdfbfhaaFieldPwr
import Derived.Test.YtolcaolmdfbfhaaByteAt
namespace Go.Proofs.Ytolcaolmdfbfhaa
set_option linter.unusedSimpArgs false
set_option linter.unusedVariables false
open Go.RowKit

/-- May a word of so many bytes have so many checks? -/
def sizedB (n c : Int) : Bool := decide (1 ≤ c ∧ c ≤ 64 ∧ c < n ∧ n ≤ 255)
theorem sizedB_no {n c : Int} (h : ¬ (1 ≤ c ∧ c ≤ 64 ∧ c < n ∧ n ≤ 255)) : sizedB n c = false := decide_eq_false h
theorem sizedB_yes {n c : Int} (h : 1 ≤ c ∧ c ≤ 64 ∧ c < n ∧ n ≤ 255) : sizedB n c = true := decide_eq_true h

set_option maxHeartbeats 1600000 in
set_option maxRecDepth 100000 in
theorem rsized_any (n c : Int) (w : World) :
    Calls Try.prog 70 #[.int .i64 n, .int .i64 c] w fun e w' => e = .returned (.bool (sizedB n c)) ∧ w = w' := by
  by_cases h1 : 1 ≤ c
  · have d1 : decide (1 ≤ c) = true := by simpa using h1
    by_cases h2 : c ≤ 64
    · have d2 : decide (c ≤ 64) = true := by simpa using h2
      by_cases h3 : c < n
      · have d3 : decide (c < n) = true := by simpa using h3
        by_cases h4 : n ≤ 255
        · have d4 : decide (n ≤ 255) = true := by simpa using h4
          rw [sizedB_yes ⟨h1, h2, h3, h4⟩]
          go_enter Try.func70, Try.ntmps70
          go_wp2
          go_ret
          exact ⟨rfl, rfl⟩
        · have d4 : decide (n ≤ 255) = false := by simpa using h4
          rw [sizedB_no (fun h => h4 h.2.2.2)]
          go_enter Try.func70, Try.ntmps70
          go_wp2
          go_ret
          exact ⟨rfl, rfl⟩
      · have d3 : decide (c < n) = false := by simpa using h3
        rw [sizedB_no (fun h => h3 h.2.2.1)]
        go_enter Try.func70, Try.ntmps70
        go_wp2
        go_ret
        exact ⟨rfl, rfl⟩
    · have d2 : decide (c ≤ 64) = false := by simpa using h2
      rw [sizedB_no (fun h => h2 h.2.1)]
      go_enter Try.func70, Try.ntmps70
      go_wp2
      go_ret
      exact ⟨rfl, rfl⟩
  · have d1 : decide (1 ≤ c) = false := by simpa using h1
    rw [sizedB_no (fun h => h1 h.1)]
    go_enter Try.func70, Try.ntmps70
    go_wp2
    go_ret
    exact ⟨rfl, rfl⟩
set_option maxHeartbeats 1600000 in
set_option maxRecDepth 100000 in
theorem psized_any (n c : Int) (w : World) :
    Calls Try.prog 74 #[.int .i64 n, .int .i64 c] w fun e w' => e = .returned (.bool (sizedB n c)) ∧ w = w' := by
  by_cases h1 : 1 ≤ c
  · have d1 : decide (1 ≤ c) = true := by simpa using h1
    by_cases h2 : c ≤ 64
    · have d2 : decide (c ≤ 64) = true := by simpa using h2
      by_cases h3 : c < n
      · have d3 : decide (c < n) = true := by simpa using h3
        by_cases h4 : n ≤ 255
        · have d4 : decide (n ≤ 255) = true := by simpa using h4
          rw [sizedB_yes ⟨h1, h2, h3, h4⟩]
          go_enter Try.func74, Try.ntmps74
          go_wp2
          go_ret
          exact ⟨rfl, rfl⟩
        · have d4 : decide (n ≤ 255) = false := by simpa using h4
          rw [sizedB_no (fun h => h4 h.2.2.2)]
          go_enter Try.func74, Try.ntmps74
          go_wp2
          go_ret
          exact ⟨rfl, rfl⟩
      · have d3 : decide (c < n) = false := by simpa using h3
        rw [sizedB_no (fun h => h3 h.2.2.1)]
        go_enter Try.func74, Try.ntmps74
        go_wp2
        go_ret
        exact ⟨rfl, rfl⟩
    · have d2 : decide (c ≤ 64) = false := by simpa using h2
      rw [sizedB_no (fun h => h2 h.2.1)]
      go_enter Try.func74, Try.ntmps74
      go_wp2
      go_ret
      exact ⟨rfl, rfl⟩
  · have d1 : decide (1 ≤ c) = false := by simpa using h1
    rw [sizedB_no (fun h => h1 h.1)]
    go_enter Try.func74, Try.ntmps74
    go_wp2
    go_ret
    exact ⟨rfl, rfl⟩

theorem powIx_nat (n : Nat) : powIx (n : Int) = n % 255 := by unfold powIx; omega
theorem pwB_nat (n : Nat) : (pwB n).toNat = pow 2 (n % 255) := by
  have := pow_lt (show 2 < 256 by omega) (n % 255)
  rw [pwB, UInt8.toNat_ofNat']
  omega
theorem power_o (x : Int) (n : Nat) (w : World) (hx : x = (n : Int)) :
    Calls Try.prog 140 #[.int .i64 x] w fun e w' => e = .returned (.int .u8 ((pwB n).toNat : Int)) ∧ w = w' := by
  subst hx
  have := power_any (n : Int) w
  rw [powIx_nat, ← pwB_nat] at this
  exact this
theorem rpower_o (x : Int) (n : Nat) (w : World) (hx : x = (n : Int)) :
    Calls Try.prog 72 #[.int .i64 x] w fun e w' => e = .returned (.int .u8 ((pwB n).toNat : Int)) ∧ w = w' := by
  subst hx
  have := rpower_any (n : Int) w
  rw [powIx_nat, ← pwB_nat] at this
  exact this

theorem rev_step (l : List UInt8) {k : Nat} (h : k < l.length) : (l.drop (k + 1)).reverse ++ [l.getD k 0] = (l.drop k).reverse := by
  rw [List.drop_eq_getElem_cons h, List.reverse_cons, List.getD, List.getElem?_eq_getElem h]
  rfl

set_option maxHeartbeats 3200000 in
set_option maxRecDepth 100000 in
theorem backward_any (A : Option Addr) (l : List UInt8) (n c : Nat) (w : World) (hl : l.length = n) (ha : Rd w A (bvs l)) (hn : n ≤ 140737488351300) :
    Calls Try.prog 73 #[.slice A n c] w fun e w' => ∃ A' c', e = .returned (.slice A' n c') ∧ Own w' w.heap.size 5 1 A' n c' (bvs l.reverse) ∧ Below w.heap.size w w' := by
  obtain ⟨i0, hi0, hz0, hz1, hz2⟩ := info_parts u8info
  have HL := Lib.hid hl
  clear hl
  go_enter Try.func73, Try.ntmps73
  go_wp2_with fail
  go_loopw [3, 4] (fun v i wr => ∃ (k : Nat) (A1 : Option Addr) (c1 : Nat), k ≤ n ∧ i = .int .i64 ((k : Int) - 1) ∧ v = .slice A1 (n - k) c1 ∧ Own wr w.heap.size 5 1 A1 (n - k) c1 (bvs (l.drop k).reverse) ∧ Below w.heap.size w wr) (fun _ i _ => (intOf i + 1).toNat)
  case atStart => exact ⟨n, none, 0, Nat.le_refl _, rfl, by simp, by rw [Nat.sub_self, ← HL.out, List.drop_length]; exact Own.none_ _ _ _ _, Below.refl _ _⟩
  case round =>
    obtain ⟨k, A1, c1, hk, rfl, rfl, hO, hB⟩ := hrel
    by_cases h0 : k = 0
    · subst h0
      rw [Nat.sub_zero, List.drop_zero] at hO
      rw [Nat.sub_zero]
      go_wp2
      go_ret
      exact ⟨A1, c1, rfl, hO, hB⟩
    · obtain ⟨k, rfl⟩ : ∃ j, k = j + 1 := ⟨k - 1, by omega⟩
      rw [show ((k + 1 : Nat) : Int) - 1 = (k : Int) from by omega]
      obtain ⟨b, o, rfl, hc⟩ := (ha.below hB).byteD (k := k) (by rw [HL.out]; omega)
      have HS : Hid ((l.drop (k + 1)).reverse ++ [l.getD k 0] = (l.drop k).reverse) := rev_step l (by rw [HL.out]; omega)
      have hle : (bvs (l.drop (k + 1)).reverse).length = (n - (k + 1)) := by rw [bvs_length, List.length_reverse, List.length_drop, HL.out]
      generalize l.getD k 0 = z at *
      have i1 : (0 : Int) ≤ (k : Int) := by omega
      have i2 : (k : Int) < (n : Int) := by omega
      have q2 : n - (k + 1) + 1 ≤ maxLen := by unfold maxLen; omega
      have q3 : (n - (k + 1) + 1) * 1 ≤ 140737488355328 := by omega
      have hOn := hO.alloc (.cells #[.int .u8 (z.toNat : Int)] 5)
      have hRn := Rd_one wr (.int .u8 (z.toNat : Int)) 5
      have hbs : w.heap.size ≤ (wr.alloc (.cells #[.int .u8 (z.toNat : Int)] 5)).heap.size := by have := hB.size; simp; omega
      have HE : Hid (n - (k + 1) + 1 = n - k) := by show _ = _; omega
      clear hle
      go_wp2_with (at_builtin; refine wpList_append_Own _ rfl (.tmp 12) (.tmp 17) 22 rfl w.heap.size 5 i0 _ 1 1 Try.underlying22 hi0 hz0 hz1 hz2 rfl A1 (n - (k + 1)) c1 (bvs (l.drop (k + 1)).reverse) (by simp [Act.eval, Act.put]) hOn (some ⟨wr.heap.size, 0, none⟩) 1 1 [.int .u8 (z.toNat : Int)] (by simp [Act.eval, Act.put]) rfl hRn (fun u hu => by simp at hu; subst hu; rfl) q2 q3 hbs ?_; intro A2 c2 w2 hO2 hg2 hor2)
      rw [show [Value.int .u8 (z.toNat : Int)] = bvs [z] from rfl, ← bvs_append, HS.out, HE.out] at hO2
      rw [HE.out]
      go_roundw
      case rel => exact ⟨k, A2, c2, by omega, rfl, rfl, hO2, (hB.alloc hB.size _).grown hg2 hbs (fun q hq => (hO.lt q hq).1)⟩
      case measure => simp [intOf] <;> omega
end Go.Proofs.Ytolcaolmdfbfhaa
