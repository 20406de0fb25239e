/-
  deliver.put: numbers of four bytes.
-/
import Derived.Test.YtianombjgdmbeaaNoteF
import Derived.Test.YtianombjgdmbeaaByteAt
import Derived.Test.YtianombjgdmbeaaStep
namespace Go.Proofs.Ytianombjgdmbeaa
set_option linter.unusedSimpArgs false
set_option linter.unusedVariables false
open Go.RowKit

theorem be4_len (n : Int) : (be4 n).length = 4 := rfl
theorem put_vals (n : Int) : [Value.int .u8 (n / 16777216 % 256), .int .u8 (n / 65536 % 256), .int .u8 (n / 256 % 256), .int .u8 (n % 256)] = bvs (be4 n) := by
  rw [bv_mod, bv_mod, bv_mod, bv_mod]
  rfl
set_option maxHeartbeats 3200000 in
set_option maxRecDepth 100000 in
theorem put_any (base : Nat) (A : Option Addr) (n c : Nat) (xs : List UInt8) (L : Option Addr) (k kc : Nat) (zs : List Int) (w : World) (hO : Own w base 5 1 A n c (bvs xs)) (hL : Rd w L (ivs zs)) (hk : zs.length = k) (hLA : ∀ q, blk L = some q → q < w.heap.size ∧ blk A ≠ some q) (hn : n ≤ 1000000) (hk2 : k ≤ 1000) (hbase : base ≤ w.heap.size) :
    Calls Try.prog 41 #[.slice A n c, .slice L k kc] w fun e w' => ∃ A' c', e = .returned (.slice A' (n + 4 * k) c') ∧ Own w' base 5 1 A' (n + 4 * k) c' (bvs (xs ++ zs.flatMap be4)) ∧ w.grownBy w' (blk A) ∧ (blk A' = blk A ∨ ∀ q, blk A' = some q → w.heap.size ≤ q) := by
  obtain ⟨i0, hi0, hz0, hz1, hz2⟩ := info_parts u8info
  have HK := Lib.hid hk
  have HL := Lib.hid hL
  have HLA := Lib.hid hLA
  clear hk hL hLA
  go_enter Try.func41, Try.ntmps41
  go_wp2_with fail
  go_loopw [0, 9] (fun av iv wr => ∃ (i : Nat) (A1 : Option Addr) (c1 : Nat), i ≤ k ∧ av = .slice A1 (n + 4 * i) c1 ∧ iv = .int .i64 (i : Int) ∧ Own wr base 5 1 A1 (n + 4 * i) c1 (bvs (xs ++ (zs.take i).flatMap be4)) ∧ w.grownBy wr (blk A) ∧ (blk A1 = blk A ∨ ∀ q, blk A1 = some q → w.heap.size ≤ q)) (fun _ iv _ => k - (intOf iv).toNat)
  case atStart => exact ⟨0, A, c, Nat.zero_le _, rfl, rfl, by simpa using hO, World.grownBy.refl _ _, .inl rfl⟩
  case round =>
    clear hO
    obtain ⟨i, A1, c1, hi, rfl, rfl, hO1, hg, hA⟩ := hrel
    by_cases h5 : i < k
    · have h5i : (i : Int) < (k : Int) := by omega
      have hip : (0 : Int) ≤ (i : Int) := by omega
      have hiz : i < zs.length := by rw [HK.out]; exact h5
      have hLr : Rd wr L (ivs zs) := HL.out.keep (fun a ha hl => hg.block _ hl (fun e => (HLA.out _ (map_block_of_some ha)).2 e.symm))
      obtain ⟨b, off, rfl, hc⟩ := hLr.int hiz
      obtain ⟨z, hz⟩ : ∃ z, zs[i] = z := ⟨_, rfl⟩
      rw [hz] at hc
      have HT : Hid (zs.take (i + 1) = zs.take i ++ [z]) := Lib.hid (by rw [List.take_add_one, List.getElem?_eq_getElem hiz, hz]; rfl)
      clear hz hiz hLr
      have hO2 := hO1.alloc (.cells #[.int .u8 (z / 16777216 % 256), .int .u8 (z / 65536 % 256), .int .u8 (z / 256 % 256), .int .u8 (z % 256)] 5)
      have hR := Rd_lit wr [.int .u8 (z / 16777216 % 256), .int .u8 (z / 65536 % 256), .int .u8 (z / 256 % 256), .int .u8 (z % 256)] 5
      have h1 : ∀ u ∈ [Value.int .u8 (z / 16777216 % 256), .int .u8 (z / 65536 % 256), .int .u8 (z / 256 % 256), .int .u8 (z % 256)], u.oneCell' = true := by rw [put_vals]; exact bvs_one _
      have q4 : n + 4 * i + 4 ≤ maxLen := by unfold maxLen; omega
      have q5 : (n + 4 * i + 4) * 1 ≤ 140737488355328 := by omega
      have hbs : base ≤ (wr.alloc (.cells #[.int .u8 (z / 16777216 % 256), .int .u8 (z / 65536 % 256), .int .u8 (z / 256 % 256), .int .u8 (z % 256)] 5)).heap.size := by have := hg.size; simp; omega
      go_wp2_with (at_builtin; refine wpList_append_Own (wr.alloc (.cells #[.int .u8 (z / 16777216 % 256), .int .u8 (z / 65536 % 256), .int .u8 (z / 256 % 256), .int .u8 (z % 256)] 5)) rfl (.tmp 13) (.tmp 25) 23 rfl base 5 i0 _ 1 1 Try.underlying23 hi0 hz0 hz1 hz2 rfl A1 (n + 4 * i) c1 (bvs (xs ++ (zs.take i).flatMap be4)) rfl hO2 (some ⟨wr.heap.size, 0, none⟩) 4 4 [.int .u8 (z / 16777216 % 256), .int .u8 (z / 65536 % 256), .int .u8 (z / 256 % 256), .int .u8 (z % 256)] rfl rfl hR h1 q4 q5 hbs ?_; intro A' c' w1 hO3 hg3 hor)
      have hg4 : w.grownBy w1 (blk A) := grown_trans (grown_alloc hg _) hg3 (by
        rcases hA with h | h
        · exact .inl h
        · exact .inr h)
      have hzz := hg.size
      go_roundw
      case rel =>
        refine ⟨i + 1, A', c', by omega, by rw [show n + 4 * (i + 1) = n + 4 * i + 4 by omega], by go_num, ?_, hg4, ?_⟩
        · rw [show n + 4 * (i + 1) = n + 4 * i + 4 by omega, HT.out, List.flatMap_append, List.flatMap_singleton, ← List.append_assoc, bvs_append, ← put_vals]
          exact hO3
        · rcases hor with h | h
          · rw [h]; exact hA
          · right
            intro q hq
            rw [h] at hq
            have := Option.some.inj hq
            simp at this
            omega
      case measure => simp [intOf]; omega
    · obtain rfl : i = k := by omega
      have h5i : ¬ (i : Int) < (i : Int) := by omega
      go_wp2_with fail
      go_ret
      refine ⟨A1, c1, rfl, ?_, hg, hA⟩
      have e : zs.take i = zs := List.take_of_length_le (by rw [HK.out]; omega)
      rw [e] at hO1
      exact hO1
end Go.Proofs.Ytianombjgdmbeaa
