/-
  deliver.put: numbers of four bytes. The bytes of notes of one byte behind the head, by the document.
-/
import Derived.Test.YtianombjgdmbeaaMDeliverTakes26
import Derived.Test.YtianombjgdmbeaaMDeliverTakes2
import Derived.Test.YtianombjgdmbeaaMDeliverTakes10
namespace Go.Proofs.Ytianombjgdmbeaa
set_option linter.unusedSimpArgs false
set_option linter.unusedVariables false
open Go.RowKit

theorem be4_len (n : Int) : (be4 n).length = 4 := rfl
theorem put_vals (n : Int) : [Value.int .u8 (n / 16777216 % 256), .int .u8 (n / 65536 % 256), .int .u8 (n / 256 % 256), .int .u8 (n % 256)] = bvs (be4 n) := by
  rw [bv_mod, bv_mod, bv_mod, bv_mod]
  rfl
set_option maxHeartbeats 3200000 in
set_option maxRecDepth 100000 in
theorem put_any (base : Nat) (A : Option Addr) (n c : Nat) (xs : List UInt8) (L : Option Addr) (k kc : Nat) (zs : List Int) (w : World) (hO : Own w base 5 1 A n c (bvs xs)) (hL : Rd w L (ivs zs)) (hk : zs.length = k) (hLA : ∀ q, blk L = some q → q < w.heap.size ∧ blk A ≠ some q) (hn : n ≤ 1000000) (hk2 : k ≤ 1000) (hbase : base ≤ w.heap.size) :
    Calls Try.prog 41 #[.slice A n c, .slice L k kc] w fun e w' => ∃ A' c', e = .returned (.slice A' (n + 4 * k) c') ∧ Own w' base 5 1 A' (n + 4 * k) c' (bvs (xs ++ zs.flatMap be4)) ∧ w.grownBy w' (blk A) ∧ (blk A' = blk A ∨ ∀ q, blk A' = some q → w.heap.size ≤ q) := by
  obtain ⟨i0, hi0, hz0, hz1, hz2⟩ := info_parts u8info
  have HK := Lib.hid hk
  have HL := Lib.hid hL
  have HLA := Lib.hid hLA
  clear hk hL hLA
  go_enter Try.func41, Try.ntmps41
  go_wp2_with fail
  go_loopw [0, 9] (fun av iv wr => ∃ (i : Nat) (A1 : Option Addr) (c1 : Nat), i ≤ k ∧ av = .slice A1 (n + 4 * i) c1 ∧ iv = .int .i64 (i : Int) ∧ Own wr base 5 1 A1 (n + 4 * i) c1 (bvs (xs ++ (zs.take i).flatMap be4)) ∧ w.grownBy wr (blk A) ∧ (blk A1 = blk A ∨ ∀ q, blk A1 = some q → w.heap.size ≤ q)) (fun _ iv _ => k - (intOf iv).toNat)
  case atStart => exact ⟨0, A, c, Nat.zero_le _, rfl, rfl, by simpa using hO, World.grownBy.refl _ _, .inl rfl⟩
  case round =>
    clear hO
    obtain ⟨i, A1, c1, hi, rfl, rfl, hO1, hg, hA⟩ := hrel
    by_cases h5 : i < k
    · have h5i : (i : Int) < (k : Int) := by omega
      have hip : (0 : Int) ≤ (i : Int) := by omega
      have hiz : i < zs.length := by rw [HK.out]; exact h5
      have hLr : Rd wr L (ivs zs) := HL.out.keep (fun a ha hl => hg.block _ hl (fun e => (HLA.out _ (map_block_of_some ha)).2 e.symm))
      obtain ⟨b, off, rfl, hc⟩ := hLr.int hiz
      obtain ⟨z, hz⟩ : ∃ z, zs[i] = z := ⟨_, rfl⟩
      rw [hz] at hc
      have HT : Hid (zs.take (i + 1) = zs.take i ++ [z]) := Lib.hid (by rw [List.take_add_one, List.getElem?_eq_getElem hiz, hz]; rfl)
      clear hz hiz hLr
      have hO2 := hO1.alloc (.cells #[.int .u8 (z / 16777216 % 256), .int .u8 (z / 65536 % 256), .int .u8 (z / 256 % 256), .int .u8 (z % 256)] 5)
      have hR := Rd_lit wr [.int .u8 (z / 16777216 % 256), .int .u8 (z / 65536 % 256), .int .u8 (z / 256 % 256), .int .u8 (z % 256)] 5
      have h1 : ∀ u ∈ [Value.int .u8 (z / 16777216 % 256), .int .u8 (z / 65536 % 256), .int .u8 (z / 256 % 256), .int .u8 (z % 256)], u.oneCell' = true := by rw [put_vals]; exact bvs_one _
      have q4 : n + 4 * i + 4 ≤ maxLen := by unfold maxLen; omega
      have q5 : (n + 4 * i + 4) * 1 ≤ 140737488355328 := by omega
      have hbs : base ≤ (wr.alloc (.cells #[.int .u8 (z / 16777216 % 256), .int .u8 (z / 65536 % 256), .int .u8 (z / 256 % 256), .int .u8 (z % 256)] 5)).heap.size := by have := hg.size; simp; omega
      go_wp2_with (at_builtin; refine wpList_append_Own (wr.alloc (.cells #[.int .u8 (z / 16777216 % 256), .int .u8 (z / 65536 % 256), .int .u8 (z / 256 % 256), .int .u8 (z % 256)] 5)) rfl (.tmp 13) (.tmp 25) 23 rfl base 5 i0 _ 1 1 Try.underlying23 hi0 hz0 hz1 hz2 rfl A1 (n + 4 * i) c1 (bvs (xs ++ (zs.take i).flatMap be4)) rfl hO2 (some ⟨wr.heap.size, 0, none⟩) 4 4 [.int .u8 (z / 16777216 % 256), .int .u8 (z / 65536 % 256), .int .u8 (z / 256 % 256), .int .u8 (z % 256)] rfl rfl hR h1 q4 q5 hbs ?_; intro A' c' w1 hO3 hg3 hor)
      have hg4 : w.grownBy w1 (blk A) := grown_trans (grown_alloc hg _) hg3 (by
        rcases hA with h | h
        · exact .inl h
        · exact .inr h)
      have hzz := hg.size
      go_roundw
      case rel =>
        refine ⟨i + 1, A', c', by omega, by rw [show n + 4 * (i + 1) = n + 4 * i + 4 by omega], by go_num, ?_, hg4, ?_⟩
        · rw [show n + 4 * (i + 1) = n + 4 * i + 4 by omega, HT.out, List.flatMap_append, List.flatMap_singleton, ← List.append_assoc, bvs_append, ← put_vals]
          exact hO3
        · rcases hor with h | h
          · rw [h]; exact hA
          · right
            intro q hq
            rw [h] at hq
            have := Option.some.inj hq
            simp at this
            omega
      case measure => simp [intOf]; omega
    · obtain rfl : i = k := by omega
      have h5i : ¬ (i : Int) < (i : Int) := by omega
      go_wp2_with fail
      go_ret
      refine ⟨A1, c1, rfl, ?_, hg, hA⟩
      have e : zs.take i = zs := List.take_of_length_le (by rw [HK.out]; omega)
      rw [e] at hO1
      exact hO1
end Go.Proofs.Ytianombjgdmbeaa
namespace Go.Proofs.Ytianombjgdmbeaa
set_option linter.unusedSimpArgs false
set_option linter.unusedVariables false
open Go.RowKit

def hdB (k id : Int) : List UInt8 := [bOf k, bOf (id / 256), bOf id]
set_option maxHeartbeats 3200000 in
set_option maxRecDepth 100000 in
theorem rbytes_5 (id : Int) (name : ByteArray) (size sum at_ : Int) (data : List UInt8) (gaps : List (Int × Int)) (of_ code : Int) (D : Option Addr) (dn dc : Nat) (G : Option Addr) (gn gc : Nat) (w : World) (hd : data.length = dn) (hg : gaps.length = gn) (hG : Rd w G (gps gaps)) (hdn : dn ≤ 140737488351232) (hgn : gn ≤ 8796093022200) (hno : noteOk (⟨5, id, name, size, sum, at_, data, gaps, of_, code⟩ : Nt) = true) :
    Calls Try.prog 10 #[ntv (⟨5, id, name, size, sum, at_, data, gaps, of_, code⟩ : Nt) D dn dc G gn gc] w fun e w' => ∃ A c, e = .returned (.tuple #[.slice A 4 c, .int .i64 0]) ∧ Own w' w.heap.size 5 1 A 4 c (bvs (hdB 5 id ++ [bOf code])) ∧ Below w.heap.size w w' := by
  obtain ⟨i0, hi0, hz0, hz1, hz2⟩ := info_parts u8info
  have CM := Lib.hid (fun (V : World) (hB : Below w.heap.size w V) => noteMay_any (⟨5, id, name, size, sum, at_, data, gaps, of_, code⟩ : Nt) D dn dc G gn gc V hd hg (hG.below hB) hdn hgn)
  simp only [hno] at CM
  clear hno hd hg hG
  unfold ntv at CM ⊢
  dsimp only at CM ⊢
  have b1 := Blk.new w 27 #[.int .i64 5, .int .i64 id, .string name, .int .i64 size, .int .i64 sum, .int .i64 at_, .slice D dn dc, .slice G gn gc, .int .i64 of_, .int .i64 code]
  have hB : Below w.heap.size w (w.alloc (.cells #[.int .i64 5, .int .i64 id, .string name, .int .i64 size, .int .i64 sum, .int .i64 at_, .slice D dn dc, .slice G gn gc, .int .i64 of_, .int .i64 code] 27)) := (Below.refl _ _).alloc (Nat.le_refl _) _
  go_enter Try.func10, Try.ntmps10
  go_wp2_with fail
  refine (CM.out _ hB).mono ?_
  rintro e w1 ⟨rfl, hb⟩
  replace b1 := b1.step hb
  replace hB := hB.trans (hb.mono hB.size)
  clear hb CM
  have x0 := b1.cell' (i := 0) rfl
  have x1 := b1.cell' (i := 1) rfl
  go_upto_region 4 with fail
  have e3 : (#[.int .u8 5, .int .u8 (id / 256 % 256), .int .u8 (id % 256)] : Array Value) = (bvs (hdB 5 id)).toArray := by
    show _ = #[bv (bOf 5), bv (bOf (id / 256)), bv (bOf id)]
    rw [← bv_mod, ← bv_mod, ← bv_mod]
    rfl
  have hO3 : Own (w1.alloc (.cells #[.int .u8 5, .int .u8 (id / 256 % 256), .int .u8 (id % 256)] 5)) w.heap.size 5 1 (some ⟨w1.heap.size, 0, none⟩) 3 3 (bvs (hdB 5 id)) := by
    rw [e3]
    exact Own.of_block (heap_alloc_new w1 _) hB.size rfl (Nat.le_refl _) (by unfold maxLen; omega) (by simp [hdB, bvs]) (fun i u h => by simpa using h)
  have z1 := hB.size
  have hb3 := hB.alloc z1 (.cells #[.int .u8 5, .int .u8 (id / 256 % 256), .int .u8 (id % 256)] 5)
  have b3 := b1.alloc (.cells #[.int .u8 5, .int .u8 (id / 256 % 256), .int .u8 (id % 256)] 5)
  clear e3 b1 hB x0 x1
  generalize w1.alloc (.cells #[.int .u8 5, .int .u8 (id / 256 % 256), .int .u8 (id % 256)] 5) = W3 at *
  have z3 := hb3.size
  have x0 := b3.cell' (i := 0) rfl
  have x9 := b3.cell' (i := 9) rfl
  have hR := Rd_lit W3 [.int .u8 (code % 256)] 5
  have hO4 := hO3.alloc (.cells #[.int .u8 (code % 256)] 5)
  have hb4 := hb3.alloc z3 (.cells #[.int .u8 (code % 256)] 5)
  have z4 := hb4.size
  have q4 : 3 + 1 ≤ maxLen := by unfold maxLen; omega
  have q5 : (3 + 1) * 1 ≤ 140737488355328 := by omega
  go_wp2_with (at_builtin; refine wpList_append_Own (W3.alloc (.cells #[.int .u8 (code % 256)] 5)) rfl (.tmp 81) (.tmp 85) 23 rfl w.heap.size 5 i0 _ 1 1 Try.underlying23 hi0 hz0 hz1 hz2 rfl (some ⟨w1.heap.size, 0, none⟩) 3 3 (bvs (hdB 5 id)) rfl hO4 (some ⟨W3.heap.size, 0, none⟩) 1 1 [.int .u8 (code % 256)] rfl rfl hR (one_byte _) q4 q5 z4 ?_; intro A' c' w5 hO5 hg5 hor)
  refine bodyPost_ret (v := .tuple #[.slice A' 4 c', .int .i64 0]) (by simp [results, Try.results10, go_sem]) rfl ?_
  refine ⟨A', c', rfl, ?_, hb4.grown hg5 z4 (fun q hq => (hO4.lt q hq).1)⟩
  have e : [Value.int .u8 (code % 256)] = bvs [bOf code] := by rw [bv_mod]; rfl
  rw [bvs_append, ← e]
  exact hO5
set_option maxHeartbeats 3200000 in
set_option maxRecDepth 100000 in
theorem rbytes_6 (id : Int) (name : ByteArray) (size sum at_ : Int) (data : List UInt8) (gaps : List (Int × Int)) (of_ code : Int) (D : Option Addr) (dn dc : Nat) (G : Option Addr) (gn gc : Nat) (w : World) (hd : data.length = dn) (hg : gaps.length = gn) (hG : Rd w G (gps gaps)) (hdn : dn ≤ 140737488351232) (hgn : gn ≤ 8796093022200) (hno : noteOk (⟨6, id, name, size, sum, at_, data, gaps, of_, code⟩ : Nt) = true) :
    Calls Try.prog 10 #[ntv (⟨6, id, name, size, sum, at_, data, gaps, of_, code⟩ : Nt) D dn dc G gn gc] w fun e w' => ∃ A c, e = .returned (.tuple #[.slice A 4 c, .int .i64 0]) ∧ Own w' w.heap.size 5 1 A 4 c (bvs (hdB 6 id ++ [bOf of_])) ∧ Below w.heap.size w w' := by
  obtain ⟨i0, hi0, hz0, hz1, hz2⟩ := info_parts u8info
  have CM := Lib.hid (fun (V : World) (hB : Below w.heap.size w V) => noteMay_any (⟨6, id, name, size, sum, at_, data, gaps, of_, code⟩ : Nt) D dn dc G gn gc V hd hg (hG.below hB) hdn hgn)
  simp only [hno] at CM
  clear hno hd hg hG
  unfold ntv at CM ⊢
  dsimp only at CM ⊢
  have b1 := Blk.new w 27 #[.int .i64 6, .int .i64 id, .string name, .int .i64 size, .int .i64 sum, .int .i64 at_, .slice D dn dc, .slice G gn gc, .int .i64 of_, .int .i64 code]
  have hB : Below w.heap.size w (w.alloc (.cells #[.int .i64 6, .int .i64 id, .string name, .int .i64 size, .int .i64 sum, .int .i64 at_, .slice D dn dc, .slice G gn gc, .int .i64 of_, .int .i64 code] 27)) := (Below.refl _ _).alloc (Nat.le_refl _) _
  go_enter Try.func10, Try.ntmps10
  go_wp2_with fail
  refine (CM.out _ hB).mono ?_
  rintro e w1 ⟨rfl, hb⟩
  replace b1 := b1.step hb
  replace hB := hB.trans (hb.mono hB.size)
  clear hb CM
  have x0 := b1.cell' (i := 0) rfl
  have x1 := b1.cell' (i := 1) rfl
  go_upto_region 4 with fail
  have e3 : (#[.int .u8 6, .int .u8 (id / 256 % 256), .int .u8 (id % 256)] : Array Value) = (bvs (hdB 6 id)).toArray := by
    show _ = #[bv (bOf 6), bv (bOf (id / 256)), bv (bOf id)]
    rw [← bv_mod, ← bv_mod, ← bv_mod]
    rfl
  have hO3 : Own (w1.alloc (.cells #[.int .u8 6, .int .u8 (id / 256 % 256), .int .u8 (id % 256)] 5)) w.heap.size 5 1 (some ⟨w1.heap.size, 0, none⟩) 3 3 (bvs (hdB 6 id)) := by
    rw [e3]
    exact Own.of_block (heap_alloc_new w1 _) hB.size rfl (Nat.le_refl _) (by unfold maxLen; omega) (by simp [hdB, bvs]) (fun i u h => by simpa using h)
  have z1 := hB.size
  have hb3 := hB.alloc z1 (.cells #[.int .u8 6, .int .u8 (id / 256 % 256), .int .u8 (id % 256)] 5)
  have b3 := b1.alloc (.cells #[.int .u8 6, .int .u8 (id / 256 % 256), .int .u8 (id % 256)] 5)
  clear e3 b1 hB x0 x1
  generalize w1.alloc (.cells #[.int .u8 6, .int .u8 (id / 256 % 256), .int .u8 (id % 256)] 5) = W3 at *
  have z3 := hb3.size
  have x0 := b3.cell' (i := 0) rfl
  have x9 := b3.cell' (i := 8) rfl
  have hR := Rd_lit W3 [.int .u8 (of_ % 256)] 5
  have hO4 := hO3.alloc (.cells #[.int .u8 (of_ % 256)] 5)
  have hb4 := hb3.alloc z3 (.cells #[.int .u8 (of_ % 256)] 5)
  have z4 := hb4.size
  have q4 : 3 + 1 ≤ maxLen := by unfold maxLen; omega
  have q5 : (3 + 1) * 1 ≤ 140737488355328 := by omega
  go_wp2_with (at_builtin; refine wpList_append_Own (W3.alloc (.cells #[.int .u8 (of_ % 256)] 5)) rfl (.tmp 89) (.tmp 93) 23 rfl w.heap.size 5 i0 _ 1 1 Try.underlying23 hi0 hz0 hz1 hz2 rfl (some ⟨w1.heap.size, 0, none⟩) 3 3 (bvs (hdB 6 id)) rfl hO4 (some ⟨W3.heap.size, 0, none⟩) 1 1 [.int .u8 (of_ % 256)] rfl rfl hR (one_byte _) q4 q5 z4 ?_; intro A' c' w5 hO5 hg5 hor)
  refine bodyPost_ret (v := .tuple #[.slice A' 4 c', .int .i64 0]) (by simp [results, Try.results10, go_sem]) rfl ?_
  refine ⟨A', c', rfl, ?_, hb4.grown hg5 z4 (fun q hq => (hO4.lt q hq).1)⟩
  have e : [Value.int .u8 (of_ % 256)] = bvs [bOf of_] := by rw [bv_mod]; rfl
  rw [bvs_append, ← e]
  exact hO5
end Go.Proofs.Ytianombjgdmbeaa
