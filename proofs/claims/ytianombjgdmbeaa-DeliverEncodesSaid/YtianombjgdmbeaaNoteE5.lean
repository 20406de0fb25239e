/-
  The bytes of notes of one byte behind the head, by the program.
-/
import Derived.Test.YtianombjgdmbeaaNoteX
import Derived.Test.YtianombjgdmbeaaNotePut
import Derived.Test.YtianombjgdmbeaaNoteR5
namespace Go.Proofs.Ytianombjgdmbeaa
set_option linter.unusedSimpArgs false
set_option linter.unusedVariables false
open Go.RowKit

set_option maxHeartbeats 3200000 in
set_option maxRecDepth 100000 in
theorem ebytes_5 (id : Int) (name : ByteArray) (size sum at_ : Int) (data : List UInt8) (gaps : List (Int × Int)) (of_ code : Int) (D : Option Addr) (dn dc : Nat) (G : Option Addr) (gn gc : Nat) (w : World) (hd : data.length = dn) (hg : gaps.length = gn) (hG : Rd w G (gps gaps)) (hdn : dn ≤ 140737488351232) (hgn : gn ≤ 8796093022200) (hno : noteOk (⟨5, id, name, size, sum, at_, data, gaps, of_, code⟩ : Nt) = true) :
    Calls Try.prog 11 #[ntv (⟨5, id, name, size, sum, at_, data, gaps, of_, code⟩ : Nt) D dn dc G gn gc] w fun e w' => ∃ A c, e = .returned (.tuple #[.slice A 4 c, .int .i64 0]) ∧ Own w' w.heap.size 5 1 A 4 c (bvs (hdB 5 id ++ [bOf code])) ∧ Below w.heap.size w w' := by
  obtain ⟨i0, hi0, hz0, hz1, hz2⟩ := info_parts u8info
  have CM := Lib.hid (fun (V : World) (hB : Below w.heap.size w V) => may_any (⟨5, id, name, size, sum, at_, data, gaps, of_, code⟩ : Nt) D dn dc G gn gc V hd hg (hG.below hB))
  simp only [hno] at CM
  clear hno hd hg hG
  unfold ntv at CM ⊢
  dsimp only at CM ⊢
  have b1 := Blk.new w 27 #[.int .i64 5, .int .i64 id, .string name, .int .i64 size, .int .i64 sum, .int .i64 at_, .slice D dn dc, .slice G gn gc, .int .i64 of_, .int .i64 code]
  have hB : Below w.heap.size w (w.alloc (.cells #[.int .i64 5, .int .i64 id, .string name, .int .i64 size, .int .i64 sum, .int .i64 at_, .slice D dn dc, .slice G gn gc, .int .i64 of_, .int .i64 code] 27)) := (Below.refl _ _).alloc (Nat.le_refl _) _
  go_enter Try.func11, Try.ntmps11
  go_wp2_with fail
  refine (CM.out _ hB).mono ?_
  rintro e w1 ⟨rfl, hb⟩
  replace b1 := b1.step hb
  replace hB := hB.trans (hb.mono hB.size)
  clear hb CM
  have x0 := b1.cell' (i := 0) rfl
  have x1 := b1.cell' (i := 1) rfl
  go_upto_region 4 with fail
  have e3 : (#[.int .u8 5, .int .u8 (id / 256 % 256), .int .u8 (id % 256)] : Array Value) = (bvs (hdB 5 id)).toArray := by
    show _ = #[bv (bOf 5), bv (bOf (id / 256)), bv (bOf id)]
    rw [← bv_mod, ← bv_mod, ← bv_mod]
    rfl
  have hO3 : Own (w1.alloc (.cells #[.int .u8 5, .int .u8 (id / 256 % 256), .int .u8 (id % 256)] 5)) w.heap.size 5 1 (some ⟨w1.heap.size, 0, none⟩) 3 3 (bvs (hdB 5 id)) := by
    rw [e3]
    exact Own.of_block (heap_alloc_new w1 _) hB.size rfl (Nat.le_refl _) (by unfold maxLen; omega) (by simp [hdB, bvs]) (fun i u h => by simpa using h)
  have z1 := hB.size
  have hb3 := hB.alloc z1 (.cells #[.int .u8 5, .int .u8 (id / 256 % 256), .int .u8 (id % 256)] 5)
  have b3 := b1.alloc (.cells #[.int .u8 5, .int .u8 (id / 256 % 256), .int .u8 (id % 256)] 5)
  clear e3 b1 hB x0 x1
  generalize w1.alloc (.cells #[.int .u8 5, .int .u8 (id / 256 % 256), .int .u8 (id % 256)] 5) = W3 at *
  have z3 := hb3.size
  have x0 := b3.cell' (i := 0) rfl
  have x9 := b3.cell' (i := 9) rfl
  have hR := Rd_lit W3 [.int .u8 (code % 256)] 5
  have hO4 := hO3.alloc (.cells #[.int .u8 (code % 256)] 5)
  have hb4 := hb3.alloc z3 (.cells #[.int .u8 (code % 256)] 5)
  have z4 := hb4.size
  have q4 : 3 + 1 ≤ maxLen := by unfold maxLen; omega
  have q5 : (3 + 1) * 1 ≤ 140737488355328 := by omega
  go_wp2_with (at_builtin; refine wpList_append_Own (W3.alloc (.cells #[.int .u8 (code % 256)] 5)) rfl (.tmp 67) (.tmp 71) 23 rfl w.heap.size 5 i0 _ 1 1 Try.underlying23 hi0 hz0 hz1 hz2 rfl (some ⟨w1.heap.size, 0, none⟩) 3 3 (bvs (hdB 5 id)) rfl hO4 (some ⟨W3.heap.size, 0, none⟩) 1 1 [.int .u8 (code % 256)] rfl rfl hR (one_byte _) q4 q5 z4 ?_; intro A' c' w5 hO5 hg5 hor)
  refine bodyPost_ret (v := .tuple #[.slice A' 4 c', .int .i64 0]) (by simp [results, Try.results11, go_sem]) rfl ?_
  refine ⟨A', c', rfl, ?_, hb4.grown hg5 z4 (fun q hq => (hO4.lt q hq).1)⟩
  have e : [Value.int .u8 (code % 256)] = bvs [bOf code] := by rw [bv_mod]; rfl
  rw [bvs_append, ← e]
  exact hO5
set_option maxHeartbeats 3200000 in
set_option maxRecDepth 100000 in
theorem ebytes_6 (id : Int) (name : ByteArray) (size sum at_ : Int) (data : List UInt8) (gaps : List (Int × Int)) (of_ code : Int) (D : Option Addr) (dn dc : Nat) (G : Option Addr) (gn gc : Nat) (w : World) (hd : data.length = dn) (hg : gaps.length = gn) (hG : Rd w G (gps gaps)) (hdn : dn ≤ 140737488351232) (hgn : gn ≤ 8796093022200) (hno : noteOk (⟨6, id, name, size, sum, at_, data, gaps, of_, code⟩ : Nt) = true) :
    Calls Try.prog 11 #[ntv (⟨6, id, name, size, sum, at_, data, gaps, of_, code⟩ : Nt) D dn dc G gn gc] w fun e w' => ∃ A c, e = .returned (.tuple #[.slice A 4 c, .int .i64 0]) ∧ Own w' w.heap.size 5 1 A 4 c (bvs (hdB 6 id ++ [bOf of_])) ∧ Below w.heap.size w w' := by
  obtain ⟨i0, hi0, hz0, hz1, hz2⟩ := info_parts u8info
  have CM := Lib.hid (fun (V : World) (hB : Below w.heap.size w V) => may_any (⟨6, id, name, size, sum, at_, data, gaps, of_, code⟩ : Nt) D dn dc G gn gc V hd hg (hG.below hB))
  simp only [hno] at CM
  clear hno hd hg hG
  unfold ntv at CM ⊢
  dsimp only at CM ⊢
  have b1 := Blk.new w 27 #[.int .i64 6, .int .i64 id, .string name, .int .i64 size, .int .i64 sum, .int .i64 at_, .slice D dn dc, .slice G gn gc, .int .i64 of_, .int .i64 code]
  have hB : Below w.heap.size w (w.alloc (.cells #[.int .i64 6, .int .i64 id, .string name, .int .i64 size, .int .i64 sum, .int .i64 at_, .slice D dn dc, .slice G gn gc, .int .i64 of_, .int .i64 code] 27)) := (Below.refl _ _).alloc (Nat.le_refl _) _
  go_enter Try.func11, Try.ntmps11
  go_wp2_with fail
  refine (CM.out _ hB).mono ?_
  rintro e w1 ⟨rfl, hb⟩
  replace b1 := b1.step hb
  replace hB := hB.trans (hb.mono hB.size)
  clear hb CM
  have x0 := b1.cell' (i := 0) rfl
  have x1 := b1.cell' (i := 1) rfl
  go_upto_region 4 with fail
  have e3 : (#[.int .u8 6, .int .u8 (id / 256 % 256), .int .u8 (id % 256)] : Array Value) = (bvs (hdB 6 id)).toArray := by
    show _ = #[bv (bOf 6), bv (bOf (id / 256)), bv (bOf id)]
    rw [← bv_mod, ← bv_mod, ← bv_mod]
    rfl
  have hO3 : Own (w1.alloc (.cells #[.int .u8 6, .int .u8 (id / 256 % 256), .int .u8 (id % 256)] 5)) w.heap.size 5 1 (some ⟨w1.heap.size, 0, none⟩) 3 3 (bvs (hdB 6 id)) := by
    rw [e3]
    exact Own.of_block (heap_alloc_new w1 _) hB.size rfl (Nat.le_refl _) (by unfold maxLen; omega) (by simp [hdB, bvs]) (fun i u h => by simpa using h)
  have z1 := hB.size
  have hb3 := hB.alloc z1 (.cells #[.int .u8 6, .int .u8 (id / 256 % 256), .int .u8 (id % 256)] 5)
  have b3 := b1.alloc (.cells #[.int .u8 6, .int .u8 (id / 256 % 256), .int .u8 (id % 256)] 5)
  clear e3 b1 hB x0 x1
  generalize w1.alloc (.cells #[.int .u8 6, .int .u8 (id / 256 % 256), .int .u8 (id % 256)] 5) = W3 at *
  have z3 := hb3.size
  have x0 := b3.cell' (i := 0) rfl
  have x9 := b3.cell' (i := 8) rfl
  have hR := Rd_lit W3 [.int .u8 (of_ % 256)] 5
  have hO4 := hO3.alloc (.cells #[.int .u8 (of_ % 256)] 5)
  have hb4 := hb3.alloc z3 (.cells #[.int .u8 (of_ % 256)] 5)
  have z4 := hb4.size
  have q4 : 3 + 1 ≤ maxLen := by unfold maxLen; omega
  have q5 : (3 + 1) * 1 ≤ 140737488355328 := by omega
  go_wp2_with (at_builtin; refine wpList_append_Own (W3.alloc (.cells #[.int .u8 (of_ % 256)] 5)) rfl (.tmp 75) (.tmp 79) 23 rfl w.heap.size 5 i0 _ 1 1 Try.underlying23 hi0 hz0 hz1 hz2 rfl (some ⟨w1.heap.size, 0, none⟩) 3 3 (bvs (hdB 6 id)) rfl hO4 (some ⟨W3.heap.size, 0, none⟩) 1 1 [.int .u8 (of_ % 256)] rfl rfl hR (one_byte _) q4 q5 z4 ?_; intro A' c' w5 hO5 hg5 hor)
  refine bodyPost_ret (v := .tuple #[.slice A' 4 c', .int .i64 0]) (by simp [results, Try.results11, go_sem]) rfl ?_
  refine ⟨A', c', rfl, ?_, hb4.grown hg5 z4 (fun q hq => (hO4.lt q hq).1)⟩
  have e : [Value.int .u8 (of_ % 256)] = bvs [bOf of_] := by rw [bv_mod]; rfl
  rw [bvs_append, ← e]
  exact hO5
end Go.Proofs.Ytianombjgdmbeaa
