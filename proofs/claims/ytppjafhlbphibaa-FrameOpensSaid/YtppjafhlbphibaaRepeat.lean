/-
  slices.Repeat of one ear, seven times.
-/
import Derived.Test.YtppjafhlbphibaaCopyN
import Derived.Test.YtppjafhlbphibaaLstP
import Derived.Deep.RegionLaw
import Derived.Deep.RegionHeld3
namespace Go.Proofs.Ytppjafhlbphibaa
set_option linter.unusedSimpArgs false
set_option linter.unusedVariables false
open Go.RowKit

set_option maxHeartbeats 1000000 in
set_option maxRecDepth 100000 in
theorem mul64_17 (w : World) : Calls Try.prog 68 #[.int .u64 1, .int .u64 7] w fun e w' => e = .returned (.tuple #[.int .u64 0, .int .u64 7]) ∧ w = w' := by
  go_enter Try.func68, Try.ntmps68
  go_wp2
  go_ret2
  exact ⟨by kernel_rfl, rfl⟩
set_option maxHeartbeats 1000000 in
set_option maxRecDepth 100000 in
theorem mul_17 (w : World) : Calls Try.prog 54 #[.int .u64 1, .int .u64 7] w fun e w' => e = .returned (.tuple #[.int .u64 0, .int .u64 7]) ∧ w = w' := by
  go_enter Try.func54, Try.ntmps54
  go_wp2_with (go_at_call 68; refine (mul64_17 _).mono ?_; rintro e w' ⟨rfl, rfl⟩)
  go_ret2
  exact ⟨rfl, rfl⟩
/-- k ears, and noughts behind them. -/
def earCells (k : Nat) : Array Value := ((List.range 7).flatMap fun i => if i < k then [Value.int .i64 (-1), .slice none 0 0] else [.int .i64 0, .slice none 0 0]).toArray
theorem make_ears (w : World) : (Instr.makeSlice 28 (.int .i64 7) (.int .i64 7)).run Try.prog w = .ok (.slice (some ⟨w.heap.size, 0, none⟩) 7 7) (w.alloc (.cells (earCells 0) 58)) := by
  kernel_rfl
theorem ears_seven (w' : World) (g : Nat) (t : TypeId) (h : Blk w' g t (earCells 7)) : RdEars w' (some ⟨g, 0, none⟩) (List.replicate 7 ⟨-1, []⟩) := by
  intro i q hq
  have hi : i < 7 := by
    rcases Nat.lt_or_ge i 7 with h' | h'
    · exact h'
    · rw [List.getElem?_eq_none (by simpa using h')] at hq; cases hq
  have e : q = ⟨-1, []⟩ := by
    rw [List.getElem?_replicate, if_pos hi] at hq
    injection hq with hq
    exact hq.symm
  subst e
  refine ⟨g, 0, none, 0, rfl, ?_, ?_, Rd.nil _ _⟩ <;> (rw [h.cell]; have : i = 0 ∨ i = 1 ∨ i = 2 ∨ i = 3 ∨ i = 4 ∨ i = 5 ∨ i = 6 := by omega) <;> rcases this with rfl | rfl | rfl | rfl | rfl | rfl | rfl <;> rfl

theorem earSize : (Try.prog.info? 58).map (·.size) = some 2 := by kernel_rfl
def earList (n : Nat) : List Value := (earCells 7).toList.take (2 * n)
theorem ear_all : ∀ u ∈ (earCells 7).toList, u.oneCell' = true := by
  have h : ((earCells 7).toList.all fun u => u.oneCell') = true := by kernel_rfl
  exact fun u hu => List.all_eq_true.1 h u hu
theorem ear_fit : 0 + [Value.int .i64 (-1), Value.slice none 0 0].length ≤ (earCells 0).size := of_decide_eq_true (by kernel_rfl)
theorem ear_fit1 : 2 + (earList 1).length ≤ (earCells 1).size := of_decide_eq_true (by kernel_rfl)
theorem ear_fit2 : 4 + (earList 2).length ≤ (earCells 2).size := of_decide_eq_true (by kernel_rfl)
theorem ear_fit4 : 8 + (earList 3).length ≤ (earCells 4).size := of_decide_eq_true (by kernel_rfl)
theorem ear_min1 : Nat.min 1 6 = 1 := rfl
theorem ear_min2 : Nat.min 2 5 = 2 := rfl
theorem ear_min4 : Nat.min 4 3 = 3 := rfl
theorem ear_len (n : Nat) (h : n ≤ 7) : (earList n).length = n * 2 := by
  have : (earCells 7).toList.length = 14 := by kernel_rfl
  rw [earList, List.length_take, this]
  omega
theorem ear_pre1 : earList 1 = (earCells 1).toList.take (2 * 1) := by kernel_rfl
theorem ear_pre2 : earList 2 = (earCells 2).toList.take (2 * 2) := by kernel_rfl
theorem ear_pre4 : earList 3 = (earCells 4).toList.take (2 * 3) := by kernel_rfl
theorem ear_next1 : laidOver (earCells 1) 2 (earList 1) = earCells 2 := by kernel_rfl
theorem ear_next2 : laidOver (earCells 2) 4 (earList 2) = earCells 4 := by kernel_rfl
theorem ear_next4 : laidOver (earCells 4) 8 (earList 3) = earCells 7 := by kernel_rfl
theorem ear_next0 : laidOver (earCells 0) 0 [Value.int .i64 (-1), Value.slice none 0 0] = earCells 1 := by kernel_rfl
theorem earList_one (n : Nat) : ∀ u ∈ earList n, u.oneCell' = true := fun u hu => ear_all u (List.mem_of_mem_take hu)
attribute [irreducible] earCells earList
theorem ear_one : ∀ u ∈ [Value.int .i64 (-1), Value.slice none 0 0], u.oneCell' = true := by
  intro u hu
  simp at hu
  rcases hu with rfl | rfl <;> rfl
theorem ear_src {W : World} {g : Nat} {t : TypeId} (h : Blk W g t #[.int .i64 (-1), .slice none 0 0]) : ∀ j v, [Value.int .i64 (-1), Value.slice none 0 0][j]? = some v → W.cell? ((⟨g, 0, none⟩ : Addr).add j) = some v := by
  intro j v hj
  rw [Addr.add_lit, Nat.zero_add, h.cell]
  simpa using hj
theorem ear_src2 {W : World} {g k n : Nat} {t : TypeId} (h : Blk W g t (earCells k)) (hp : earList n = (earCells k).toList.take (2 * n)) : ∀ j v, (earList n)[j]? = some v → W.cell? ((⟨g, 0, none⟩ : Addr).add j) = some v := by
  intro j v hj
  rw [Addr.add_lit, Nat.zero_add, h.cell]
  rw [hp, List.getElem?_take] at hj
  split at hj
  · simpa using hj
  · cases hj
set_option maxHeartbeats 3200000 in
set_option maxRecDepth 100000 in
theorem repeat_ears (g : Nat) (w : World) (hg : Blk w g 58 #[.int .i64 (-1), .slice none 0 0]) :
    Calls Try.prog 29 #[.slice (some ⟨g, 0, none⟩) 1 1, .int .i64 7] w fun e w' => ∃ g', e = .returned (.slice (some ⟨g', 0, none⟩) 7 7) ∧ Blk w' g' 58 (earCells 7) ∧ w.heap.size ≤ g' ∧ Below w.heap.size w w' := by
  have hmk := make_ears
  have lg := hg.lt
  go_enter Try.func29, Try.ntmps29
  have hgA := hg.alloc (.cells (earCells 0) 58)
  go_wp2_with (first
    | (go_at_call 54; refine (mul_17 _).mono ?_; rintro e w' ⟨rfl, rfl⟩)
    | (with_reducible refine wpList_copy_N rfl (.tmp 31) (.tmp 32) 28 28 rfl 58 Try.underlying28 2 earSize w.heap.size 0 7 7 ⟨g, 0, none⟩ 1 1 rfl rfl (earCells 0) 58 (Blk.new _ _ _) [.int .i64 (-1), .slice none 0 0] 1 rfl rfl ?hsrc ?hfit ear_one ?hh; (case hsrc => exact ear_src hgA); (case hfit => exact ear_fit); intro w2 hb2 hg2))
  have hb3 : Blk w2 w.heap.size 58 (earCells 1) := by rw [← ear_next0]; exact hb2
  have hB2 : Below w.heap.size w w2 := ((Below.refl _ _).alloc (Nat.le_refl _) _).grown hg2 (by simp) (fun q hq => by injection hq with hq; omega)
  clear hb2 hg2 hgA hmk
  go_loopw [8] (fun v wr => ∃ k : Nat, (k = 1 ∨ k = 2 ∨ k = 4 ∨ k = 7) ∧ v = .int .i64 k ∧ Blk wr w.heap.size 58 (earCells k) ∧ Below w.heap.size w wr) (fun v _ => 8 - (intOf v).toNat)
  case atStart => exact ⟨1, .inl rfl, rfl, hb3, hB2⟩
  case round =>
    obtain ⟨k, hk, rfl, hb, hB⟩ := hrel
    rcases hk with rfl | rfl | rfl | rfl
    · have hbd := hb.drew
      go_wp2_with fail
      go_region_held3 (fun _ => True) (trivial) (((with_reducible refine step_copy_N rfl (.tmp 41) (.tmp 44) 28 28 rfl 58 Try.underlying28 2 earSize w.heap.size 2 6 6 ⟨w.heap.size, 0, none⟩ 1 7 rfl rfl (earCells 1) 58 hbd (earList 1) 1 ear_min1 (ear_len 1 (by decide)) (ear_src2 hbd ear_pre1) ear_fit1 (earList_one 1) ?_); intro w5 hb5 hg5))
      go_wp2_with fail
      refine ⟨⟨2, by decide, rfl, by rw [← ear_next1]; exact hb5, hB.drew.grown hg5 hB.size (fun q hq => by injection hq with hq; omega)⟩, by decide⟩
    · have hbd := hb.drew
      go_wp2_with fail
      go_region_held3 (fun _ => True) (trivial) (((with_reducible refine step_copy_N rfl (.tmp 41) (.tmp 44) 28 28 rfl 58 Try.underlying28 2 earSize w.heap.size 4 5 5 ⟨w.heap.size, 0, none⟩ 2 7 rfl rfl (earCells 2) 58 hbd (earList 2) 2 ear_min2 (ear_len 2 (by decide)) (ear_src2 hbd ear_pre2) ear_fit2 (earList_one 2) ?_); intro w5 hb5 hg5))
      go_wp2_with fail
      refine ⟨⟨4, by decide, rfl, by rw [← ear_next2]; exact hb5, hB.drew.grown hg5 hB.size (fun q hq => by injection hq with hq; omega)⟩, by decide⟩
    · have hbd := hb.drew
      go_wp2_with fail
      go_region_held3 (fun _ => True) (trivial) (((with_reducible refine step_copy_N rfl (.tmp 41) (.tmp 44) 28 28 rfl 58 Try.underlying28 2 earSize w.heap.size 8 3 3 ⟨w.heap.size, 0, none⟩ 4 7 rfl rfl (earCells 4) 58 hbd (earList 3) 3 ear_min4 (ear_len 3 (by decide)) (ear_src2 hbd ear_pre4) ear_fit4 (earList_one 3) ?_); intro w5 hb5 hg5))
      go_wp2_with fail
      refine ⟨⟨7, by decide, rfl, by rw [← ear_next4]; exact hb5, hB.drew.grown hg5 hB.size (fun q hq => by injection hq with hq; omega)⟩, by decide⟩
    · go_wp2_with fail
      go_ret
      exact ⟨w.heap.size, rfl, hb, Nat.le_refl _, hB⟩
end Go.Proofs.Ytppjafhlbphibaa
