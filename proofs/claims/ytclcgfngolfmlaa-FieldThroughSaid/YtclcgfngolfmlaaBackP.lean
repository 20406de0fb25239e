/-
  slices.Backward of a polynomial's bytes: what it hands a loop.
-/
import Derived.Test.YtclcgfngolfmlaaBack
namespace Go.Proofs.Ytclcgfngolfmlaa
set_option linter.unusedSimpArgs false
set_option linter.unusedVariables false
open Go.RowKit Go.Shelf
attribute [local go_sem] Oper.semAt_some

set_option maxRecDepth 100000 in
set_option maxHeartbeats 2000000 in
theorem backp1_in (F : Fence) (n : Nat) (hf : F.fn 158) (hro : F.round = none) (hn : 1 ≤ n) (l0 Bs n₀ b off len cap : Nat) (l : List UInt8) (hl : l.length = len) (hreach : len ≤ 140737488351300) (hb : b < n₀) (J Jx : List (Nat × UInt8) → World → Prop)
    (hY : ∀ pre x W, J pre W → pre.length < len → x = (len - 1 - pre.length, l.getD (len - 1 - pre.length) 0) → YieldAt F (n - 1) Try.prog l0 #[.int .i64 (x.1 : Int), .int .u8 (x.2.toNat : Int)] W fun e W' =>
      (e = .returned (.bool true) ∧ J (pre ++ [x]) W' ∧ KeepB n₀ Bs W W') ∨ (e = .returned (.bool false) ∧ Jx (pre ++ [x]) W'))
    (W : World) (hBs : W.cell? ⟨Bs, 0, none⟩ = some (.slice (some ⟨b, off, none⟩) len cap)) (hc : ∀ j, j < len → W.cell? ⟨b, off + j, none⟩ = some (.int .u8 ((l.getD j 0).toNat : Int))) (h0 : J [] W) :
    CallsIn F n Try.prog 158 #[.func (.yield l0) #[] #[], .pointer (some ⟨Bs, 0, none⟩)] W fun e W' => (∃ v, e = .returned v) ∧
      ((∃ ys, ys = backTo l len ∧ J ys W') ∨ (∃ pre, (∃ k, k ≤ len ∧ pre = backTo l k) ∧ Jx pre W')) := by
  refine callsIn_of_wp Try.func158 rfl hf ?_ hro
  simp only [Try.ntmps158, List.size_toArray, List.length_cons, List.length_nil, Nat.reduceAdd, Nat.reduceSub, Array.replicate_succ, Array.replicate_zero, List.push_toArray, List.append_toArray, List.nil_append, List.cons_append]
  have HY := Lib.hid hY
  have HC := Lib.hid hc
  have HL := Lib.hid hl
  clear hY hc hl
  gi_wp2
  gi_loopw [3] (fun i wr => ∃ m : Nat, m ≤ len ∧ i = .int .i64 ((m : Int) - 1) ∧ J (backTo l (len - m)) wr ∧ KeepB n₀ Bs W wr)
    (fun i _ => (intOf i + 1).toNat)
  case atStart => exact ⟨len, Nat.le_refl _, rfl, by rw [Nat.sub_self]; exact h0, KeepB.refl _ _ _⟩
  case round =>
    obtain ⟨m, hm, rfl, hJs, hnx⟩ := hrel
    have cs := hnx.2 _ hBs
    by_cases h0m : m = 0
    · subst h0m
      gi_wp2
      go_end0
      exact ⟨⟨_, rfl⟩, .inl ⟨_, rfl, hJs⟩⟩
    · obtain ⟨m, rfl⟩ : ∃ k, m = k + 1 := ⟨m - 1, by omega⟩
      rw [show ((m + 1 : Nat) : Int) - 1 = (m : Int) from by omega]
      obtain ⟨fn, tmps, assign, body, hy, hR⟩ := HY.out _ (m, l.getD m 0) wr hJs (by rw [backTo_length]; omega) (by rw [backTo_length, show len - 1 - (len - (m + 1)) = m from by omega])
      have hcx := (hnx.1.cell (p := ⟨b, off + m, none⟩) hb).trans (HC.out m (by omega))
      have HS : Hid (backTo l (len - (m + 1)) ++ [(m, l.getD m 0)] = backTo l (len - m)) := by
        have h := backTo_succ l (len - (m + 1))
        have e : l.length - 1 - (len - (m + 1)) = m := by rw [HL.out]; omega
        rw [e] at h
        show _ = _
        rw [← h, show len - (m + 1) + 1 = len - m from by omega]
      rw [HS.out] at hR
      dsimp only at hy
      clear HS
      generalize l.getD m 0 = z at *
      have i1 : (0 : Int) ≤ (m : Int) := by omega
      have i2 : (m : Int) < (len : Int) := by omega
      gi_wp2
      refine hR.mono ?_
      rintro e W3 (⟨rfl, hJ3, hk3⟩ | ⟨rfl, hJx3⟩)
      · gi_wp2
        go_roundw
        case rel => exact ⟨m, by omega, rfl, hJ3, hnx.trans hk3⟩
        case measure => simp [intOf] <;> omega
      · gi_wp2
        refine bodyPost_ret (results_none rfl _ _ _) rfl ?_
        exact ⟨⟨_, rfl⟩, .inr ⟨_, ⟨len - m, by omega, rfl⟩, hJx3⟩⟩

set_option maxRecDepth 100000 in
set_option maxHeartbeats 1000000 in
/-- .. of nothing. -/
theorem backp1_none_in (F : Fence) (n : Nat) (hf : F.fn 158) (hro : F.round = none) (l0 Bs : Nat) (A : Option Addr) (cap : Nat) (J : List (Nat × UInt8) → World → Prop) (W : World) (hBs : W.cell? ⟨Bs, 0, none⟩ = some (.slice A 0 cap)) (h0 : J [] W) :
    CallsIn F n Try.prog 158 #[.func (.yield l0) #[] #[], .pointer (some ⟨Bs, 0, none⟩)] W fun e W' => (∃ v, e = .returned v) ∧ J [] W' := by
  refine callsIn_of_wp Try.func158 rfl hf ?_ hro
  simp only [Try.ntmps158, List.size_toArray, List.length_cons, List.length_nil, Nat.reduceAdd, Nat.reduceSub, Array.replicate_succ, Array.replicate_zero, List.push_toArray, List.append_toArray, List.nil_append, List.cons_append]
  gi_wp2
  gi_loopw [3] (fun i wr => i = .int .i64 (-1) ∧ J [] wr) (fun _ _ => 0)
  case atStart => exact ⟨rfl, h0⟩
  case round =>
    obtain ⟨rfl, hJs⟩ := hrel
    gi_wp2
    go_end0
    exact ⟨⟨_, rfl⟩, hJs⟩

set_option maxRecDepth 100000 in
set_option maxHeartbeats 1000000 in
/-- slices.Backward(s): the slice is boxed; the function captures the box. -/
theorem backp_in (F : Fence) (n : Nat) (hf : F.fn 91) (hro : F.round = none) (A : Option Addr) (len cap : Nat) (w : World) :
    CallsIn F n Try.prog 91 #[.slice A len cap] w fun e w' => e = .returned (.func (.func 158) #[] #[.pointer (some ⟨w.heap.size, 0, none⟩)]) ∧ w' = w.alloc (.cells #[.slice A len cap] 129) := by
  refine callsIn_of_wp Try.func91 rfl hf ?_ hro
  simp only [Try.ntmps91, List.size_toArray, List.length_cons, List.length_nil, Nat.reduceAdd, Nat.reduceSub, Array.replicate_succ, Array.replicate_zero, List.push_toArray, List.append_toArray, List.nil_append, List.cons_append]
  gi_wp2
  go_ret
  exact ⟨rfl, rfl⟩

/-- All of them, or the last k. -/
theorem backp_stops (F : Fence) (n : Nat) (hf : F.fn 158) (hro : F.round = none) (hn : 1 ≤ n) (Bs n₀ : Nat) (A : Option Addr) (len cap : Nat) (l : List UInt8) (hl : l.length = len) (hreach : len ≤ 140737488351300) (w : World) (hBs : Bs < w.heap.size) (hn₀ : n₀ ≤ w.heap.size)
    (hc : w.cell? ⟨Bs, 0, none⟩ = some (.slice A len cap)) (hA : ∀ a, A = some a → a.block < n₀) (hI : Rd w A (bvs l)) :
    SeqStopsK F n Try.prog 158 #[.pointer (some ⟨Bs, 0, none⟩)] (fun x : Fin len => #[Value.int .i64 (x.val : Int), Value.int .u8 ((l.getD x.val 0).toNat : Int)]) (KeepB n₀ Bs) (fun ys => ys.map Fin.val = (List.range len).map fun j => len - 1 - j)
      (fun _ => True) len w := fun l0 J Jx W hW _ _ hY h0 => by
  have hc' := (hW.cell (p := ⟨Bs, 0, none⟩) hBs).trans hc
  have hI' : Rd W A (bvs l) := hI.below hW
  by_cases h : len = 0
  · subst h
    exact (backp1_none_in F n hf hro l0 Bs A cap (fun _ W => J [] W) W hc' h0).mono fun e W' ⟨he, hj⟩ => ⟨he, .inl ⟨[], by simp, hj⟩⟩
  · obtain ⟨b, off, rfl, _⟩ := hI'.byte (k := 0) (by omega)
    refine (backp1_in F n hf hro hn l0 Bs n₀ b off len cap l hl hreach (hA _ rfl) (fun pre W => ∃ p' : List (Fin len), pre = p'.map (fun i => (i.val, l.getD i.val 0)) ∧ J p' W) (fun pre W => ∃ p' : List (Fin len), Jx p' W) ?_ W hc' (fun j hj => ?_) ⟨[], rfl, h0⟩).mono ?_
    · rintro pre x W1 ⟨p', rfl, hJ⟩ hlt rfl
      rw [List.length_map] at hlt ⊢
      refine (hY p' ⟨len - 1 - p'.length, by omega⟩ W1 hJ hlt).mono ?_
      rintro e W' (⟨he, hj, hk⟩ | ⟨he, hj⟩)
      · exact .inl ⟨he, ⟨_, by rw [List.map_append]; rfl, hj⟩, hk⟩
      · exact .inr ⟨he, _, hj⟩
    · have := hI'.cell (bvs_get (k := j) (show j < l.length by omega))
      rw [this]
      simp [List.getD, show j < l.length by omega]
    · rintro e W' ⟨he, (⟨ys, hys, p', hp, hj⟩ | ⟨pre, _, p', hj⟩)⟩
      · refine ⟨he, .inl ⟨p', ?_, hj⟩⟩
        rw [hp] at hys
        have h2 := congrArg (List.map Prod.fst) hys
        unfold backTo at h2
        rw [List.map_map, List.map_map, hl] at h2
        exact h2
      · exact ⟨he, .inr ⟨p', trivial, hj⟩⟩
end Go.Proofs.Ytclcgfngolfmlaa
