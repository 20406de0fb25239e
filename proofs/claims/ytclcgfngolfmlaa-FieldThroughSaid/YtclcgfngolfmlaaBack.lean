/-
  slices.Backward of bytes: what it hands a loop.
-/
import Derived.Test.YtclcgfngolfmlaaRange
namespace Go.Proofs.Ytclcgfngolfmlaa
set_option linter.unusedSimpArgs false
set_option linter.unusedVariables false
open Go.RowKit Go.Shelf
attribute [local go_sem] Oper.semAt_some

/-- What has come when k rounds are over: the last k bytes, the last one first, with their places. -/
def backTo (l : List UInt8) (k : Nat) : List (Nat × UInt8) := (List.range k).map fun j => (l.length - 1 - j, l.getD (l.length - 1 - j) 0)
theorem backTo_succ (l : List UInt8) (k : Nat) : backTo l (k + 1) = backTo l k ++ [(l.length - 1 - k, l.getD (l.length - 1 - k) 0)] := by simp [backTo, List.range_succ]
theorem backTo_length (l : List UInt8) (k : Nat) : (backTo l k).length = k := by simp [backTo]

/-- What a round keeps: whatever lay below n₀, and the box Bs. -/
def KeepB (n₀ Bs : Nat) (W W' : World) : Prop := Below n₀ W W' ∧ ∀ v, W.cell? ⟨Bs, 0, none⟩ = some v → W'.cell? ⟨Bs, 0, none⟩ = some v
theorem KeepB.refl (n₀ Bs : Nat) (W : World) : KeepB n₀ Bs W W := ⟨Below.refl _ _, fun _ h => h⟩
theorem KeepB.trans {n₀ Bs : Nat} {A B C : World} (h : KeepB n₀ Bs A B) (k : KeepB n₀ Bs B C) : KeepB n₀ Bs A C := ⟨h.1.trans k.1, fun v hv => k.2 v (h.2 v hv)⟩
theorem KeepB.set {n₀ Bs b : Nat} (W : World) (h1 : n₀ ≤ b) (h2 : b ≠ Bs) (o : Nat) (u : Value) : KeepB n₀ Bs W (W.setCell ⟨b, o, none⟩ u) :=
  ⟨(Below.refl _ _).setCell (p := ⟨b, o, none⟩) h1 _, fun v hv => (World.cell?_of_block (w := W) (a := ⟨Bs, 0, none⟩) (Below.heap_setCell W ⟨b, o, none⟩ u Bs (fun e => h2 e.symm))).trans hv⟩
theorem keepB_b {n₀ Bs : Nat} {w : World} (hn : n₀ ≤ w.heap.size) : ∀ (W : World) (l : Nat) (o o' : Obj), w.heap.size ≤ l → W.heap[l]? = some o → o.isCells = false → o.isWalk = false → KeepB n₀ Bs W (W.putObj l o') := fun W l o o' hl ho hc hw =>
  ⟨belowK_b hn W l o o' hl ho hc hw, fun v hv => by
    refine cell_kept hv (grownBy_putObj' W l o') (fun r e => ?_)
    cases e
    exact ⟨o, ho, hc⟩⟩

set_option maxRecDepth 100000 in
set_option maxHeartbeats 2000000 in
theorem back1_in (F : Fence) (n : Nat) (hf : F.fn 196) (hro : F.round = none) (hn : 1 ≤ n) (l0 Bs n₀ b off len cap : Nat) (l : List UInt8) (hl : l.length = len) (hreach : len ≤ 140737488351300) (hb : b < n₀) (J Jx : List (Nat × UInt8) → World → Prop)
    (hY : ∀ pre x W, J pre W → pre.length < len → YieldAt F (n - 1) Try.prog l0 #[.int .i64 (x.1 : Int), .int .u8 (x.2.toNat : Int)] W fun e W' =>
      (e = .returned (.bool true) ∧ J (pre ++ [x]) W' ∧ KeepB n₀ Bs W W') ∨ (e = .returned (.bool false) ∧ Jx (pre ++ [x]) W'))
    (W : World) (hBs : W.cell? ⟨Bs, 0, none⟩ = some (.slice (some ⟨b, off, none⟩) len cap)) (hc : ∀ j, j < len → W.cell? ⟨b, off + j, none⟩ = some (.int .u8 ((l.getD j 0).toNat : Int))) (h0 : J [] W) :
    CallsIn F n Try.prog 196 #[.func (.yield l0) #[] #[], .pointer (some ⟨Bs, 0, none⟩)] W fun e W' => (∃ v, e = .returned v) ∧
      ((∃ ys, ys = backTo l len ∧ J ys W') ∨ (∃ pre, (∃ k, k ≤ len ∧ pre = backTo l k) ∧ Jx pre W')) := by
  refine callsIn_of_wp Try.func196 rfl hf ?_ hro
  simp only [Try.ntmps196, List.size_toArray, List.length_cons, List.length_nil, Nat.reduceAdd, Nat.reduceSub, Array.replicate_succ, Array.replicate_zero, List.push_toArray, List.append_toArray, List.nil_append, List.cons_append]
  have HY := Lib.hid hY
  have HC := Lib.hid hc
  have HL := Lib.hid hl
  clear hY hc hl
  gi_wp2
  gi_loopw [3] (fun i wr => ∃ m : Nat, m ≤ len ∧ i = .int .i64 ((m : Int) - 1) ∧ J (backTo l (len - m)) wr ∧ KeepB n₀ Bs W wr)
    (fun i _ => (intOf i + 1).toNat)
  case atStart => exact ⟨len, Nat.le_refl _, rfl, by rw [Nat.sub_self]; exact h0, KeepB.refl _ _ _⟩
  case round =>
    obtain ⟨m, hm, rfl, hJs, hnx⟩ := hrel
    have cs := hnx.2 _ hBs
    by_cases h0m : m = 0
    · subst h0m
      gi_wp2
      go_end0
      exact ⟨⟨_, rfl⟩, .inl ⟨_, rfl, hJs⟩⟩
    · obtain ⟨m, rfl⟩ : ∃ k, m = k + 1 := ⟨m - 1, by omega⟩
      rw [show ((m + 1 : Nat) : Int) - 1 = (m : Int) from by omega]
      obtain ⟨fn, tmps, assign, body, hy, hR⟩ := HY.out _ (m, l.getD m 0) wr hJs (by rw [backTo_length]; omega)
      have hcx := (hnx.1.cell (p := ⟨b, off + m, none⟩) hb).trans (HC.out m (by omega))
      have HS : Hid (backTo l (len - (m + 1)) ++ [(m, l.getD m 0)] = backTo l (len - m)) := by
        have h := backTo_succ l (len - (m + 1))
        have e : l.length - 1 - (len - (m + 1)) = m := by rw [HL.out]; omega
        rw [e] at h
        show _ = _
        rw [← h, show len - (m + 1) + 1 = len - m from by omega]
      rw [HS.out] at hR
      dsimp only at hy
      clear HS
      generalize l.getD m 0 = z at *
      have i1 : (0 : Int) ≤ (m : Int) := by omega
      have i2 : (m : Int) < (len : Int) := by omega
      gi_wp2
      refine hR.mono ?_
      rintro e W3 (⟨rfl, hJ3, hk3⟩ | ⟨rfl, hJx3⟩)
      · gi_wp2
        go_roundw
        case rel => exact ⟨m, by omega, rfl, hJ3, hnx.trans hk3⟩
        case measure => simp [intOf] <;> omega
      · gi_wp2
        refine bodyPost_ret (results_none rfl _ _ _) rfl ?_
        exact ⟨⟨_, rfl⟩, .inr ⟨_, ⟨len - m, by omega, rfl⟩, hJx3⟩⟩

set_option maxRecDepth 100000 in
set_option maxHeartbeats 1000000 in
/-- .. of nothing. -/
theorem back1_none_in (F : Fence) (n : Nat) (hf : F.fn 196) (hro : F.round = none) (l0 Bs : Nat) (A : Option Addr) (cap : Nat) (J : List (Nat × UInt8) → World → Prop) (W : World) (hBs : W.cell? ⟨Bs, 0, none⟩ = some (.slice A 0 cap)) (h0 : J [] W) :
    CallsIn F n Try.prog 196 #[.func (.yield l0) #[] #[], .pointer (some ⟨Bs, 0, none⟩)] W fun e W' => (∃ v, e = .returned v) ∧ J [] W' := by
  refine callsIn_of_wp Try.func196 rfl hf ?_ hro
  simp only [Try.ntmps196, List.size_toArray, List.length_cons, List.length_nil, Nat.reduceAdd, Nat.reduceSub, Array.replicate_succ, Array.replicate_zero, List.push_toArray, List.append_toArray, List.nil_append, List.cons_append]
  gi_wp2
  gi_loopw [3] (fun i wr => i = .int .i64 (-1) ∧ J [] wr) (fun _ _ => 0)
  case atStart => exact ⟨rfl, h0⟩
  case round =>
    obtain ⟨rfl, hJs⟩ := hrel
    gi_wp2
    go_end0
    exact ⟨⟨_, rfl⟩, hJs⟩

set_option maxRecDepth 100000 in
set_option maxHeartbeats 1000000 in
/-- slices.Backward(s): the slice is boxed; the function captures the box. -/
theorem back_in (F : Fence) (n : Nat) (hf : F.fn 160) (hro : F.round = none) (A : Option Addr) (len cap : Nat) (w : World) :
    CallsIn F n Try.prog 160 #[.slice A len cap] w fun e w' => e = .returned (.func (.func 196) #[] #[.pointer (some ⟨w.heap.size, 0, none⟩)]) ∧ w' = w.alloc (.cells #[.slice A len cap] 22) := by
  refine callsIn_of_wp Try.func160 rfl hf ?_ hro
  simp only [Try.ntmps160, List.size_toArray, List.length_cons, List.length_nil, Nat.reduceAdd, Nat.reduceSub, Array.replicate_succ, Array.replicate_zero, List.push_toArray, List.append_toArray, List.nil_append, List.cons_append]
  gi_wp2
  go_ret
  exact ⟨rfl, rfl⟩

/-- All of them, or the last k. -/
theorem back_stops (F : Fence) (n : Nat) (hf : F.fn 196) (hro : F.round = none) (hn : 1 ≤ n) (Bs n₀ : Nat) (A : Option Addr) (len cap : Nat) (l : List UInt8) (hl : l.length = len) (hreach : len ≤ 140737488351300) (w : World) (hBs : Bs < w.heap.size) (hn₀ : n₀ ≤ w.heap.size)
    (hc : w.cell? ⟨Bs, 0, none⟩ = some (.slice A len cap)) (hA : ∀ a, A = some a → a.block < n₀) (hI : Rd w A (bvs l)) :
    SeqStopsK F n Try.prog 196 #[.pointer (some ⟨Bs, 0, none⟩)] (fun x : Nat × UInt8 => #[Value.int .i64 (x.1 : Int), Value.int .u8 (x.2.toNat : Int)]) (KeepB n₀ Bs) (fun ys => ys = backTo l len)
      (fun pre => ∃ k, k ≤ len ∧ pre = backTo l k) len w := fun l0 J Jx W hW _ _ hY h0 => by
  have hc' := (hW.cell (p := ⟨Bs, 0, none⟩) hBs).trans hc
  have hI' : Rd W A (bvs l) := hI.below hW
  by_cases h : len = 0
  · subst h
    exact (back1_none_in F n hf hro l0 Bs A cap J W hc' h0).mono fun e W' ⟨he, hj⟩ => ⟨he, .inl ⟨_, rfl, hj⟩⟩
  · obtain ⟨b, off, rfl, _⟩ := hI'.byte (k := 0) (by omega)
    refine back1_in F n hf hro hn l0 Bs n₀ b off len cap l hl hreach (hA _ rfl) J Jx hY W hc' (fun j hj => ?_) h0
    have := hI'.cell (bvs_get (k := j) (show j < l.length by omega))
    rw [this]
    simp [List.getD, show j < l.length by omega]
end Go.Proofs.Ytclcgfngolfmlaa
