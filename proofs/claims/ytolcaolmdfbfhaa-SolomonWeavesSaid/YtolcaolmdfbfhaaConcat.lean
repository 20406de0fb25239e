/-
  slices.Grow of nothing, and slices.Concat of rows of bytes.
-/
import Derived.Test.YtolcaolmdfbfhaaStep
import Derived.Test.YtolcaolmdfbfhaaRes
import Derived.Test.YtolcaolmdfbfhaaMade
import Derived.Lib.AppendZeros
import Derived.Deep.DeepCutAuto
namespace Go.Proofs.Ytolcaolmdfbfhaa
set_option linter.unusedSimpArgs false
set_option linter.unusedVariables false
open Go.RowKit

theorem Own.empty8 (w : World) (cur : Array Value) (c : Nat) (hc : c ≤ maxLen) (hs : c ≤ cur.size) : Own (w.alloc (.cells cur 5)) w.heap.size 5 1 (some ⟨w.heap.size, 0, none⟩) 0 c [] :=
  Own.of_block (heap_alloc_new w _) (Nat.le_refl _) rfl (Nat.zero_le _) hc (by simpa using hs) (fun i u h => by simp at h)

set_option maxHeartbeats 1600000 in
set_option maxRecDepth 100000 in
theorem grow_nil (n : Nat) (w : World) (hn : n ≤ 140737488351300) :
    Calls Try.prog 115 #[.slice none 0 0, .int .i64 n] w fun e w' => ∃ A c, e = .returned (.slice A 0 c) ∧ Own w' w.heap.size 5 1 A 0 c [] ∧ Below w.heap.size w w' := by
  obtain ⟨i0, hi0, hz0, hz1, hz2⟩ := info_parts u8info
  by_cases h0 : n = 0
  · subst h0
    go_enter Try.func115, Try.ntmps115
    go_wp2
    go_ret
    exact ⟨none, 0, rfl, Own.none_ _ _ _ _, Below.refl _ _⟩
  · have hi : (0 : Int) < (n : Int) := by omega
    have hr := fun ty => Lib.run_append_nil_zeros (P := Try.prog) w 22 3 ty 5 i0 _ .i64 .i64 Try.underlying22 Try.underlying3 hi0 hz0 n (by omega) (by omega) (by omega) (by rw [hz2]; omega)
    have hG1 := grownCap_ge w n 0 5
    have hG2 := grownCap_le_maxLen w n 0 5 (by unfold maxLen; omega)
    generalize grownCap w n 0 5 = G at *
    have hOw := Own.empty8 w.drew (Builtin.zeroCells (Value.int .u8 0).cells n ++ Builtin.zeroCells (Value.int .u8 0).cells (G - n)) G hG2 (by simp [Builtin.zeroCells, show (Value.int IntKind.u8 0).cells.size = 1 from rfl]; omega)
    go_enter Try.func115, Try.ntmps115
    go_wp2_with (at_builtin; refine Lib.wpList_append_run _ rfl _ _ _ _ rfl _ _ rfl rfl _ _ (hr _) ?_)
    go_ret
    exact ⟨_, _, rfl, hOw, (Below.refl _ _).drew.alloc (Nat.le_refl _) _⟩

/-- One row of bytes in a row of rows. -/
structure Pc where
  A : Option Addr
  l : List UInt8
  c : Nat
def Pc.v (p : Pc) : Value := .slice p.A p.l.length p.c
def joined (ps : List Pc) : List UInt8 := ps.flatMap Pc.l
theorem joined_take {ps : List Pc} {k : Nat} (h : k < ps.length) : joined (ps.take (k + 1)) = joined (ps.take k) ++ ps[k].l := by
  unfold joined
  rw [List.take_succ_eq_append_getElem h, List.flatMap_append]
  simp
theorem joined_take_le (ps : List Pc) (k : Nat) : (joined (ps.take k)).length ≤ (joined ps).length := by
  conv => rhs; rw [← List.take_append_drop k ps]
  unfold joined
  rw [List.flatMap_append, List.length_append]
  omega
theorem pcs_get {ps : List Pc} {k : Nat} (h : k < ps.length) : (ps.map Pc.v)[k]? = some (.slice ps[k].A ps[k].l.length ps[k].c) := by simp [h, Pc.v]
theorem Rd.pc {w : World} {R : Option Addr} {ps : List Pc} (h : Rd w R (ps.map Pc.v)) {k : Nat} (hk : k < ps.length) : ∃ b off, R = some ⟨b, off, none⟩ ∧ w.cell? ⟨b, off + k, none⟩ = some (.slice ps[k].A ps[k].l.length ps[k].c) := h k _ (pcs_get hk)

set_option maxHeartbeats 1600000 in
set_option maxRecDepth 100000 in
theorem concat_any (R : Option Addr) (ps : List Pc) (n c : Nat) (w : World) (hl : ps.length = n) (hn : n ≤ 140737488351300) (hR : Rd w R (ps.map Pc.v)) (hP : ∀ p ∈ ps, Rd w p.A (bvs p.l)) (hS : (joined ps).length ≤ 140737488351300) :
    Calls Try.prog 68 #[.slice R n c] w fun e w' => RowsOut w w' (joined ps) e := by
  obtain ⟨i0, hi0, hz0, hz1, hz2⟩ := info_parts u8info
  have HL := Lib.hid hl
  clear hl
  go_enter Try.func68, Try.ntmps68
  go_wp2_with fail
  go_loop [3, 11] (fun s i => ∃ k : Nat, k ≤ n ∧ i = .int .i64 k ∧ s = .int .i64 ((joined (ps.take k)).length : Nat)) (fun _ i => n - (intOf i).toNat)
  case atStart => exact ⟨0, by omega, by simp, by simp [joined]⟩
  case round =>
    obtain ⟨k, hk, rfl, rfl⟩ := hrel
    by_cases h5 : k < n
    · have h5i : (k : Int) < (n : Int) := by omega
      obtain ⟨b, off, rfl, hc⟩ := hR.pc (k := k) (by rw [HL.out]; exact h5)
      have HN := Lib.hid ((congrArg List.length (joined_take (ps := ps) (k := k) (by rw [HL.out]; exact h5))).trans List.length_append)
      have HB := joined_take_le ps (k + 1)
      rw [HN.out] at HB
      generalize ps[k]'(by rw [HL.out]; exact h5) = p at *
      obtain ⟨A, l, pc⟩ := p
      simp only at hc HB
      generalize (joined (ps.take k)).length = s at *
      go_wp2
      go_round
      case rel => exact ⟨k + 1, by omega, by go_num, by rw [HN.out]; go_num⟩
      case measure => simp [intOf]; omega
    · obtain rfl : k = n := by omega
      have eT : Hid (joined (ps.take k) = joined ps) := by show _ = _; rw [List.take_of_length_le (by rw [HL.out]; omega)]
      rw [eT.out]
      go_wp2_with (go_at_call 115; refine (grow_nil _ w hS).mono ?_; rintro e w1 ⟨A0, c0, rfl, hO0, hB0⟩)
      go_loopw [6, 27] (fun o i wr => ∃ (j : Nat) (A1 : Option Addr) (c1 : Nat), j ≤ k ∧ o = .slice A1 (joined (ps.take j)).length c1 ∧ i = .int .i64 j ∧ Own wr w.heap.size 5 1 A1 (joined (ps.take j)).length c1 (bvs (joined (ps.take j))) ∧ Below w.heap.size w wr) (fun _ i _ => k - (intOf i).toNat)
      case atStart => exact ⟨0, A0, c0, by omega, by simp [joined], by simp, by simpa [joined, bvs] using hO0, hB0⟩
      case round =>
        obtain ⟨j, A1, c1, hj, rfl, rfl, hO, hB⟩ := hrel
        by_cases h6 : j < k
        · have h6i : (j : Int) < (k : Int) := by omega
          have h6l : j < ps.length := by rw [HL.out]; exact h6
          obtain ⟨b, off, rfl, hc⟩ := (hR.below hB).pc h6l
          have HN := Lib.hid (joined_take h6l)
          have hT := joined_take_le ps (j + 1)
          have ha := (hP _ (List.getElem_mem h6l)).below hB
          rw [HN.out, List.length_append] at hT
          generalize ps[j] = p at *
          obtain ⟨A, l, pc⟩ := p
          simp only at hc hT ha HN
          generalize joined (ps.take j) = L at *
          have q2 : L.length + l.length ≤ maxLen := by unfold maxLen; omega
          have q3 : (L.length + l.length) * 1 ≤ 140737488355328 := by omega
          go_wp2_with (at_builtin; refine wpList_append_Own _ rfl (.tmp 31) (.tmp 32) 22 rfl w.heap.size 5 i0 _ 1 1 Try.underlying22 hi0 hz0 hz1 hz2 rfl A1 L.length c1 (bvs L) (by simp [Act.eval, Act.put]) hO A l.length pc (bvs l) (by simp [Act.eval, Act.put]) (by simp [bvs]) ha (bvs_one _) q2 q3 hB.size ?_; intro A' c' w2 hO1 hg1 hor)
          go_roundw
          case rel =>
            refine ⟨j + 1, A', c', by omega, by rw [HN.out, List.length_append], by go_num, ?_, hB.grown hg1 hB.size (fun q hq => (hO.lt q hq).1)⟩
            rw [HN.out, List.length_append, bvs_append]
            exact hO1
          case measure => simp [intOf]; omega
        · obtain rfl : j = k := by omega
          rw [eT.out] at hO
          rw [eT.out]
          go_wp2
          go_ret
          exact ⟨A1, c1, rfl, hO, hB⟩
end Go.Proofs.Ytolcaolmdfbfhaa
