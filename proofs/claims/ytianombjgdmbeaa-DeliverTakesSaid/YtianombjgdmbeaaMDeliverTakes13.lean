/-
  The document's NoteMay.
-/
import Derived.Test.YtianombjgdmbeaaMDeliverTakes1
import Derived.Test.YtianombjgdmbeaaMDeliverTakes10
import Derived.Deep.DeepCutAuto
namespace Go.Proofs.Ytianombjgdmbeaa
set_option linter.unusedSimpArgs false
set_option linter.unusedVariables false
open Go.RowKit

theorem RoomK.made {w' : World} {g : Nat} {l : List UInt8} (h : w'.heap[g]? = some (.cells (splice (List.replicate (l.length + 5) (.int .u8 0)) 0 (bvs l)).toArray 5 (0, 0))) : RoomK w' g l 0 := by
  refine ⟨_, h, ?_, fun j hj => ?_, fun j hj hj2 => by omega⟩
  · simp [splice, bvs]
  · have hb := bvs_get hj
    simp only [splice, List.take_zero, List.nil_append, List.getElem?_toArray]
    rw [List.getElem?_append_left (by simpa [bvs] using hj)]
    exact hb

set_option maxHeartbeats 400000 in
set_option maxRecDepth 100000 in
theorem roomy_any (A : Option Addr) (l : List UInt8) (c : Nat) (w : World) (ha : Rd w A (bvs l)) (hn : l.length ≤ 140737488351232) :
    Calls Try.prog 14 #[.slice A l.length c] w fun e w' => ∃ g, e = .returned (.slice (some ⟨g, 0, none⟩) l.length (l.length + 5)) ∧ w.heap.size ≤ g ∧ Room w' g l ∧ Below w.heap.size w w' := by
  have hmk := run_make_row' (P := Try.prog) 23 5 (.int .u8 0) 1 Try.underlying23 u8info rfl .i64 .i64 (l.length + 5) (by omega) (by omega)
  have ec : (((l.length + 5 : Nat)) : Int) = (l.length : Int) + 5 := by omega
  rw [ec] at hmk
  clear ec
  have hsz1 : (Try.prog.info? 5).map (·.size) = some 1 := by kernel_rfl
  go_enter Try.func14, Try.ntmps14
  go_wp2_with (with_reducible refine wpList_copy_splice rfl (.tmp 9) (.tmp 10) 23 23 rfl 5 Try.underlying23 hsz1 _ A _ _ l.length c rfl rfl w.heap.size 0 (List.replicate (l.length + 5) (.int .u8 0)) 5 ?h1 (bvs l) ?h2 ?h3 ?h4 (bvs_one l) w.heap.size w ?h5 (Nat.le_refl _) ?h6)
  case h1 =>
    rw [heap_alloc_new w _]
    congr 2
    apply Array.ext'
    rw [toList_madeCells_one]
  case h2 => simp [bvs, Nat.min_def]
  case h3 =>
    intro hpos
    have hl : 0 < l.length := by simpa [bvs] using hpos
    obtain ⟨b, off, e, _⟩ := ha.byte hl
    refine ⟨⟨b, off, none⟩, e, fun j v hv => ?_⟩
    subst e
    rw [Addr.add_lit]
    exact (ha.alloc _).cell hv
  case h4 => simp [bvs]
  case h5 => exact (Below.refl _ _).alloc (Nat.le_refl _) _
  case h6 =>
    intro w1 hg1 hb1
    have hR0 := RoomK.made hg1.out
    clear hg1 hmk hsz1 ha
    go_wp2_with fail
    go_loopw [4] (fun i wr => ∃ k : Nat, k ≤ 5 ∧ i = .int .i64 (l.length + k) ∧ RoomK wr w.heap.size l k ∧ Below w.heap.size w wr) (fun i _ => l.length + 5 - (intOf i).toNat)
    case atStart => exact ⟨0, by omega, by simp, hR0, hb1⟩
    case round =>
      obtain ⟨k, hk, rfl, hR, hb⟩ := hrel
      clear hR0 hb1
      by_cases h5 : k < 5
      · obtain ⟨u, hc⟩ := hR.cell (j := l.length + k) (by omega)
        have hf := hR.frozen (l.length + k)
        go_wp2
        go_roundw
        case rel => exact ⟨k + 1, by omega, by go_num, hR.set h5, hb.setCell (Nat.le_refl _) _⟩
        case measure => simp [intOf]; omega
      · obtain rfl : k = 5 := by omega
        go_wp2
        go_ret
        exact ⟨_, rfl, Nat.le_refl _, hR, hb⟩
end Go.Proofs.Ytianombjgdmbeaa
namespace Go.Proofs.Ytianombjgdmbeaa
set_option linter.unusedSimpArgs false
set_option linter.unusedVariables false
open Go.RowKit

theorem gap_out {a b : Int} {r : Bool} (h : (decide (a = 0 ∧ b = 0) || decide (0 ≤ a ∧ a < b ∧ b ≤ 65536)) = r) : gapOk (a, b) = r := h
theorem gapMay_any (a b : Int) (w : World) : Calls Try.prog 80 #[.agg #[.int .i64 a, .int .i64 b], .int .i64 65536] w fun e w' => e = .returned (.bool (gapOk (a, b))) ∧ Below w.heap.size w w' := by
  have hB : ∀ o, Below w.heap.size w (w.alloc o) := fun o => (Below.refl _ _).alloc (Nat.le_refl _) _
  by_cases a0 : a = 0
  · have ia : (a == 0) = true := by rw [beq_iff_eq]; exact a0
    by_cases b0 : b = 0
    · have ib : (b == 0) = true := by rw [beq_iff_eq]; exact b0
      rw [gap_out (r := true) (by rw [decide_eq_true (⟨a0, b0⟩ : a = 0 ∧ b = 0)] <;> rfl)]
      clear a0 b0
      go_enter Try.func80, Try.ntmps80
      go_wp2_with fail
      go_ret
      exact ⟨rfl, hB _⟩
    · have ib : (b == 0) = false := by rw [beq_eq_false_iff_ne]; exact b0
      by_cases p : 0 ≤ a
      rotate_left
      · exact absurd (by omega) p
      by_cases q : a < b
      · by_cases r : b ≤ 65536
        · rw [gap_out (r := true) (by rw [decide_eq_false (by omega : ¬ (a = 0 ∧ b = 0)), decide_eq_true (by omega)] <;> rfl)]
          go_enter Try.func80, Try.ntmps80
          go_wp2_with fail
          go_ret
          exact ⟨rfl, hB _⟩
        · rw [gap_out (r := false) (by rw [decide_eq_false (by omega : ¬ (a = 0 ∧ b = 0)), decide_eq_false (by omega)] <;> rfl)]
          go_enter Try.func80, Try.ntmps80
          go_wp2_with fail
          go_ret
          exact ⟨rfl, hB _⟩
      · rw [gap_out (r := false) (by rw [decide_eq_false (by omega : ¬ (a = 0 ∧ b = 0)), decide_eq_false (by omega)] <;> rfl)]
        go_enter Try.func80, Try.ntmps80
        go_wp2_with fail
        go_ret
        exact ⟨rfl, hB _⟩
  · have ia : (a == 0) = false := by rw [beq_eq_false_iff_ne]; exact a0
    by_cases p : 0 ≤ a
    · by_cases q : a < b
      · by_cases r : b ≤ 65536
        · rw [gap_out (r := true) (by rw [decide_eq_false (by omega : ¬ (a = 0 ∧ b = 0)), decide_eq_true (by omega)] <;> rfl)]
          go_enter Try.func80, Try.ntmps80
          go_wp2_with fail
          go_ret
          exact ⟨rfl, hB _⟩
        · rw [gap_out (r := false) (by rw [decide_eq_false (by omega : ¬ (a = 0 ∧ b = 0)), decide_eq_false (by omega)] <;> rfl)]
          go_enter Try.func80, Try.ntmps80
          go_wp2_with fail
          go_ret
          exact ⟨rfl, hB _⟩
      · rw [gap_out (r := false) (by rw [decide_eq_false (by omega : ¬ (a = 0 ∧ b = 0)), decide_eq_false (by omega)] <;> rfl)]
        go_enter Try.func80, Try.ntmps80
        go_wp2_with fail
        go_ret
        exact ⟨rfl, hB _⟩
    · rw [gap_out (r := false) (by rw [decide_eq_false (by omega : ¬ (a = 0 ∧ b = 0)), decide_eq_false (by omega)] <;> rfl)]
      go_enter Try.func80, Try.ntmps80
      go_wp2_with fail
      go_ret
      exact ⟨rfl, hB _⟩
set_option maxHeartbeats 6400000 in
set_option maxRecDepth 100000 in
theorem noteMay_bad (n : Nt) (D : Option Addr) (dn dc : Nat) (G : Option Addr) (gn gc : Nat) (w : World) (h : rngOk n.kind 1 6 = false ∨ rngOk n.id 0 65535 = false) :
    Calls Try.prog 38 #[ntv n D dn dc G gn gc] w fun e w' => e = .returned (.bool (noteOk n)) ∧ Below w.heap.size w w' := by
  have hno : noteOk n = false := by
    unfold noteOk
    rcases h with h | h <;> rw [h] <;> simp
  obtain ⟨kind, id, name, size, sum, at_, data, gaps, of_, code⟩ := n
  rw [hno]
  clear hno
  unfold ntv
  dsimp only at h ⊢
  have hB : ∀ o, Below w.heap.size w (w.alloc o) := fun o => (Below.refl _ _).alloc (Nat.le_refl _) _
  by_cases k1 : kind < 1
  · go_enter Try.func38, Try.ntmps38
    go_wp2_with fail
    go_ret
    exact ⟨rfl, hB _⟩
  by_cases k2 : 6 < kind
  · go_enter Try.func38, Try.ntmps38
    go_wp2_with fail
    go_ret
    exact ⟨rfl, hB _⟩
  have H : Hid (rngOk id 0 65535 = false) := Lib.hid (by
    rcases h with h | h
    · have : rngOk kind 1 6 = true := by unfold rngOk; rw [decide_eq_true_iff]; omega
      rw [this] at h
      cases h
    · exact h)
  clear h
  go_enter Try.func38, Try.ntmps38
  go_wp2_with (go_at_call 79; refine Calls.mono (by first | exact rin_is _ _ _ _ _ H) ?_; rintro e w1 ⟨rfl, rfl⟩)
  go_ret
  exact ⟨rfl, hB _⟩
end Go.Proofs.Ytianombjgdmbeaa
