/-
  A reader of bytes: take ((*reader).take), which gives up where there are too few.
-/
import Derived.Test.YtianombjgdmbeaaMDeliverDecodes3
import Derived.Test.YtianombjgdmbeaaMDeliverDecodes6
import Derived.Test.YtianombjgdmbeaaMDeliverDecodes2
import Derived.WalkSpells
namespace Go.Proofs.Ytianombjgdmbeaa
set_option linter.unusedSimpArgs false
set_option linter.unusedVariables false
open Go.RowKit

set_option maxHeartbeats 1600000 in
set_option maxRecDepth 100000 in
theorem take_no (b : Nat) (A : Option Addr) (n c k : Nat) (w : World) (hb : Blk w b 72 #[.slice A n c]) (hk : n < k) (hz : k ≤ 140737488351300) :
    Calls Try.prog 108 #[.pointer (some ⟨b, 0, none⟩), .int .i64 (k : Int)] w fun e w' => e = .panicked [{ v := .iface 71 (.agg #[]), recovered := false }] ∧ w' = w := by
  have d0 : w.cell? ⟨b, 0, none⟩ = some (.slice A n c) := hb.cell' (i := 0) rfl
  have hki : (n : Int) < (k : Int) := by omega
  have hp : ∀ (t : TypeId) (v : Value) (w : World), (Instr.panic (.iface t v)).run Try.prog w = .halt (.panic (.iface t v)) w := fun _ _ _ => rfl
  clear hb
  go_enter Try.func108, Try.ntmps108
  go_wp2_with fail
  exact ⟨rfl, rfl, rfl⟩
set_option maxHeartbeats 1600000 in
set_option maxRecDepth 100000 in
theorem take_yes (b : Nat) (A : Option Addr) (n c k : Nat) (w : World) (hb : Blk w b 72 #[.slice A n c]) (hk : k ≤ n) (hc : n ≤ c) (hz : c ≤ 9223372036854775807) :
    Calls Try.prog 108 #[.pointer (some ⟨b, 0, none⟩), .int .i64 (k : Int)] w fun e w' => e = .returned (.slice A k k) ∧ w' = w.setCell ⟨b, 0, none⟩ (.slice (if c = k then A else Option.map (fun x => x.add k) A) (n - k) (c - k)) := by
  have d0 : w.cell? ⟨b, 0, none⟩ = some (.slice A n c) := hb.cell' (i := 0) rfl
  have kf := hb.frozen
  have hki : ¬ (n : Int) < (k : Int) := by omega
  have hk1 : k ≤ c := by omega
  clear hb
  go_enter Try.func108, Try.ntmps108
  go_wp2_with fail
  all_goals
    go_ret
    exact ⟨rfl, rfl⟩
end Go.Proofs.Ytianombjgdmbeaa
namespace Go.Proofs.Ytianombjgdmbeaa
set_option linter.unusedSimpArgs false
set_option linter.unusedVariables false
open Go.RowKit

set_option maxHeartbeats 1600000 in
set_option maxRecDepth 100000 in
/-- slices.Clone of bytes: memory of its own. -/
theorem clone_any (A : Option Addr) (l : List UInt8) (c : Nat) (w : World) (ha : Rd w A (bvs l)) (hn : l.length ≤ 140737488351300) :
    Calls Try.prog 52 #[.slice A l.length c] w fun e w' => ∃ A' c', e = .returned (.slice A' l.length c') ∧ Own w' w.heap.size 5 1 A' l.length c' (bvs l) ∧ Below w.heap.size w w' := by
  obtain ⟨i0, hi0, hz0, hz1, hz2⟩ := info_parts u8info
  have q2 : 0 + l.length ≤ maxLen := by unfold maxLen; omega
  have q3 : (0 + l.length) * 1 ≤ 140737488355328 := by omega
  have q1 : Hid ((bvs l).length = l.length * 1) := by show _ = _; simp [bvs]
  have hE := fun (W : World) (a : Option Addr) (n c : Nat) => Lib.run_eql_slice_nil (P := Try.prog) W 23 5 a n c 0 0 Try.underlying23
  rcases A with _ | a
  · have hl : l = [] := by
      rcases l with _ | ⟨x, l⟩
      · rfl
      · obtain ⟨b, off, e, _⟩ := ha.byte (k := 0) (by simp)
        cases e
    subst hl
    clear q1 q2 q3
    go_enter Try.func52, Try.ntmps52
    go_wp2
    go_ret
    exact ⟨none, 0, rfl, Own.none_ _ _ _ _, Below.refl _ _⟩
  · have hO : Own (w.alloc (.cells #[] 5)) w.heap.size 5 1 (some ⟨w.heap.size, 0, none⟩) 0 0 [] := Own.of_block (heap_alloc_new w _) (Nat.le_refl _) rfl (Nat.le_refl _) (Nat.zero_le _) (by simp) (fun i u h => by simp at h)
    have hR2 := ha.alloc (.cells #[] 5)
    have q4 : w.heap.size ≤ (w.alloc (.cells #[] 5)).heap.size := by simp
    go_enter Try.func52, Try.ntmps52
    go_wp2_with (at_builtin; refine wpList_append_Own _ rfl (.tmp 5) (.tmp 6) 23 rfl w.heap.size 5 i0 _ 1 1 Try.underlying23 hi0 hz0 hz1 hz2 rfl _ 0 0 [] rfl hO (some a) l.length c (bvs l) rfl q1.out hR2 (bvs_one _) q2 q3 q4 ?_; intro A' c' w1 hO1 hg1 hor)
    go_ret
    rw [Nat.zero_add, List.nil_append] at hO1
    refine ⟨A', c', rfl, hO1, ?_⟩
    exact ((Below.refl _ _).alloc (Nat.le_refl _) _).grown hg1 (by simp) (fun k hk => by simp [blk] at hk; omega)
theorem clone_n (A : Option Addr) (l : List UInt8) (n c : Nat) (w : World) (hl : l.length = n) (ha : Rd w A (bvs l)) (hn : n ≤ 140737488351300) :
    Calls Try.prog 52 #[.slice A n c] w fun e w' => ∃ A' c', e = .returned (.slice A' n c') ∧ Own w' w.heap.size 5 1 A' n c' (bvs l) ∧ Below w.heap.size w w' := by
  subst hl
  exact clone_any A l c w ha hn
end Go.Proofs.Ytianombjgdmbeaa
