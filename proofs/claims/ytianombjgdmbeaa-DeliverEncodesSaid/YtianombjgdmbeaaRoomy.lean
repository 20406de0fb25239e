import Derived.Test.YtianombjgdmbeaaSame
namespace Go.Proofs.Ytianombjgdmbeaa
set_option linter.unusedSimpArgs false
set_option linter.unusedVariables false
open Go.RowKit

theorem RoomK.made {w' : World} {g : Nat} {l : List UInt8} (h : w'.heap[g]? = some (.cells (splice (List.replicate (l.length + 5) (.int .u8 0)) 0 (bvs l)).toArray 5 (0, 0))) : RoomK w' g l 0 := by
  refine ⟨_, h, ?_, fun j hj => ?_, fun j hj hj2 => by omega⟩
  · simp [splice, bvs]
  · have hb := bvs_get hj
    simp only [splice, List.take_zero, List.nil_append, List.getElem?_toArray]
    rw [List.getElem?_append_left (by simpa [bvs] using hj)]
    exact hb

set_option maxHeartbeats 400000 in
set_option maxRecDepth 100000 in
theorem roomy_any (A : Option Addr) (l : List UInt8) (c : Nat) (w : World) (ha : Rd w A (bvs l)) (hn : l.length ≤ 140737488351232) :
    Calls Try.prog 14 #[.slice A l.length c] w fun e w' => ∃ g, e = .returned (.slice (some ⟨g, 0, none⟩) l.length (l.length + 5)) ∧ w.heap.size ≤ g ∧ Room w' g l ∧ Below w.heap.size w w' := by
  have hmk := run_make_row' (P := Try.prog) 23 5 (.int .u8 0) 1 Try.underlying23 u8info rfl .i64 .i64 (l.length + 5) (by omega) (by omega)
  have ec : (((l.length + 5 : Nat)) : Int) = (l.length : Int) + 5 := by omega
  rw [ec] at hmk
  clear ec
  have hsz1 : (Try.prog.info? 5).map (·.size) = some 1 := by kernel_rfl
  go_enter Try.func14, Try.ntmps14
  go_wp2_with (with_reducible refine wpList_copy_splice rfl (.tmp 9) (.tmp 10) 23 23 rfl 5 Try.underlying23 hsz1 _ A _ _ l.length c rfl rfl w.heap.size 0 (List.replicate (l.length + 5) (.int .u8 0)) 5 ?h1 (bvs l) ?h2 ?h3 ?h4 (bvs_one l) w.heap.size w ?h5 (Nat.le_refl _) ?h6)
  case h1 =>
    rw [heap_alloc_new w _]
    congr 2
    apply Array.ext'
    rw [toList_madeCells_one]
  case h2 => simp [bvs, Nat.min_def]
  case h3 =>
    intro hpos
    have hl : 0 < l.length := by simpa [bvs] using hpos
    obtain ⟨b, off, e, _⟩ := ha.byte hl
    refine ⟨⟨b, off, none⟩, e, fun j v hv => ?_⟩
    subst e
    rw [Addr.add_lit]
    exact (ha.alloc _).cell hv
  case h4 => simp [bvs]
  case h5 => exact (Below.refl _ _).alloc (Nat.le_refl _) _
  case h6 =>
    intro w1 hg1 hb1
    have hR0 := RoomK.made hg1.out
    clear hg1 hmk hsz1 ha
    go_wp2_with fail
    go_loopw [4] (fun i wr => ∃ k : Nat, k ≤ 5 ∧ i = .int .i64 (l.length + k) ∧ RoomK wr w.heap.size l k ∧ Below w.heap.size w wr) (fun i _ => l.length + 5 - (intOf i).toNat)
    case atStart => exact ⟨0, by omega, by simp, hR0, hb1⟩
    case round =>
      obtain ⟨k, hk, rfl, hR, hb⟩ := hrel
      clear hR0 hb1
      by_cases h5 : k < 5
      · obtain ⟨u, hc⟩ := hR.cell (j := l.length + k) (by omega)
        have hf := hR.frozen (l.length + k)
        go_wp2
        go_roundw
        case rel => exact ⟨k + 1, by omega, by go_num, hR.set h5, hb.setCell (Nat.le_refl _) _⟩
        case measure => simp [intOf]; omega
      · obtain rfl : k = 5 := by omega
        go_wp2
        go_ret
        exact ⟨_, rfl, Nat.le_refl _, hR, hb⟩
end Go.Proofs.Ytianombjgdmbeaa
