/-
  sameSender of two that are the same.
-/
import Derived.Test.YtppjafhlbphibaaSndP
import Derived.RegionTactic
import Derived.Deep.DeepCutAuto
import Derived.BigQuiet
import Derived.Deep.QuietTactic
import Derived.Deep.RegionHeld3
namespace Go.Proofs.Ytppjafhlbphibaa
set_option linter.unusedSimpArgs false
set_option linter.unusedVariables false
open Go.RowKit

theorem boxes2d' (W : World) (a b : Array Value) (s t : TypeId) : Blk ((W.alloc (.cells a s)).alloc (.cells b t)).drew W.heap.size s a ∧ Blk ((W.alloc (.cells a s)).alloc (.cells b t)).drew (W.heap.size + 1) t b ∧ Below W.heap.size W ((W.alloc (.cells a s)).alloc (.cells b t)).drew := by
  refine ⟨((Blk.new _ _ _).alloc _).drew, ?_, ((((Below.refl _ _).alloc (Nat.le_refl _) _).alloc (by simp) _).drew)⟩
  have := (Blk.new (W.alloc (.cells a s)) t b).drew
  simpa using this
def sndv (a b c d : Int) (A : Option Addr) (n m : Nat) : Value := .agg #[.int .i64 a, .int .i64 b, .int .i64 c, .int .i64 d, .slice A n m]
set_option maxHeartbeats 3200000 in
set_option maxRecDepth 100000 in
theorem sameSender_yes (a b c d : Int) (A B : Option Addr) (qs : List Que) (n m m' : Nat) (w : World) (hn : qs.length = n) (hz : n ≤ 140737488351300) (hp : ∀ q ∈ qs, q.packets.length ≤ 140737488351300) (ha : RdQueues w A qs) (hb : RdQueues w B qs) :
    Calls Try.prog 11 #[sndv a b c d A n m, sndv a b c d B n m'] w fun e w' => e = .returned (.bool true) ∧ Below w.heap.size w w' := by
  have HN := Lib.hid hn
  clear hn
  unfold sndv
  go_enter Try.func11, Try.ntmps11
  go_wp2_with fail
  go_loopw [5] (fun i wr => ∃ k : Nat, k ≤ n ∧ i = .int .i64 k ∧ Blk wr w.heap.size 24 #[.int .i64 a, .int .i64 b, .int .i64 c, .int .i64 d, .slice A n m] ∧ Blk wr (w.heap.size + 1) 24 #[.int .i64 a, .int .i64 b, .int .i64 c, .int .i64 d, .slice B n m'] ∧ Below w.heap.size w wr) (fun i _ => n - (intOf i).toNat)
  case atStart => exact ⟨0, by omega, by simp, (Blk.new w _ _).alloc _, by have := Blk.new (w.alloc (.cells #[.int .i64 a, .int .i64 b, .int .i64 c, .int .i64 d, .slice A n m] 24)) 24 #[.int .i64 a, .int .i64 b, .int .i64 c, .int .i64 d, .slice B n m']; simpa using this, (by repeat (first | with_reducible exact Below.refl _ _ | with_reducible assumption | with_reducible refine below_drewN ?_ _ | with_reducible refine Below.drew ?_ | with_reducible refine Below.alloc ?_ ?_ _ | with_reducible refine Below.setCell ?_ ?_ _ | with_reducible exact Nat.le_refl _ | (simp; omega) | (simp; done)))⟩
  case round =>
    obtain ⟨k, hk, rfl, hA, hB, hw⟩ := hrel
    have a4 := hA.cell' (i := 4) rfl
    have b4 := hB.cell' (i := 4) rfl
    have lA := hA.lt
    have lB := hB.lt
    by_cases h5 : k < n
    · have h5i : (k : Int) < (n : Int) := by omega
      have i0 : (0 : Int) ≤ (k : Int) := by omega
      obtain ⟨q, hq⟩ : ∃ q, qs[k]? = some q := ⟨_, List.getElem?_eq_getElem (by rw [HN.out]; exact h5)⟩
      obtain ⟨b1, o1, P1, c1, rfl, x0, x1, x2, hr1⟩ := (ha.below hw) k _ hq
      obtain ⟨b2, o2, P2, c2, rfl, y0, y1, y2, hr2⟩ := (hb.below hw) k _ hq
      have hpl := hp _ (List.mem_of_getElem? hq)
      clear hq
      go_upto_region 6 with fail
      go_cut [6, 7] (fun s6 s7 wx => ∃ (g1 g2 : Nat) (W : World), W = wx ∧ s6 = .pointer (some ⟨g1, 0, none⟩) ∧ s7 = .pointer (some ⟨g2, 0, none⟩) ∧ Blk W g1 64 #[.int .i64 q.own, .slice P1 q.packets.length c1, .int .i64 q.gone] ∧ Blk W g2 64 #[.int .i64 q.own, .slice P2 q.packets.length c2, .int .i64 q.gone] ∧ Below wr.heap.size wr W)
      case first =>
        go_region_held3 (fun w' => w'.cell? ⟨w.heap.size, 4, none⟩ = some (.slice (some ⟨b1, o1, none⟩) n m) ∧ w'.cell? ⟨w.heap.size + 1, 4, none⟩ = some (.slice (some ⟨b2, o2, none⟩) n m') ∧ w'.cell? ⟨b1, o1 + k * 3, none⟩ = some (.int .i64 q.own) ∧ w'.cell? ⟨b1, o1 + k * 3 + 1, none⟩ = some (.slice P1 q.packets.length c1) ∧ w'.cell? ⟨b1, o1 + k * 3 + 2, none⟩ = some (.int .i64 q.gone) ∧ w'.cell? ⟨b2, o2 + k * 3, none⟩ = some (.int .i64 q.own) ∧ w'.cell? ⟨b2, o2 + k * 3 + 1, none⟩ = some (.slice P2 q.packets.length c2) ∧ w'.cell? ⟨b2, o2 + k * 3 + 2, none⟩ = some (.int .i64 q.gone)) (go_keep) (first | fail)
        all_goals go_wp2_with fail
        all_goals go_meet
        all_goals first
          | exact ⟨_, _, _, rfl, rfl, rfl, (boxes2d' _ _ _ _ _).1, (boxes2d' _ _ _ _ _).2.1, (boxes2d' _ _ _ _ _).2.2⟩
          | exact ⟨_, _, _, rfl, rfl, rfl, (boxes2d' _ _ _ _ _).2.1, (boxes2d' _ _ _ _ _).1, (boxes2d' _ _ _ _ _).2.2⟩
      case rest =>
        obtain ⟨g1, g2, W, rfl, rfl, rfl, hG1, hG2, hb3⟩ := hcut
        clear x0 x1 x2 y0 y1 y2
        have p0 := hG1.cell' (i := 0) rfl
        have p1 := hG1.cell' (i := 1) rfl
        have p2 := hG1.cell' (i := 2) rfl
        have q0 := hG2.cell' (i := 0) rfl
        have q1 := hG2.cell' (i := 1) rfl
        have q2 := hG2.cell' (i := 2) rfl
        have zw := hw.size
        have hw3 := nextB hw hw.size hb3
        have hA3 := hA.step hb3
        have hB3 := hB.step hb3
        have hS := Lib.hid (sameRows_yes P1 P2 q.packets _ _ c1 c2 W rfl rfl hpl (hr1.below hb3) (hr2.below hb3))
        clear hr1 hr2 hp ha hb hpl
        go_wp2_with (go_at_call 30; refine hS.out.mono ?_; rintro e w' ⟨rfl, nq, rfl⟩)
        go_roundw
        case rel => exact ⟨k + 1, by omega, by go_num, hA3.drewN _, hB3.drewN _, below_drewN hw3 _⟩
        case measure => simp [intOf] <;> omega
    · go_wp2_with fail
      go_ret
      exact ⟨rfl, hw⟩
end Go.Proofs.Ytppjafhlbphibaa
