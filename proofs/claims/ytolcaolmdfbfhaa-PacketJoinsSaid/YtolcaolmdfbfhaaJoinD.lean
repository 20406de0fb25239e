/-
  What a joiner does: drop, add, take.
-/
import Derived.Test.YtolcaolmdfbfhaaJoinR
import Derived.Test.YtolcaolmdfbfhaaConcat
import Derived.Deep.RegionHeld3
namespace Go.Proofs.Ytolcaolmdfbfhaa
set_option linter.unusedSimpArgs false
set_option linter.unusedVariables false
open Go.RowKit

theorem grown_set {a w : World} {g i : Nat} (h : a.grownBy w (some g)) (u : Value) : a.grownBy (w.setCell ⟨g, i, none⟩ u) (some g) := grown_setCell (p := ⟨g, i, none⟩) h (.inl rfl) u

set_option maxHeartbeats 1600000 in
set_option maxRecDepth 100000 in
theorem drop_any (ap nx : Int) (o : Bool) (U : Value) (s : Bool) (g : Nat) (w : World) (hK : Blk w g 142 #[.int .i64 ap, .int .i64 nx, .bool o, U, .bool s]) :
    Calls Try.prog 101 #[.pointer (some ⟨g, 0, none⟩)] w fun e w' => e = .returned (.tuple #[]) ∧ Blk w' g 142 #[.int .i64 ap, .int .i64 nx, .bool false, .slice none 0 0, .bool (s || o)] ∧ w.grownBy w' (some g) := by
  obtain ⟨k0, k1, k2, k3, k4, kf⟩ := hK.five
  cases s
  · cases o
    · go_enter Try.func101, Try.ntmps101
      go_wp2
      go_end0
      exact ⟨rfl, ((hK.set_ 4 _).set_ 2 _).set_ 3 _, grown_set (grown_set (grown_set (World.grownBy.refl _ _) _) _) _⟩
    · go_enter Try.func101, Try.ntmps101
      go_wp2
      go_end0
      exact ⟨rfl, ((hK.set_ 4 _).set_ 2 _).set_ 3 _, grown_set (grown_set (grown_set (World.grownBy.refl _ _) _) _) _⟩
  · go_enter Try.func101, Try.ntmps101
    go_wp2
    go_end0
    exact ⟨rfl, ((hK.set_ 4 _).set_ 2 _).set_ 3 _, grown_set (grown_set (grown_set (World.grownBy.refl _ _) _) _) _⟩

set_option maxHeartbeats 1600000 in
set_option maxRecDepth 100000 in
theorem take_any (ap nx : Int) (o : Bool) (A : Option Addr) (n c : Nat) (s : Bool) (g : Nat) (w : World) (hK : Blk w g 142 #[.int .i64 ap, .int .i64 nx, .bool o, .slice A n c, .bool s]) :
    Calls Try.prog 103 #[.pointer (some ⟨g, 0, none⟩)] w fun e w' => e = .returned (.slice A n c) ∧ Blk w' g 142 #[.int .i64 ap, .int .i64 nx, .bool false, .slice none 0 0, .bool s] ∧ w.grownBy w' (some g) := by
  obtain ⟨k0, k1, k2, k3, k4, kf⟩ := hK.five
  go_enter Try.func103, Try.ntmps103
  go_wp2
  go_ret
  exact ⟨rfl, (hK.set_ 2 _).set_ 3 _, grown_set (grown_set (World.grownBy.refl _ _) _) _⟩

theorem grownBy_sub {w w' : World} {g : Nat} (h : Below w.heap.size w w') : w.grownBy w' (some g) := ⟨h.os, h.tape, h.output, h.size, fun i hi _ => h.block i hi⟩

set_option maxHeartbeats 1600000 in
theorem concat_two (l D : List UInt8) (n m : Nat) (W : World) (A B : Option Addr) (c d : Nat) (hl : l.length = n) (hD : D.length = m) (hn : n ≤ 1048576) (hm : m ≤ 65536) (ha : Rd W A (bvs l)) (hb : Rd W B (bvs D)) :
    Calls Try.prog 68 #[.slice (some ⟨W.heap.size, 0, none⟩) 2 2] (W.alloc (.cells #[.slice A n c, .slice B m d] 22)) fun e w' =>
      ∃ A' c', e = .returned (.slice A' (n + m) c') ∧ Own w' W.heap.size 5 1 A' (n + m) c' (bvs (l ++ D)) ∧ Below W.heap.size W w' := by
  have hR : Rd (W.alloc (.cells #[.slice A n c, .slice B m d] 22)) (some ⟨W.heap.size, 0, none⟩) (([⟨A, l, c⟩, ⟨B, D, d⟩] : List Pc).map Pc.v) := by
    have := Rd_lit W [.slice A n c, .slice B m d] 22
    simpa [Pc.v, hl, hD] using this
  have hJ : joined [⟨A, l, c⟩, ⟨B, D, d⟩] = l ++ D := by simp [joined]
  have hN : (l ++ D).length = n + m := by rw [List.length_append, hl, hD]
  refine (concat_any _ _ 2 2 _ rfl (by decide) hR (fun p hp => ?_) (by rw [hJ, hN]; omega)).mono ?_
  · simp at hp
    rcases hp with rfl | rfl
    · exact ha.alloc _
    · exact hb.alloc _
  rw [hJ]
  rintro e w' ⟨A', c', rfl, hO, hB⟩
  rw [hN] at hO ⊢
  exact ⟨A', c', rfl, hO.mono (by simp), ((Below.refl _ _).alloc (Nat.le_refl _) _).trans (hB.mono (by simp))⟩

set_option maxHeartbeats 3200000 in
set_option maxRecDepth 100000 in
theorem add_fit (ap nx : Int) (o : Bool) (l : List UInt8) (A : Option Addr) (n c : Nat) (s : Bool) (D : List UInt8) (B : Option Addr) (m d : Nat) (g : Nat) (w : World) (hl : l.length = n) (hD : D.length = m) (hn : n ≤ 1048576) (hm : m ≤ 65536) (ha : Rd w A (bvs l)) (hb : Rd w B (bvs D))
    (hK : Blk w g 142 #[.int .i64 ap, .int .i64 nx, .bool o, .slice A n c, .bool s]) (hs : n + m ≤ 1048576) :
    Calls Try.prog 102 #[.pointer (some ⟨g, 0, none⟩), .slice B m d] w fun e w' => e = .returned (.tuple #[]) ∧ w.grownBy w' (some g) ∧ ∃ A' c', Blk w' g 142 #[.int .i64 ap, .int .i64 nx, .bool true, .slice A' (n + m) c', .bool s] ∧ Own w' w.heap.size 5 1 A' (n + m) c' (bvs (l ++ D)) := by
  have hg := hK.lt
  obtain ⟨k0, k1, k2, k3, k4, kf⟩ := hK.five
  have hC := Lib.hid (concat_two l D n m w A B c d hl hD hn hm ha hb)
  have zd : decide ((1048576 : Int) < (n : Int) + (m : Int)) = false := by simp; omega
  clear hl hD
  go_enter Try.func102, Try.ntmps102
  go_wp2_with fail
  refine hC.out.mono ?_
  rintro e w1 ⟨A', c', rfl, hO, hb1⟩
  replace hK := hK.below' hb1
  have hg1 : w.grownBy w1 (some g) := grownBy_sub hb1
  have hlt := hO.lt
  clear k0 k1 k2 k3 k4 kf hb1
  obtain ⟨k0, k1, k2, k3, k4, kf⟩ := hK.five
  go_wp2
  go_end0
  refine ⟨rfl, grown_set (grown_set hg1 _) _, A', c', (hK.set_ 3 _).set_ 2 _, (hO.setFar (fun e => ?_) _).setFar (fun e => ?_) _⟩ <;> (have := (hlt _ e).1; simp at this; omega)

set_option maxHeartbeats 3200000 in
set_option maxRecDepth 100000 in
theorem add_long (ap nx : Int) (o : Bool) (l : List UInt8) (A : Option Addr) (n c : Nat) (s : Bool) (D : List UInt8) (B : Option Addr) (m d : Nat) (g : Nat) (w : World) (hl : l.length = n) (hD : D.length = m) (hn : n ≤ 1048576) (hm : m ≤ 65536) (ha : Rd w A (bvs l)) (hb : Rd w B (bvs D))
    (hK : Blk w g 142 #[.int .i64 ap, .int .i64 nx, .bool o, .slice A n c, .bool s]) (hs : 1048576 < n + m) :
    Calls Try.prog 102 #[.pointer (some ⟨g, 0, none⟩), .slice B m d] w fun e w' => e = .returned (.tuple #[]) ∧ w.grownBy w' (some g) ∧ Blk w' g 142 #[.int .i64 ap, .int .i64 nx, .bool false, .slice none 0 0, .bool true] := by
  have hg := hK.lt
  obtain ⟨k0, k1, k2, k3, k4, kf⟩ := hK.five
  have hC := Lib.hid (concat_two l D n m w A B c d hl hD hn hm ha hb)
  have zd : decide ((1048576 : Int) < (n : Int) + (m : Int)) = true := by simp; omega
  clear hl hD
  go_enter Try.func102, Try.ntmps102
  go_wp2_with fail
  refine hC.out.mono ?_
  rintro e w1 ⟨A', c', rfl, hO, hb1⟩
  replace hK := hK.below' hb1
  have hg1 : w.grownBy w1 (some g) := grownBy_sub hb1
  have hlt := hO.lt
  clear k0 k1 k2 k3 k4 kf hb1
  obtain ⟨k0, k1, k2, k3, k4, kf⟩ := hK.five
  go_wp2_with fail
  refine (drop_any ap nx true (.slice A' (n + m) c') s g _ ((hK.set_ 3 _).set_ 2 _)).mono ?_
  rintro e w2 ⟨rfl, hK2, hg2⟩
  rw [Bool.or_true] at hK2
  go_wp2
  go_end0
  exact ⟨rfl, grown_trans (grown_set (grown_set hg1 _) _) hg2 (.inl rfl), hK2⟩

end Go.Proofs.Ytolcaolmdfbfhaa
