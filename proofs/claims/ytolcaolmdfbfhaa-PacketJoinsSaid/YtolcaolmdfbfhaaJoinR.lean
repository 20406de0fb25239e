/-
  The document's Joins: what does not stand, and what is wrong.
-/
import Derived.Test.YtolcaolmdfbfhaaJoinS
import Derived.Test.YtolcaolmdfbfhaaPMay
import Derived.Test.YtolcaolmdfbfhaaRes
namespace Go.Proofs.Ytolcaolmdfbfhaa
set_option linter.unusedSimpArgs false
set_option linter.unusedVariables false
open Go.RowKit

/-- What comes of a joining: what is open and the unit in memory of their own. -/
def JRes (w w' : World) (r : Jn × List UInt8 × Bool × Int) (e : Ending) : Prop :=
  ∃ A c B d, e = .returned (.tuple #[jnv r.1 A c, .slice B r.2.1.length d, .bool r.2.2.1, .int .i64 r.2.2.2]) ∧ Own w' w.heap.size 5 1 A r.1.unit.length c (bvs r.1.unit) ∧ Own w' w.heap.size 5 1 B r.2.1.length d (bvs r.2.1) ∧ (∀ q, blk A = some q → blk B ≠ some q) ∧ Below w.heap.size w w'
theorem JRes.zero_ {w w' : World} {k : Int} (h : Below w.heap.size w w') : JRes w w' (.zero, [], false, k) (.returned (.tuple #[.agg #[.int .i64 0, .int .i64 0, .bool false, .slice none 0 0], .slice none 0 0, .bool false, .int .i64 k])) :=
  ⟨none, 0, none, 0, rfl, Own.none_ _ _ _ _, Own.none_ _ _ _ _, (fun q e => by simp [blk] at e), h⟩
/-- A packet's cells. -/
def pcells (p : Pkt) (B : Option Addr) (m d : Nat) : Array Value := #[.bool p.up, .bool p.second, .int .i64 p.apid, .int .i64 p.part, .int .i64 p.count, .slice B m d]

set_option maxHeartbeats 6400000 in
set_option maxRecDepth 100000 in
theorem rjoins_state (ap nx : Int) (op : Bool) (l : List UInt8) (A : Option Addr) (n c : Nat) (u s : Bool) (pa pp pc : Int) (B : Option Addr) (m d : Nat) (w : World) (hl : l.length = n) (h : ¬ jnOk ⟨ap, nx, op, l⟩) :
    Calls Try.prog 42 #[.agg #[.int .i64 ap, .int .i64 nx, .bool op, .slice A n c], .agg #[.bool u, .bool s, .int .i64 pa, .int .i64 pp, .int .i64 pc, .slice B m d]] w fun e w' => JRes w w' (.zero, [], false, 11) e := by
  have H : ¬ ((0 ≤ ap ∧ ap ≤ 2046) ∧ (-1 ≤ nx ∧ nx ≤ 16383) ∧ n ≤ 1048576 ∧ op = decide (0 < n) ∧ (op = true → nx ≠ -1)) := by subst hl; exact h
  clear h hl
  have hZ : Blk (((w.alloc (.cells #[.int .i64 ap, .int .i64 nx, .bool op, .slice A n c] 70)).alloc (.cells #[.bool u, .bool s, .int .i64 pa, .int .i64 pp, .int .i64 pc, .slice B m d] 34)).alloc (.cells #[.int .i64 0, .int .i64 0, .bool false, .slice none 0 0] 70)) (w.heap.size + 1 + 1) 70 #[.int .i64 0, .int .i64 0, .bool false, .slice none 0 0] := by
    have := Blk.new ((w.alloc (.cells #[.int .i64 ap, .int .i64 nx, .bool op, .slice A n c] 70)).alloc (.cells #[.bool u, .bool s, .int .i64 pa, .int .i64 pp, .int .i64 pc, .slice B m d] 34)) 70 #[.int .i64 0, .int .i64 0, .bool false, .slice none 0 0]
    simpa using this
  have hBz : Below w.heap.size w (((w.alloc (.cells #[.int .i64 ap, .int .i64 nx, .bool op, .slice A n c] 70)).alloc (.cells #[.bool u, .bool s, .int .i64 pa, .int .i64 pp, .int .i64 pc, .slice B m d] 34)).alloc (.cells #[.int .i64 0, .int .i64 0, .bool false, .slice none 0 0] 70)) := (((Below.refl _ _).alloc (Nat.le_refl _) _).alloc (by simp) _).alloc (by simp; omega) _
  obtain ⟨k0, k1, k2, k3, kf⟩ := hZ.four
  clear hZ
  by_cases g1 : ap < 0
  · have zg1 : decide (ap < 0) = true := by simp; omega
    clear H
    go_enter Try.func42, Try.ntmps42
    go_wp2
    refine bodyPost_ret (v := .tuple #[.agg #[.int .i64 0, .int .i64 0, .bool false, .slice none 0 0], .slice none 0 0, .bool false, .int .i64 11]) (by simp [results, Try.results42, go_sem, k0, k1, k2, k3]) rfl ?_
    exact JRes.zero_ hBz
  have zg1 : decide (ap < 0) = false := by simp; omega
  replace g1 : 0 ≤ ap := by omega
  by_cases g2 : 2047 ≤ ap
  · have zg2 : decide (2047 ≤ ap) = true := by simp; omega
    clear H
    go_enter Try.func42, Try.ntmps42
    go_wp2
    refine bodyPost_ret (v := .tuple #[.agg #[.int .i64 0, .int .i64 0, .bool false, .slice none 0 0], .slice none 0 0, .bool false, .int .i64 11]) (by simp [results, Try.results42, go_sem, k0, k1, k2, k3]) rfl ?_
    exact JRes.zero_ hBz
  have zg2 : decide (2047 ≤ ap) = false := by simp; omega
  replace g2 : ap ≤ 2046 := by omega
  by_cases g3 : nx < -1
  · have zg3 : decide (nx < -1) = true := by simp; omega
    clear H
    go_enter Try.func42, Try.ntmps42
    go_wp2
    refine bodyPost_ret (v := .tuple #[.agg #[.int .i64 0, .int .i64 0, .bool false, .slice none 0 0], .slice none 0 0, .bool false, .int .i64 11]) (by simp [results, Try.results42, go_sem, k0, k1, k2, k3]) rfl ?_
    exact JRes.zero_ hBz
  have zg3 : decide (nx < -1) = false := by simp; omega
  replace g3 : -1 ≤ nx := by omega
  by_cases g4 : 16383 < nx
  · have zg4 : decide (16383 < nx) = true := by simp; omega
    clear H
    go_enter Try.func42, Try.ntmps42
    go_wp2
    refine bodyPost_ret (v := .tuple #[.agg #[.int .i64 0, .int .i64 0, .bool false, .slice none 0 0], .slice none 0 0, .bool false, .int .i64 11]) (by simp [results, Try.results42, go_sem, k0, k1, k2, k3]) rfl ?_
    exact JRes.zero_ hBz
  have zg4 : decide (16383 < nx) = false := by simp; omega
  replace g4 : nx ≤ 16383 := by omega
  by_cases g5 : (1048576 : Int) < (n : Int)
  · have zg5 : decide ((1048576 : Int) < (n : Int)) = true := by simp; omega
    clear H
    go_enter Try.func42, Try.ntmps42
    go_wp2
    refine bodyPost_ret (v := .tuple #[.agg #[.int .i64 0, .int .i64 0, .bool false, .slice none 0 0], .slice none 0 0, .bool false, .int .i64 11]) (by simp [results, Try.results42, go_sem, k0, k1, k2, k3]) rfl ?_
    exact JRes.zero_ hBz
  have zg5 : decide ((1048576 : Int) < (n : Int)) = false := by simp; omega
  replace g5 : n ≤ 1048576 := by omega
  by_cases h0 : n = 0
  · have z0 : decide ((0 : Int) < (n : Int)) = false := by simp; omega
    have hop : op = true := by
      cases op
      · exact absurd ⟨⟨g1, g2⟩, ⟨g3, g4⟩, g5, by simp; omega, fun h => by cases h⟩ H
      · rfl
    subst hop
    subst h0
    clear H z0
    go_enter Try.func42, Try.ntmps42
    go_wp2
    refine bodyPost_ret (v := .tuple #[.agg #[.int .i64 0, .int .i64 0, .bool false, .slice none 0 0], .slice none 0 0, .bool false, .int .i64 11]) (by simp [results, Try.results42, go_sem, k0, k1, k2, k3]) rfl ?_
    exact JRes.zero_ hBz
  have hpos : 0 < n := by omega
  have z0 : decide (0 < n) = true := by simp; omega
  cases op
  · clear H
    go_enter Try.func42, Try.ntmps42
    go_wp2
    refine bodyPost_ret (v := .tuple #[.agg #[.int .i64 0, .int .i64 0, .bool false, .slice none 0 0], .slice none 0 0, .bool false, .int .i64 11]) (by simp [results, Try.results42, go_sem, k0, k1, k2, k3]) rfl ?_
    exact JRes.zero_ hBz
  · have hnx : nx = -1 := by
      rcases Int.lt_or_eq_of_le g3 with h | h
      · exact absurd ⟨⟨g1, g2⟩, ⟨g3, g4⟩, g5, by simp; omega, fun _ => by omega⟩ H
      · exact h.symm
    subst hnx
    clear H
    go_enter Try.func42, Try.ntmps42
    go_wp2
    refine bodyPost_ret (v := .tuple #[.agg #[.int .i64 0, .int .i64 0, .bool false, .slice none 0 0], .slice none 0 0, .bool false, .int .i64 11]) (by simp [results, Try.results42, go_sem, k0, k1, k2, k3]) rfl ?_
    exact JRes.zero_ hBz
end Go.Proofs.Ytolcaolmdfbfhaa
