import Derived.Test.YtogiabligehfaaaPacked
namespace Go.Proofs.Ytogiabligehfaaa
set_option linter.unusedSimpArgs false
set_option linter.unusedVariables false
open Go.RowKit

set_option maxHeartbeats 3200000 in
set_option maxRecDepth 100000 in
theorem packed_range (h : Hd) (st : Int) (A : Option Addr) (n c : Nat) (w : World) (hb : ¬ hdOk h st) :
    Calls Try.prog 23 #[hv h, .slice A n c, .int .i64 st] w fun e w' => BytesRes w w' ([], 2) e := by
  obtain ⟨cr, ch, ma, ow, fi⟩ := h
  unfold hdOk at hb
  simp only at hb
  unfold hv
  go_enter Try.func23, Try.ntmps23
  go_wp2_with fail
  all_goals go_ret2
  all_goals exact BytesRes.none_ (by repeat (first | with_reducible exact Below.refl _ _ | with_reducible assumption | with_reducible refine below_drewN ?_ _ | with_reducible refine Below.drew ?_ | with_reducible refine Below.alloc ?_ ?_ _ | with_reducible refine Below.setCell ?_ ?_ _ | with_reducible exact Nat.le_refl _ | (simp; omega) | (simp; done)))

set_option maxHeartbeats 3200000 in
set_option maxRecDepth 100000 in
theorem packed_sized (h : Hd) (st : Int) (A : Option Addr) (n c : Nat) (w : World) (ho : hdOk h st) (hs : n + 12 < 13 ∨ 2048 < n + 12) (hn : n ≤ 140737488351300) :
    Calls Try.prog 23 #[hv h, .slice A n c, .int .i64 st] w fun e w' => BytesRes w w' ([], 1) e := by
  obtain ⟨cr, ch, ma, ow, fi⟩ := h
  obtain ⟨⟨a0, a1⟩, ⟨b0, b1⟩, ⟨c0, c1⟩, ⟨d0, d1⟩, ⟨e0, e1⟩, ⟨f0, f1⟩⟩ := ho
  simp only at a0 a1 b0 b1 c0 c1 d0 d1 e0 e1
  unfold hv
  go_enter Try.func23, Try.ntmps23
  rcases hs with hs | hs
  all_goals go_wp2_with fail
  all_goals (try (exfalso; omega))
  all_goals go_ret2
  all_goals exact BytesRes.none_ (by repeat (first | with_reducible exact Below.refl _ _ | with_reducible assumption | with_reducible refine below_drewN ?_ _ | with_reducible refine Below.drew ?_ | with_reducible refine Below.alloc ?_ ?_ _ | with_reducible refine Below.setCell ?_ ?_ _ | with_reducible exact Nat.le_refl _ | (simp; omega) | (simp; done)))

theorem packed_any (h : Hd) (st : Int) (A : Option Addr) (l : List UInt8) (n c : Nat) (w : World) (hl : l.length = n) (ha : Rd w A (bvs l)) (hn : n ≤ 140737488351300) :
    Calls Try.prog 23 #[hv h, .slice A n c, .int .i64 st] w fun e w' => BytesRes w w' (packed h l st) e := by
  subst hl
  by_cases ho : hdOk h st
  · by_cases hs : l.length + 12 < 13 ∨ 2048 < l.length + 12
    · rw [packed_size ho hs]
      exact packed_sized h st A _ c w ho hs hn
    · rw [packed_ok ho hs]
      exact packed_good h st A l c w ho hs ha
  · rw [packed_rng l ho]
    exact packed_range h st A _ c w ho
end Go.Proofs.Ytogiabligehfaaa
