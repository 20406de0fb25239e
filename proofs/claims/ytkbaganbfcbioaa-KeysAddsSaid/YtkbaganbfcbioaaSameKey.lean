/-
  sameKey of two keys that read the same.
-/
import Derived.Test.YtkbaganbfcbioaaKey
import Derived.Test.YtkbaganbfcbioaaSameInts
namespace Go.Proofs.Ytkbaganbfcbioaa
set_option linter.unusedSimpArgs false
set_option linter.unusedVariables false
open Go.RowKit

set_option maxHeartbeats 1600000 in
set_option maxRecDepth 100000 in
theorem sameKey_yes (x : Ky) (A B : Option Addr) (c d : Nat) (w : World) (hn : x.words.length ≤ 17592186044400) (ha : Rd w A (ivs x.words)) (hb : Rd w B (ivs x.words)) :
    Calls Try.prog 24 #[kyv x A c, kyv x B d] w fun e w' => e = .returned (.bool true) ∧ Below w.heap.size w w' := by
  obtain ⟨id, words, top, seen⟩ := x
  unfold kyv
  dsimp only at hn ha hb ⊢
  have HS := Lib.hid (fun (w : World) (ha : Rd w A (ivs words)) (hb : Rd w B (ivs words)) => sameInts_yes A B words words.length words.length c d w rfl rfl (by omega) ha hb)
  have haB : ∀ t1 cs1 t2 cs2, Rd ((w.alloc (.cells cs1 t1)).alloc (.cells cs2 t2)) A (ivs words) := fun t1 cs1 t2 cs2 => (ha.alloc _).alloc _
  have hbB : ∀ t1 cs1 t2 cs2, Rd ((w.alloc (.cells cs1 t1)).alloc (.cells cs2 t2)) B (ivs words) := fun t1 cs1 t2 cs2 => (hb.alloc _).alloc _
  have HB : ∀ t1 cs1 t2 cs2, Below w.heap.size w ((w.alloc (.cells cs1 t1)).alloc (.cells cs2 t2)) := fun t1 cs1 t2 cs2 => (by repeat (first | with_reducible exact Below.refl _ _ | with_reducible assumption | with_reducible refine below_drewN ?_ _ | with_reducible refine Below.drew ?_ | with_reducible refine Below.alloc ?_ ?_ _ | with_reducible refine Below.setCell ?_ ?_ _ | with_reducible exact Nat.le_refl _ | (simp; omega) | (simp; done)))
  generalize words.length = n at *
  clear ha hb
  go_enter Try.func24, Try.ntmps24
  go_wp2_with (go_at_call 19; (with_reducible refine (HS.out _ (haB _ _ _ _) (hbB _ _ _ _)).mono ?_); rintro e w1 ⟨rfl, nq, rfl⟩)
  go_ret
  exact ⟨rfl, below_drewN (HB _ _ _ _) _⟩
end Go.Proofs.Ytkbaganbfcbioaa
