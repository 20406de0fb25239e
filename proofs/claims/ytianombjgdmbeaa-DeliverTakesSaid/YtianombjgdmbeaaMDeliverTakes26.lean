/-
  A note that may not be has no bytes, by the document and by the program. A number's four bytes, by the document.
-/
import Derived.Test.YtianombjgdmbeaaMDeliverTakes25
import Derived.Test.YtianombjgdmbeaaMDeliverTakes10
namespace Go.Proofs.Ytianombjgdmbeaa
set_option linter.unusedSimpArgs false
set_option linter.unusedVariables false
open Go.RowKit

set_option maxHeartbeats 3200000 in
set_option maxRecDepth 100000 in
theorem rbytes_bad (n : Nt) (D : Option Addr) (dn dc : Nat) (G : Option Addr) (gn gc : Nat) (w : World) (hd : n.data.length = dn) (hg : n.gaps.length = gn) (hG : Rd w G (gps n.gaps)) (hdn : dn ≤ 140737488351232) (hgn : gn ≤ 8796093022200) (hno : noteOk n = false) :
    Calls Try.prog 10 #[ntv n D dn dc G gn gc] w fun e w' => e = .returned (.tuple #[.slice none 0 0, .int .i64 8]) ∧ Below w.heap.size w w' := by
  have CM := Lib.hid (fun (V : World) (hB : Below w.heap.size w V) => noteMay_any n D dn dc G gn gc V hd hg (hG.below hB) hdn hgn)
  simp only [hno] at CM
  clear hno hd hg hG
  obtain ⟨kind, id, name, size, sum, at_, data, gaps, of_, code⟩ := n
  unfold ntv at CM ⊢
  dsimp only at CM ⊢
  have hB : ∀ o, Below w.heap.size w (w.alloc o) := fun o => (Below.refl _ _).alloc (Nat.le_refl _) _
  go_enter Try.func10, Try.ntmps10
  go_wp2_with fail
  refine (CM.out _ (hB _)).mono ?_
  rintro e w1 ⟨rfl, hb⟩
  go_wp2_with fail
  refine bodyPost_ret (v := .tuple #[.slice none 0 0, .int .i64 8]) (by simp [results, Try.results10, go_sem]) rfl ?_
  exact ⟨rfl, (hB _).trans (hb.mono (hB _).size)⟩
set_option maxHeartbeats 3200000 in
set_option maxRecDepth 100000 in
theorem ebytes_bad (n : Nt) (D : Option Addr) (dn dc : Nat) (G : Option Addr) (gn gc : Nat) (w : World) (hd : n.data.length = dn) (hg : n.gaps.length = gn) (hG : Rd w G (gps n.gaps)) (hdn : dn ≤ 140737488351232) (hgn : gn ≤ 8796093022200) (hno : noteOk n = false) :
    Calls Try.prog 11 #[ntv n D dn dc G gn gc] w fun e w' => e = .returned (.tuple #[.slice none 0 0, .int .i64 8]) ∧ Below w.heap.size w w' := by
  have CM := Lib.hid (fun (V : World) (hB : Below w.heap.size w V) => may_any n D dn dc G gn gc V hd hg (hG.below hB))
  simp only [hno] at CM
  clear hno hd hg hG
  obtain ⟨kind, id, name, size, sum, at_, data, gaps, of_, code⟩ := n
  unfold ntv at CM ⊢
  dsimp only at CM ⊢
  have hB : ∀ o, Below w.heap.size w (w.alloc o) := fun o => (Below.refl _ _).alloc (Nat.le_refl _) _
  go_enter Try.func11, Try.ntmps11
  go_wp2_with fail
  refine (CM.out _ (hB _)).mono ?_
  rintro e w1 ⟨rfl, hb⟩
  go_wp2_with fail
  refine bodyPost_ret (v := .tuple #[.slice none 0 0, .int .i64 8]) (by simp [results, Try.results11, go_sem]) rfl ?_
  exact ⟨rfl, (hB _).trans (hb.mono (hB _).size)⟩
end Go.Proofs.Ytianombjgdmbeaa
namespace Go.Proofs.Ytianombjgdmbeaa
set_option linter.unusedSimpArgs false
set_option linter.unusedVariables false
open Go.RowKit

def be4 (n : Int) : List UInt8 := [bOf (n / 16777216), bOf (n / 65536), bOf (n / 256), bOf n]
theorem four_any (n : Int) (w : World) : Calls Try.prog 39 #[.int .i64 n] w fun e w' => e = .returned (.slice (some ⟨w.heap.size, 0, none⟩) 4 4) ∧ w' = w.alloc (.cells #[bv (bOf (n / 16777216)), bv (bOf (n / 65536)), bv (bOf (n / 256)), bv (bOf n)] 5) := by
  go_enter Try.func39, Try.ntmps39
  go_wp2
  go_ret
  rw [← bv_mod, ← bv_mod, ← bv_mod, ← bv_mod]
  exact ⟨rfl, rfl⟩
end Go.Proofs.Ytianombjgdmbeaa
