/-
  The document's NoteMay, of any note.
-/
import Derived.Test.YtianombjgdmbeaaNoteM1
import Derived.Test.YtianombjgdmbeaaNoteM2
import Derived.Test.YtianombjgdmbeaaNoteM3
import Derived.Test.YtianombjgdmbeaaNoteM4
import Derived.Test.YtianombjgdmbeaaNoteM5
import Derived.Test.YtianombjgdmbeaaNoteM6
namespace Go.Proofs.Ytianombjgdmbeaa
set_option linter.unusedSimpArgs false
set_option linter.unusedVariables false
open Go.RowKit

theorem kind_in {k : Int} (h : rngOk k 1 6 = true) : k = 1 ∨ k = 2 ∨ k = 3 ∨ k = 4 ∨ k = 5 ∨ k = 6 := by
  unfold rngOk at h
  rw [decide_eq_true_iff] at h
  omega
theorem noteMay_any (n : Nt) (D : Option Addr) (dn dc : Nat) (G : Option Addr) (gn gc : Nat) (w : World) (hd : n.data.length = dn) (hg : n.gaps.length = gn) (hG : Rd w G (gps n.gaps)) (hdn : dn ≤ 140737488351232) (hgn : gn ≤ 8796093022200) :
    Calls Try.prog 38 #[ntv n D dn dc G gn gc] w fun e w' => e = .returned (.bool (noteOk n)) ∧ Below w.heap.size w w' := by
  cases h1 : rngOk n.kind 1 6
  · exact noteMay_bad n D dn dc G gn gc w (.inl h1)
  cases h2 : rngOk n.id 0 65535
  · exact noteMay_bad n D dn dc G gn gc w (.inr h2)
  obtain ⟨kind, id, name, size, sum, at_, data, gaps, of_, code⟩ := n
  dsimp only at h1 h2 hd hg hG
  rcases kind_in h1 with rfl | rfl | rfl | rfl | rfl | rfl
  · exact noteMay_1 id name size sum at_ data gaps of_ code D dn dc G gn gc w h2 hd hg hG hdn hgn
  · exact noteMay_2 id name size sum at_ data gaps of_ code D dn dc G gn gc w h2 hd hg hG hdn hgn
  · exact noteMay_3 id name size sum at_ data gaps of_ code D dn dc G gn gc w h2 hd hg hG hdn hgn
  · exact noteMay_4 id name size sum at_ data gaps of_ code D dn dc G gn gc w h2 hd hg hG hdn hgn
  · exact noteMay_5 id name size sum at_ data gaps of_ code D dn dc G gn gc w h2 hd hg hG hdn hgn
  · exact noteMay_6 id name size sum at_ data gaps of_ code D dn dc G gn gc w h2 hd hg hG hdn hgn
end Go.Proofs.Ytianombjgdmbeaa
