/-
  The bytes of any good note, by the document.
-/
import Derived.Test.YtianombjgdmbeaaNoteR5
import Derived.Test.YtianombjgdmbeaaNoteZ
import Derived.Test.YtianombjgdmbeaaNoteX
import Derived.Test.YtianombjgdmbeaaNoteR1
import Derived.Test.YtianombjgdmbeaaNoteR2
import Derived.Test.YtianombjgdmbeaaNoteR3
import Derived.Test.YtianombjgdmbeaaNoteR4
import Derived.Test.YtianombjgdmbeaaNoteR5
namespace Go.Proofs.Ytianombjgdmbeaa
set_option linter.unusedSimpArgs false
set_option linter.unusedVariables false
open Go.RowKit

theorem rbytes_any (n : Nt) (D : Option Addr) (dn dc : Nat) (G : Option Addr) (gn gc : Nat) (w : World) (hd : n.data.length = dn) (hg : n.gaps.length = gn) (hG : Rd w G (gps n.gaps)) (hD : Rd w D (bvs n.data)) (hdn : dn ≤ 140737488351232) (hgn : gn ≤ 8796093022200) (hno : noteOk n = true) :
    Calls Try.prog 10 #[ntv n D dn dc G gn gc] w fun e w' => ∃ A c, e = .returned (.tuple #[.slice A (noteB n).length c, .int .i64 0]) ∧ Own w' w.heap.size 5 1 A (noteB n).length c (bvs (noteB n)) ∧ Below w.heap.size w w' := by
  have hk := note_rng hno
  obtain ⟨kind, id, name, size, sum, at_, data, gaps, of_, code⟩ := n
  simp only at hk hd hg hG hD
  rcases hk with rfl | rfl | rfl | rfl | rfl | rfl
  · have e : noteB (⟨1, id, name, size, sum, at_, data, gaps, of_, code⟩ : Nt) = hdB 1 id ++ (be4 size ++ sbs name) := by simp [noteB]
    have hl : (hdB 1 id ++ (be4 size ++ sbs name)).length = 7 + name.size := by rw [List.length_append, List.length_append, sbs_len]; show 3 + (4 + _) = _; omega
    rw [e, hl]
    have := rbytes_1 id name size sum at_ data gaps of_ code D dn dc G gn gc w hd hg hG hD hdn hgn hno
    rw [List.append_assoc] at this
    exact this
  · have e : noteB (⟨2, id, name, size, sum, at_, data, gaps, of_, code⟩ : Nt) = hdB 2 id ++ (be4 at_ ++ data) := by simp [noteB]
    have hl : (hdB 2 id ++ (be4 at_ ++ data)).length = 7 + dn := by rw [List.length_append, List.length_append, hd]; show 3 + (4 + _) = _; omega
    rw [e, hl]
    have := rbytes_2 id name size sum at_ data gaps of_ code D dn dc G gn gc w hd hg hG hD hdn hgn hno
    rw [List.append_assoc] at this
    exact this
  · have e : noteB (⟨3, id, name, size, sum, at_, data, gaps, of_, code⟩ : Nt) = hdB 3 id ++ (be4 size ++ be4 sum) := by simp [noteB]
    have hl : (hdB 3 id ++ (be4 size ++ be4 sum)).length = 11 := by rfl
    rw [e, hl]
    have := rbytes_3 id name size sum at_ data gaps of_ code D dn dc G gn gc w hd hg hG hD hdn hgn hno
    rw [List.append_assoc] at this
    exact this
  · have e : noteB (⟨4, id, name, size, sum, at_, data, gaps, of_, code⟩ : Nt) = hdB 4 id ++ gaps.flatMap gapB := by simp [noteB]
    have hl : (hdB 4 id ++ gaps.flatMap gapB).length = 3 + 8 * gn := by rw [List.length_append, gapB_len, hg]; rfl
    rw [e, hl]
    have := rbytes_4 id name size sum at_ data gaps of_ code D dn dc G gn gc w hd hg hG hD hdn hgn hno
    exact this
  · have e : noteB (⟨5, id, name, size, sum, at_, data, gaps, of_, code⟩ : Nt) = hdB 5 id ++ [bOf code] := by simp [noteB]
    have hl : (hdB 5 id ++ [bOf code]).length = 4 := by rfl
    rw [e, hl]
    have := rbytes_5 id name size sum at_ data gaps of_ code D dn dc G gn gc w hd hg hG hdn hgn hno
    exact this
  · have e : noteB (⟨6, id, name, size, sum, at_, data, gaps, of_, code⟩ : Nt) = hdB 6 id ++ [bOf of_] := by simp [noteB]
    have hl : (hdB 6 id ++ [bOf of_]).length = 4 := by rfl
    rw [e, hl]
    have := rbytes_6 id name size sum at_ data gaps of_ code D dn dc G gn gc w hd hg hG hdn hgn hno
    exact this
end Go.Proofs.Ytianombjgdmbeaa
