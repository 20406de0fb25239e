/-
  Bytes and ints at a place; single cells that are appended. Two arrays of two ints are compared.
-/
import Derived.Test.YtianombjgdmbeaaMDeliverGives3
import Derived.Test.YtianombjgdmbeaaMDeliverGives2
import Derived.Test.YtianombjgdmbeaaMDeliverGives5
import Derived.ChangeKeysEq
namespace Go.Proofs.Ytianombjgdmbeaa
set_option linter.unusedSimpArgs false
set_option linter.unusedVariables false
open Go.RowKit

theorem i64info : (Try.prog.info? 3).map (fun i => (i.zero, i.size, i.bytes)) = some (some (.int .i64 0), 1, 8) := by kernel_rfl

theorem at_get {l : List UInt8} {k : Nat} (h : k < l.length) : l[k] = l.getD k 0 := by simp [List.getD, List.getElem?_eq_getElem h]
theorem Rd.byteD {w : World} {A : Option Addr} {l : List UInt8} {k : Nat} (h : Rd w A (bvs l)) (hk : k < l.length) : ∃ b off, A = some ⟨b, off, none⟩ ∧ w.cell? ⟨b, off + k, none⟩ = some (.int .u8 ((l.getD k 0).toNat : Int)) := by
  rw [← at_get hk]
  exact h.byte hk
theorem ivs_snoc (l : List Int) (k : Nat) : ivs l ++ [.int .i64 (k : Int)] = ivs (l ++ [(k : Int)]) := by simp [ivs, iv]
theorem Rd_one (W : World) (u : Value) (t : TypeId) : Rd (W.alloc (.cells #[u] t)) (some ⟨W.heap.size, 0, none⟩) [u] := Rd_lit W [u] t
theorem one_int (k : Int) : ∀ u ∈ [Value.int .i64 k], u.oneCell' = true := by
  intro u hu
  simp at hu
  subst hu
  rfl
theorem one_byte (k : Int) : ∀ u ∈ [Value.int .u8 k], u.oneCell' = true := by
  intro u hu
  simp at hu
  subst hu
  rfl

theorem Rd.byteE {w : World} {b off : Nat} {l : List UInt8} {k : Nat} (h : Rd w (some ⟨b, off, none⟩) (bvs l)) (hk : k < l.length) : w.cell? ⟨b, off + k, none⟩ = some (.int .u8 ((l.getD k 0).toNat : Int)) := by
  rw [← at_get hk]
  exact h.cell (bvs_get hk)
theorem bvs_snoc (l : List UInt8) (x : UInt8) : bvs l ++ [.int .u8 (x.toNat : Int)] = bvs (l ++ [x]) := by simp [bvs, bv]

end Go.Proofs.Ytianombjgdmbeaa
namespace Go.Proofs.Ytianombjgdmbeaa
set_option linter.unusedSimpArgs false
set_option linter.unusedVariables false
open Go.RowKit

set_option maxRecDepth 1000000 in
theorem eq_span (a b c d : Int) (w : World) : (Op.equalIn 10000 108 (.agg #[.int .i64 a, .int .i64 b]) (.agg #[.int .i64 c, .int .i64 d])).run Try.prog w = .ok (decide (a = c) && decide (b = d)) w := by
  obtain ⟨i0, hi0, hz0, hz1, hz2⟩ := info_parts i64info
  have h := run_equalIn_array (P := Try.prog) (w := w) 9999 #[.int .i64 a, .int .i64 b] #[.int .i64 c, .int .i64 d] Try.underlying108 hi0
  rw [show (10000 : Nat) = 9999 + 1 from rfl, h]
  have hc : Try.prog.cellsOf 3 = 1 := by kernel_rfl
  rw [hc]
  have hE := fun (x y : Int) (w : World) => run_equalIn_int (P := Try.prog) (w := w) 9998 3 .i64 .i64 x y Try.underlying3
  simp [Op.eqItems, List.range, List.range.loop, part, hE]
  by_cases h1 : a = c <;> by_cases h2 : b = d <;> simp [h1, h2]
end Go.Proofs.Ytianombjgdmbeaa
