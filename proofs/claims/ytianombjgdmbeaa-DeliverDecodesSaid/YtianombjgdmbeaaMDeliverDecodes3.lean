/-
  One name for what stays as it was behind a call: .step; behind a call that writes to one row: .over. Bytes and ints at a place; single cells that are appended.
-/
import Derived.Test.YtianombjgdmbeaaMDeliverDecodes2
namespace Go.Proofs.Ytianombjgdmbeaa
set_option linter.unusedSimpArgs false
set_option linter.unusedVariables false
open Go.RowKit
section
variable {w w' : World} {A : Option Addr} {xs : List Value} {g : Nat} {l : List UInt8} {base : Nat} {e : TypeId} {size n c : Nat} {t : TypeId} {cs : Array Value} {row : Option Nat}
theorem Rd.step (h : Rd w A xs) (hb : Below w.heap.size w w') : Rd w' A xs := h.below hb
theorem Own.step (h : Own w base e size A n c xs) (hb : Below w.heap.size w w') : Own w' base e size A n c xs := h.below hb
theorem Room.step (h : Room w g l) (hb : Below w.heap.size w w') : Room w' g l := Room.below h hb
theorem Blk.step (h : Blk w g t cs) (hb : Below w.heap.size w w') : Blk w' g t cs := h.below' hb
theorem nextB {N : Nat} {w0 : World} (h : Below N w0 w) (hN : N ≤ w.heap.size) (k : Below w.heap.size w w') : Below N w0 w' := h.trans (k.mono hN)
theorem Rd.over (h : Rd w A xs) (hg : w.grownBy w' row) (hne : ∀ k, row = some k → blk A ≠ some k) : Rd w' A xs := h.grown hg hne
theorem Own.over (h : Own w base e size A n c xs) (hg : w.grownBy w' row) (hne : ∀ k, row = some k → blk A ≠ some k) : Own w' base e size A n c xs := h.grown hg hne
theorem Room.over (h : Room w g l) (hg : w.grownBy w' row) (hne : ∀ k, row = some k → some g ≠ some k) : Room w' g l := Room.grown h hg (fun e => hne g e rfl)
theorem Blk.over (h : Blk w g t cs) (hg : w.grownBy w' row) (hne : ∀ k, row = some k → some g ≠ some k) : Blk w' g t cs := h.grown hg (fun e => hne g e.symm rfl)
end
end Go.Proofs.Ytianombjgdmbeaa
namespace Go.Proofs.Ytianombjgdmbeaa
set_option linter.unusedSimpArgs false
set_option linter.unusedVariables false
open Go.RowKit

theorem i64info : (Try.prog.info? 3).map (fun i => (i.zero, i.size, i.bytes)) = some (some (.int .i64 0), 1, 8) := by kernel_rfl

theorem at_get {l : List UInt8} {k : Nat} (h : k < l.length) : l[k] = l.getD k 0 := by simp [List.getD, List.getElem?_eq_getElem h]
theorem Rd.byteD {w : World} {A : Option Addr} {l : List UInt8} {k : Nat} (h : Rd w A (bvs l)) (hk : k < l.length) : ∃ b off, A = some ⟨b, off, none⟩ ∧ w.cell? ⟨b, off + k, none⟩ = some (.int .u8 ((l.getD k 0).toNat : Int)) := by
  rw [← at_get hk]
  exact h.byte hk
theorem ivs_snoc (l : List Int) (k : Nat) : ivs l ++ [.int .i64 (k : Int)] = ivs (l ++ [(k : Int)]) := by simp [ivs, iv]
theorem Rd_one (W : World) (u : Value) (t : TypeId) : Rd (W.alloc (.cells #[u] t)) (some ⟨W.heap.size, 0, none⟩) [u] := Rd_lit W [u] t
theorem one_int (k : Int) : ∀ u ∈ [Value.int .i64 k], u.oneCell' = true := by
  intro u hu
  simp at hu
  subst hu
  rfl
theorem one_byte (k : Int) : ∀ u ∈ [Value.int .u8 k], u.oneCell' = true := by
  intro u hu
  simp at hu
  subst hu
  rfl

theorem Rd.byteE {w : World} {b off : Nat} {l : List UInt8} {k : Nat} (h : Rd w (some ⟨b, off, none⟩) (bvs l)) (hk : k < l.length) : w.cell? ⟨b, off + k, none⟩ = some (.int .u8 ((l.getD k 0).toNat : Int)) := by
  rw [← at_get hk]
  exact h.cell (bvs_get hk)
theorem bvs_snoc (l : List UInt8) (x : UInt8) : bvs l ++ [.int .u8 (x.toNat : Int)] = bvs (l ++ [x]) := by simp [bvs, bv]

end Go.Proofs.Ytianombjgdmbeaa
