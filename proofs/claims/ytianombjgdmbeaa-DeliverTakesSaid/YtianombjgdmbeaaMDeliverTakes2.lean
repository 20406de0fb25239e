/-
  Words beside Base's. Bytes and ints at a place; single cells that are appended.
-/
import Derived.Test.YtianombjgdmbeaaMDeliverTakes1
namespace Go.Proofs.Ytianombjgdmbeaa
set_option linter.unusedSimpArgs false
set_option linter.unusedVariables false
open Go.RowKit
theorem blk_lit {g o q : Nat} (h : blk (some ⟨g, o, none⟩) = some q) : q = g := by
  simp [blk] at h
  exact h.symm
theorem blk_lit_ne {g o q : Nat} (h : g ≠ q) : blk (some ⟨g, o, none⟩) ≠ some q := by
  simp [blk]
  exact h
/-- A list that is written out, in a block of its own. -/
theorem Rd_lit (W : World) (cs : List Value) (t : TypeId) : Rd (W.alloc (.cells cs.toArray t)) (some ⟨W.heap.size, 0, none⟩) cs :=
  Rd.of_block (heap_alloc_new W _) fun i u h => by simpa using h
theorem bOf_mod (n : Int) : n % 256 = ((bOf n).toNat : Int) := by
  rw [bOf, UInt8.toNat_ofNat']
  omega
theorem bOf_in {n : Int} (h : 0 ≤ n ∧ n ≤ 255) : n = ((bOf n).toNat : Int) := by
  have := bOf_mod n
  omega
theorem bv_mod (n : Int) : Value.int .u8 (n % 256) = bv (bOf n) := by rw [bOf_mod]; rfl
theorem bv_in {n : Int} (h : 0 ≤ n ∧ n ≤ 255) : Value.int .u8 n = bv (bOf n) := by
  unfold bv
  rw [← bOf_in h]
section
variable {P : Program}
/-- make: an equation for every world. -/
theorem run_make_rowN (t e : TypeId) (i : TypeInfo) (z : Value) (ht : P.underlying t = some (.slice e)) (hi : P.info? e = some i) (hz : i.zero = some z)
    (kl kc : IntKind) (n c : Nat) (hnc : n ≤ c) (hbytes : i.bytes * c ≤ 281474976710656) (h63 : c ≤ 9223372036854775807) (w : World) :
    (Instr.makeSlice t (.int kl (n : Int)) (.int kc (c : Int))).run P w = .ok (.slice (some ⟨w.heap.size, 0, none⟩) n c) (w.alloc (.cells (madeCells z.cells (c * i.size)) e)) := by
  have hb : (i.bytes : Int) * (c : Int) ≤ 281474976710656 := by
    have h : ((i.bytes * c : Nat) : Int) ≤ 281474976710656 := by omega
    rwa [Int.natCast_mul] at h
  have hr := run_make (P := P) w t e i z ht hi hz kl kc n c (by omega) (by omega) hb (by omega)
  simp only [Int.toNat_natCast] at hr
  exact hr
end
theorem make_fn {P : Program} (fn : Fn) (first cap : Array Value) (w : World) : (Instr.makeFunc fn first cap).run P w = .ok (.func fn first cap) w := rfl
end Go.Proofs.Ytianombjgdmbeaa
namespace Go.Proofs.Ytianombjgdmbeaa
set_option linter.unusedSimpArgs false
set_option linter.unusedVariables false
open Go.RowKit

theorem i64info : (Try.prog.info? 3).map (fun i => (i.zero, i.size, i.bytes)) = some (some (.int .i64 0), 1, 8) := by kernel_rfl

theorem at_get {l : List UInt8} {k : Nat} (h : k < l.length) : l[k] = l.getD k 0 := by simp [List.getD, List.getElem?_eq_getElem h]
theorem Rd.byteD {w : World} {A : Option Addr} {l : List UInt8} {k : Nat} (h : Rd w A (bvs l)) (hk : k < l.length) : ∃ b off, A = some ⟨b, off, none⟩ ∧ w.cell? ⟨b, off + k, none⟩ = some (.int .u8 ((l.getD k 0).toNat : Int)) := by
  rw [← at_get hk]
  exact h.byte hk
theorem ivs_snoc (l : List Int) (k : Nat) : ivs l ++ [.int .i64 (k : Int)] = ivs (l ++ [(k : Int)]) := by simp [ivs, iv]
theorem Rd_one (W : World) (u : Value) (t : TypeId) : Rd (W.alloc (.cells #[u] t)) (some ⟨W.heap.size, 0, none⟩) [u] := Rd_lit W [u] t
theorem one_int (k : Int) : ∀ u ∈ [Value.int .i64 k], u.oneCell' = true := by
  intro u hu
  simp at hu
  subst hu
  rfl
theorem one_byte (k : Int) : ∀ u ∈ [Value.int .u8 k], u.oneCell' = true := by
  intro u hu
  simp at hu
  subst hu
  rfl

theorem Rd.byteE {w : World} {b off : Nat} {l : List UInt8} {k : Nat} (h : Rd w (some ⟨b, off, none⟩) (bvs l)) (hk : k < l.length) : w.cell? ⟨b, off + k, none⟩ = some (.int .u8 ((l.getD k 0).toNat : Int)) := by
  rw [← at_get hk]
  exact h.cell (bvs_get hk)
theorem bvs_snoc (l : List UInt8) (x : UInt8) : bvs l ++ [.int .u8 (x.toNat : Int)] = bvs (l ++ [x]) := by simp [bvs, bv]

end Go.Proofs.Ytianombjgdmbeaa
