/-
  What the helpers of the laws do (same.go): a roomy copy of bytes, whether it was left as it was, two lists of bytes that are the same, bytes written over by their owner. Words beside Base's.
-/
import Derived.Test.YtianombjgdmbeaaChecked
import Derived.Test.YtianombjgdmbeaaMDeliverDecodes1
import Derived.Deep.QuietTactic
import Derived.BigQuiet
import Derived.Deep.LoopGhost
import Derived.Deep.OwnRows
namespace Go.Proofs.Ytianombjgdmbeaa
set_option linter.unusedSimpArgs false
set_option linter.unusedVariables false
open Go.RowKit

theorem u8info : (Try.prog.info? 5).map (fun i => (i.zero, i.size, i.bytes)) = some (some (.int .u8 0), 1, 1) := by kernel_rfl

theorem strOf_eq (l : List UInt8) : strOfNums (l.map fun x => (x.toNat : Int)) = ⟨l.toArray⟩ := by
  apply ByteArray.ext
  apply Array.ext'
  rw [strOfNums_data, List.map_map]
  have h : ∀ l : List UInt8, l.map ((fun n : Int => UInt8.ofNat n.toNat) ∘ fun x : UInt8 => (x.toNat : Int)) = l := by
    intro l
    induction l with
    | nil => rfl
    | cons x l ih => rw [List.map_cons, ih]; simp
  exact h l

section
variable {P : Program} (w : World)
theorem run_convert_Rd (src e : TypeId) (hs : P.underlying src = some (.slice e)) (he : P.underlying e = some (.int .u8)) (A : Option Addr) (l : List UInt8) (c : Nat) (h : Rd w A (bvs l)) :
    ∀ dst, P.underlying dst = some .string → (convert src dst (.slice A l.length c)).run P w = .ok (.string ⟨l.toArray⟩) w := by
  intro dst hd
  rcases A with _ | ⟨b, off, spot⟩
  · rcases l with _ | ⟨x, l⟩
    · exact run_convert_bytes_nil w src e hs he 0 c dst hd
    · obtain ⟨b, off, e, _⟩ := h.byte (k := 0) (by simp)
      cases e
  · rcases l with _ | ⟨x, l⟩
    · rw [run_convert_bytes_string w src dst e _ _ c hs he hd, show ([] : List UInt8).length = 0 from rfl, run_bytesToString w _ 0 c [] (by simp [loadCells, loadCellsFrom])]
      rfl
    · obtain ⟨b', off', e1, _⟩ := h.byte (k := 0) (by simp)
      injection e1 with e1
      injection e1 with e1 e2 e3
      subst e1
      subst e2
      subst e3
      have := run_convert_bytes_arg (P := P) w src e hs he b off (x :: l).length c ((x :: l).map fun x => (x.toNat : Int)) (by simp) (fun i hi => by
        have := h.cell (bvs_get hi)
        rw [this]
        rw [List.getD_eq_getElem?_getD, List.getElem?_map, List.getElem?_eq_getElem hi]
        rfl) dst hd
      rw [this, strOf_eq]
end

theorem sameBytes_yes (A B : Option Addr) (l : List UInt8) (c d : Nat) (w : World) (ha : Rd w A (bvs l)) (hb : Rd w B (bvs l)) :
    Calls Try.prog 42 #[.slice A l.length c, .slice B l.length d] w fun e w' => e = .returned (.bool true) ∧ w = w' := by
  have h1 := run_convert_Rd (P := Try.prog) w 23 5 Try.underlying23 Try.underlying5 A l c ha 9 Try.underlying9
  have h2 := run_convert_Rd (P := Try.prog) w 23 5 Try.underlying23 Try.underlying5 B l d hb 9 Try.underlying9
  go_enter Try.func42, Try.ntmps42
  go_wp2
  go_ret
  exact ⟨ret_bool (by simp), rfl⟩

/-- The marks behind a roomy copy. -/
def mark (i : Nat) : Value := .int .u8 (IntKind.u8.wrap (90 + (i : Int)))
/-- Block g is a copy of l with room for five more, the first k of which are marked. -/
structure RoomK (w : World) (g : Nat) (l : List UInt8) (k : Nat) : Prop where
  ex : ∃ cur, w.heap[g]? = some (.cells cur 5 (0, 0)) ∧ cur.size = l.length + 5 ∧ (∀ j, (h : j < l.length) → cur[j]? = some (bv l[j])) ∧ ∀ j, l.length ≤ j → j < l.length + k → cur[j]? = some (mark j)
/-- Block g is a roomy copy of l. -/
def Room (w : World) (g : Nat) (l : List UInt8) : Prop := RoomK w g l 5

section
variable {w w' : World} {g k : Nat} {l : List UInt8}
theorem RoomK.lt (h : RoomK w g l k) : g < w.heap.size := by
  obtain ⟨cur, hh, _⟩ := h.ex
  exact lt_of_block hh
theorem RoomK.keep (h : RoomK w g l k) (hk : w'.heap[g]? = w.heap[g]?) : RoomK w' g l k := by
  obtain ⟨cur, hh, r⟩ := h.ex
  exact ⟨cur, hk.trans hh, r⟩
theorem RoomK.cell (h : RoomK w g l k) {j : Nat} (hj : j < l.length + 5) : ∃ u, w.cell? ⟨g, j, none⟩ = some u := by
  obtain ⟨cur, hh, hs, _⟩ := h.ex
  exact ⟨cur[j]'(by omega), by rw [cell_of_row w g j cur _ (0, 0) hh]; exact Array.getElem?_eq_getElem (by omega)⟩
theorem RoomK.frozen (h : RoomK w g l k) (j : Nat) : w.frozen? ⟨g, j, none⟩ = false := by
  obtain ⟨cur, hh, _⟩ := h.ex
  simp [World.frozen?, hh]
theorem RoomK.set (h : RoomK w g l k) (hk : k < 5) : RoomK (w.setCell ⟨g, l.length + k, none⟩ (mark (l.length + k))) g l (k + 1) := by
  obtain ⟨cur, hh, hs, h1, h2⟩ := h.ex
  refine ⟨cur.setIfInBounds (l.length + k) (mark (l.length + k)), by simp [World.setCell, Array.getElem?_modify, hh], by simpa using hs, fun j hj => ?_, fun j hj hj2 => ?_⟩
  · rw [Array.getElem?_setIfInBounds_ne (by omega)]; exact h1 j hj
  · by_cases he : j = l.length + k
    · subst he
      rw [Array.getElem?_setIfInBounds_self, if_pos (by omega)]
    · rw [Array.getElem?_setIfInBounds_ne (by omega)]; exact h2 j hj (by omega)
theorem Room.below (h : Room w g l) (hb : Below w.heap.size w w') : Room w' g l := RoomK.keep h (hb.block _ h.lt)
theorem Room.grown {row : Option Nat} (h : Room w g l) (hg : w.grownBy w' row) (hne : row ≠ some g) : Room w' g l := RoomK.keep h (hg.block _ h.lt (fun e => hne e.symm))
theorem Room.rd (h : Room w g l) : Rd w (some ⟨g, 0, none⟩) (bvs l) := by
  obtain ⟨cur, hh, hs, h1, _⟩ := h.ex
  refine Rd.of_block hh fun i u hu => ?_
  have hl : i < l.length := by
    rcases Nat.lt_or_ge i l.length with h | h
    · exact h
    · rw [List.getElem?_eq_none (by simpa [bvs] using h)] at hu; cases hu
  rw [bvs_get hl] at hu
  rw [Nat.zero_add, h1 i hl]
  exact hu
theorem Room.mark (h : Room w g l) {j : Nat} (hj : l.length ≤ j) (hj2 : j < l.length + 5) : w.cell? ⟨g, j, none⟩ = some (.int .u8 (IntKind.u8.wrap (90 + (j : Int)))) := by
  obtain ⟨cur, hh, hs, _, h2⟩ := h.ex
  rw [cell_of_row w g j cur _ (0, 0) hh]
  exact h2 j hj hj2
theorem Room.own (h : Room w g l) (hm : l.length + 5 ≤ maxLen) {base : Nat} (hb : base ≤ g) : Own w base 5 1 (some ⟨g, 0, none⟩) l.length (l.length + 5) (bvs l) := by
  obtain ⟨cur, hh, hs, h1, _⟩ := h.ex
  refine Own.of_block hh hb (by simp [bvs]) (by omega) hm (by omega) fun i u hu => ?_
  have hl : i < l.length := by
    rcases Nat.lt_or_ge i l.length with h | h
    · exact h
    · rw [List.getElem?_eq_none (by simpa [bvs] using h)] at hu; cases hu
  rw [bvs_get hl] at hu
  rw [h1 i hl]
  exact hu
end
end Go.Proofs.Ytianombjgdmbeaa
namespace Go.Proofs.Ytianombjgdmbeaa
set_option linter.unusedSimpArgs false
set_option linter.unusedVariables false
open Go.RowKit
theorem blk_lit {g o q : Nat} (h : blk (some ⟨g, o, none⟩) = some q) : q = g := by
  simp [blk] at h
  exact h.symm
theorem blk_lit_ne {g o q : Nat} (h : g ≠ q) : blk (some ⟨g, o, none⟩) ≠ some q := by
  simp [blk]
  exact h
/-- A list that is written out, in a block of its own. -/
theorem Rd_lit (W : World) (cs : List Value) (t : TypeId) : Rd (W.alloc (.cells cs.toArray t)) (some ⟨W.heap.size, 0, none⟩) cs :=
  Rd.of_block (heap_alloc_new W _) fun i u h => by simpa using h
theorem bOf_mod (n : Int) : n % 256 = ((bOf n).toNat : Int) := by
  rw [bOf, UInt8.toNat_ofNat']
  omega
theorem bOf_in {n : Int} (h : 0 ≤ n ∧ n ≤ 255) : n = ((bOf n).toNat : Int) := by
  have := bOf_mod n
  omega
theorem bv_mod (n : Int) : Value.int .u8 (n % 256) = bv (bOf n) := by rw [bOf_mod]; rfl
theorem bv_in {n : Int} (h : 0 ≤ n ∧ n ≤ 255) : Value.int .u8 n = bv (bOf n) := by
  unfold bv
  rw [← bOf_in h]
section
variable {P : Program}
/-- make: an equation for every world. -/
theorem run_make_rowN (t e : TypeId) (i : TypeInfo) (z : Value) (ht : P.underlying t = some (.slice e)) (hi : P.info? e = some i) (hz : i.zero = some z)
    (kl kc : IntKind) (n c : Nat) (hnc : n ≤ c) (hbytes : i.bytes * c ≤ 281474976710656) (h63 : c ≤ 9223372036854775807) (w : World) :
    (Instr.makeSlice t (.int kl (n : Int)) (.int kc (c : Int))).run P w = .ok (.slice (some ⟨w.heap.size, 0, none⟩) n c) (w.alloc (.cells (madeCells z.cells (c * i.size)) e)) := by
  have hb : (i.bytes : Int) * (c : Int) ≤ 281474976710656 := by
    have h : ((i.bytes * c : Nat) : Int) ≤ 281474976710656 := by omega
    rwa [Int.natCast_mul] at h
  have hr := run_make (P := P) w t e i z ht hi hz kl kc n c (by omega) (by omega) hb (by omega)
  simp only [Int.toNat_natCast] at hr
  exact hr
end
theorem make_fn {P : Program} (fn : Fn) (first cap : Array Value) (w : World) : (Instr.makeFunc fn first cap).run P w = .ok (.func fn first cap) w := rfl
end Go.Proofs.Ytianombjgdmbeaa
