/-
  What the helpers of the laws do (same.go): a roomy copy of bytes, whether it was left as it was, two lists of bytes that are the same, bytes written over by their owner. Notes: what they are; which may be. Plainly.
-/
import Derived.Test.YtianombjgdmbeaaChecked
import Derived.Test.YtianombjgdmbeaaMDeliverWaits1
import Derived.Deep.QuietTactic
import Derived.BigQuiet
import Derived.Deep.LoopGhost
import Derived.Deep.OwnRows
import Derived.Test.YtianombjgdmbeaaMDeliverWaits2
namespace Go.Proofs.Ytianombjgdmbeaa
set_option linter.unusedSimpArgs false
set_option linter.unusedVariables false
open Go.RowKit

theorem u8info : (Try.prog.info? 5).map (fun i => (i.zero, i.size, i.bytes)) = some (some (.int .u8 0), 1, 1) := by kernel_rfl

theorem strOf_eq (l : List UInt8) : strOfNums (l.map fun x => (x.toNat : Int)) = ⟨l.toArray⟩ := by
  apply ByteArray.ext
  apply Array.ext'
  rw [strOfNums_data, List.map_map]
  have h : ∀ l : List UInt8, l.map ((fun n : Int => UInt8.ofNat n.toNat) ∘ fun x : UInt8 => (x.toNat : Int)) = l := by
    intro l
    induction l with
    | nil => rfl
    | cons x l ih => rw [List.map_cons, ih]; simp
  exact h l

section
variable {P : Program} (w : World)
theorem run_convert_Rd (src e : TypeId) (hs : P.underlying src = some (.slice e)) (he : P.underlying e = some (.int .u8)) (A : Option Addr) (l : List UInt8) (c : Nat) (h : Rd w A (bvs l)) :
    ∀ dst, P.underlying dst = some .string → (convert src dst (.slice A l.length c)).run P w = .ok (.string ⟨l.toArray⟩) w := by
  intro dst hd
  rcases A with _ | ⟨b, off, spot⟩
  · rcases l with _ | ⟨x, l⟩
    · exact run_convert_bytes_nil w src e hs he 0 c dst hd
    · obtain ⟨b, off, e, _⟩ := h.byte (k := 0) (by simp)
      cases e
  · rcases l with _ | ⟨x, l⟩
    · rw [run_convert_bytes_string w src dst e _ _ c hs he hd, show ([] : List UInt8).length = 0 from rfl, run_bytesToString w _ 0 c [] (by simp [loadCells, loadCellsFrom])]
      rfl
    · obtain ⟨b', off', e1, _⟩ := h.byte (k := 0) (by simp)
      injection e1 with e1
      injection e1 with e1 e2 e3
      subst e1
      subst e2
      subst e3
      have := run_convert_bytes_arg (P := P) w src e hs he b off (x :: l).length c ((x :: l).map fun x => (x.toNat : Int)) (by simp) (fun i hi => by
        have := h.cell (bvs_get hi)
        rw [this]
        rw [List.getD_eq_getElem?_getD, List.getElem?_map, List.getElem?_eq_getElem hi]
        rfl) dst hd
      rw [this, strOf_eq]
end

theorem sameBytes_yes (A B : Option Addr) (l : List UInt8) (c d : Nat) (w : World) (ha : Rd w A (bvs l)) (hb : Rd w B (bvs l)) :
    Calls Try.prog 42 #[.slice A l.length c, .slice B l.length d] w fun e w' => e = .returned (.bool true) ∧ w = w' := by
  have h1 := run_convert_Rd (P := Try.prog) w 23 5 Try.underlying23 Try.underlying5 A l c ha 9 Try.underlying9
  have h2 := run_convert_Rd (P := Try.prog) w 23 5 Try.underlying23 Try.underlying5 B l d hb 9 Try.underlying9
  go_enter Try.func42, Try.ntmps42
  go_wp2
  go_ret
  exact ⟨ret_bool (by simp), rfl⟩

/-- The marks behind a roomy copy. -/
def mark (i : Nat) : Value := .int .u8 (IntKind.u8.wrap (90 + (i : Int)))
/-- Block g is a copy of l with room for five more, the first k of which are marked. -/
structure RoomK (w : World) (g : Nat) (l : List UInt8) (k : Nat) : Prop where
  ex : ∃ cur, w.heap[g]? = some (.cells cur 5 (0, 0)) ∧ cur.size = l.length + 5 ∧ (∀ j, (h : j < l.length) → cur[j]? = some (bv l[j])) ∧ ∀ j, l.length ≤ j → j < l.length + k → cur[j]? = some (mark j)
/-- Block g is a roomy copy of l. -/
def Room (w : World) (g : Nat) (l : List UInt8) : Prop := RoomK w g l 5

section
variable {w w' : World} {g k : Nat} {l : List UInt8}
theorem RoomK.lt (h : RoomK w g l k) : g < w.heap.size := by
  obtain ⟨cur, hh, _⟩ := h.ex
  exact lt_of_block hh
theorem RoomK.keep (h : RoomK w g l k) (hk : w'.heap[g]? = w.heap[g]?) : RoomK w' g l k := by
  obtain ⟨cur, hh, r⟩ := h.ex
  exact ⟨cur, hk.trans hh, r⟩
theorem RoomK.cell (h : RoomK w g l k) {j : Nat} (hj : j < l.length + 5) : ∃ u, w.cell? ⟨g, j, none⟩ = some u := by
  obtain ⟨cur, hh, hs, _⟩ := h.ex
  exact ⟨cur[j]'(by omega), by rw [cell_of_row w g j cur _ (0, 0) hh]; exact Array.getElem?_eq_getElem (by omega)⟩
theorem RoomK.frozen (h : RoomK w g l k) (j : Nat) : w.frozen? ⟨g, j, none⟩ = false := by
  obtain ⟨cur, hh, _⟩ := h.ex
  simp [World.frozen?, hh]
theorem RoomK.set (h : RoomK w g l k) (hk : k < 5) : RoomK (w.setCell ⟨g, l.length + k, none⟩ (mark (l.length + k))) g l (k + 1) := by
  obtain ⟨cur, hh, hs, h1, h2⟩ := h.ex
  refine ⟨cur.setIfInBounds (l.length + k) (mark (l.length + k)), by simp [World.setCell, Array.getElem?_modify, hh], by simpa using hs, fun j hj => ?_, fun j hj hj2 => ?_⟩
  · rw [Array.getElem?_setIfInBounds_ne (by omega)]; exact h1 j hj
  · by_cases he : j = l.length + k
    · subst he
      rw [Array.getElem?_setIfInBounds_self, if_pos (by omega)]
    · rw [Array.getElem?_setIfInBounds_ne (by omega)]; exact h2 j hj (by omega)
theorem Room.below (h : Room w g l) (hb : Below w.heap.size w w') : Room w' g l := RoomK.keep h (hb.block _ h.lt)
theorem Room.grown {row : Option Nat} (h : Room w g l) (hg : w.grownBy w' row) (hne : row ≠ some g) : Room w' g l := RoomK.keep h (hg.block _ h.lt (fun e => hne e.symm))
theorem Room.rd (h : Room w g l) : Rd w (some ⟨g, 0, none⟩) (bvs l) := by
  obtain ⟨cur, hh, hs, h1, _⟩ := h.ex
  refine Rd.of_block hh fun i u hu => ?_
  have hl : i < l.length := by
    rcases Nat.lt_or_ge i l.length with h | h
    · exact h
    · rw [List.getElem?_eq_none (by simpa [bvs] using h)] at hu; cases hu
  rw [bvs_get hl] at hu
  rw [Nat.zero_add, h1 i hl]
  exact hu
theorem Room.mark (h : Room w g l) {j : Nat} (hj : l.length ≤ j) (hj2 : j < l.length + 5) : w.cell? ⟨g, j, none⟩ = some (.int .u8 (IntKind.u8.wrap (90 + (j : Int)))) := by
  obtain ⟨cur, hh, hs, _, h2⟩ := h.ex
  rw [cell_of_row w g j cur _ (0, 0) hh]
  exact h2 j hj hj2
theorem Room.own (h : Room w g l) (hm : l.length + 5 ≤ maxLen) {base : Nat} (hb : base ≤ g) : Own w base 5 1 (some ⟨g, 0, none⟩) l.length (l.length + 5) (bvs l) := by
  obtain ⟨cur, hh, hs, h1, _⟩ := h.ex
  refine Own.of_block hh hb (by simp [bvs]) (by omega) hm (by omega) fun i u hu => ?_
  have hl : i < l.length := by
    rcases Nat.lt_or_ge i l.length with h | h
    · exact h
    · rw [List.getElem?_eq_none (by simpa [bvs] using h)] at hu; cases hu
  rw [bvs_get hl] at hu
  rw [h1 i hl]
  exact hu
end
end Go.Proofs.Ytianombjgdmbeaa
namespace Go.Proofs.Ytianombjgdmbeaa
set_option linter.unusedSimpArgs false
set_option linter.unusedVariables false
open Go.RowKit

structure Nt where
  kind : Int
  id : Int
  name : ByteArray
  size : Int
  sum : Int
  at_ : Int
  data : List UInt8
  gaps : List (Int × Int)
  of_ : Int
  code : Int
def ntv (n : Nt) (D : Option Addr) (dn dc : Nat) (G : Option Addr) (gn gc : Nat) : Value := .agg #[.int .i64 n.kind, .int .i64 n.id, .string n.name, .int .i64 n.size, .int .i64 n.sum, .int .i64 n.at_, .slice D dn dc, .slice G gn gc, .int .i64 n.of_, .int .i64 n.code]
def gpc (g : Int × Int) : List Value := [.int .i64 g.1, .int .i64 g.2]
theorem gpc_len (g : Int × Int) : (gpc g).length = 2 := rfl
def gps (l : List (Int × Int)) : List Value := l.flatMap gpc
theorem gps_len (l : List (Int × Int)) : (gps l).length = l.length * 2 := fm_len gpc_len l
theorem gps_get {l : List (Int × Int)} {i : Nat} {x : Int × Int} (h : l[i]? = some x) {j : Nat} (hj : j < 2) : (gps l)[i * 2 + j]? = (gpc x)[j]? := fm_get gpc_len l i x j h hj
theorem gps_one (l : List (Int × Int)) : ∀ u ∈ gps l, u.oneCell' = true := by
  intro u hu
  obtain ⟨x, _, hx⟩ := List.mem_flatMap.1 hu
  simp [gpc] at hx
  rcases hx with rfl | rfl <;> rfl
/-- The two cells of a gap. -/
theorem rdgap_cells {w : World} {B : Option Addr} {l : List (Int × Int)} (h : Rd w B (gps l)) {i : Nat} {x : Int × Int} (hx : l[i]? = some x) : ∃ g o, B = some ⟨g, o, none⟩ ∧ w.cell? ⟨g, o + i * 2, none⟩ = some (.int .i64 x.1) ∧ w.cell? ⟨g, o + i * 2 + 1, none⟩ = some (.int .i64 x.2) := by
  obtain ⟨g, o, rfl, h0⟩ := h (i * 2 + 0) _ ((gps_get hx (j := 0) (by omega)).trans rfl)
  exact ⟨g, o, rfl, h0, h.cell ((gps_get hx (j := 1) (by omega)).trans rfl)⟩
def rngOk (n a b : Int) : Bool := decide (a ≤ n ∧ n ≤ b)
/-- Both 0, or a row of bytes within a file. -/
def gapOk (g : Int × Int) : Bool := decide (g.1 = 0 ∧ g.2 = 0) || decide (0 ≤ g.1 ∧ g.1 < g.2 ∧ g.2 ≤ 65536)
/-- Nothing but what the kind uses. -/
def bareOk (n : Nt) : Bool := (decide (n.kind = 1) || decide (n.name.size = 0)) && (decide (n.kind = 1) || decide (n.kind = 3) || decide (n.size = 0)) && (decide (n.kind = 3) || decide (n.sum = 0)) && (decide (n.kind = 2) || decide (n.at_ = 0)) && (decide (n.kind = 2) || decide (n.data.length = 0)) && (decide (n.kind = 4) || decide (n.gaps.length = 0)) && (decide (n.kind = 6) || decide (n.of_ = 0)) && (decide (n.kind = 5) || decide (n.code = 0))
def kindOk (n : Nt) : Bool :=
  if n.kind = 1 then decide (1 ≤ n.name.size ∧ n.name.size ≤ 32) && rngOk n.size 0 65536
  else if n.kind = 2 then decide (1 ≤ n.data.length ∧ n.data.length ≤ 1024) && rngOk n.at_ 0 (65536 - n.data.length)
  else if n.kind = 3 then rngOk n.size 0 65536 && rngOk n.sum 0 4294967295
  else if n.kind = 4 then decide (1 ≤ n.gaps.length ∧ n.gaps.length ≤ 20) && n.gaps.all gapOk
  else if n.kind = 5 then decide (n.code = 0) || decide (n.code = 9)
  else decide (n.of_ = 3) || decide (n.of_ = 5)
def noteOk (n : Nt) : Bool := rngOk n.kind 1 6 && rngOk n.id 0 65535 && bareOk n && kindOk n
theorem note_bare {n : Nt} (h : bareOk n = false) : noteOk n = false := by unfold noteOk; rw [h]; simp
theorem note_kind {n : Nt} (h : kindOk n = false) : noteOk n = false := by unfold noteOk; rw [h]; simp
theorem note_all {n : Nt} (h1 : rngOk n.kind 1 6 = true) (h2 : rngOk n.id 0 65535 = true) (h3 : bareOk n = true) (h4 : kindOk n = true) : noteOk n = true := by unfold noteOk; rw [h1, h2, h3, h4]; rfl
end Go.Proofs.Ytianombjgdmbeaa
