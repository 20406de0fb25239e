/-
  A slice literal of one note: one step, whatever the frame. A note comes to a taker, by the document (TakeOf): what stands plainly.
-/
import Derived.Test.YtianombjgdmbeaaMDeliverTakes18
import Derived.Laws.Rows
import Derived.Test.YtianombjgdmbeaaMDeliverTakes45
import Derived.Test.YtianombjgdmbeaaMDeliverTakes38
import Derived.Test.YtianombjgdmbeaaMDeliverTakes46
import Derived.Test.YtianombjgdmbeaaMDeliverTakes25
import Derived.Test.YtianombjgdmbeaaMDeliverTakes3
import Derived.Deep.CutBlock
namespace Go.Proofs.Ytianombjgdmbeaa
set_option linter.unusedSimpArgs false
set_option linter.unusedVariables false
open Go.RowKit

set_option maxHeartbeats 1600000 in
set_option maxRecDepth 100000 in
theorem run_noteRow (w : World) (k id : Int) (nm : ByteArray) (sz sm at_ : Int) (D : Option Addr) (dn dc : Nat) (G : Option Addr) (gn gc : Nat) (of_ code : Int) :
    (Instr.buildSlice 45 1 #[(0, .agg #[.int .i64 k, .int .i64 id, .string nm, .int .i64 sz, .int .i64 sm, .int .i64 at_, .slice D dn dc, .slice G gn gc, .int .i64 of_, .int .i64 code])]).run Try.prog w = .ok (.slice (some ⟨w.heap.size, 0, none⟩) 1 1) (w.alloc (.cells #[.int .i64 k, .int .i64 id, .string nm, .int .i64 sz, .int .i64 sm, .int .i64 at_, .slice D dn dc, .slice G gn gc, .int .i64 of_, .int .i64 code] 27)) := by
  obtain ⟨j0, hj0, hy0, hy1, hy2⟩ := info_parts noteinfo
  simp [Instr.buildSlice, run_underlying Try.underlying45, sizeOf, typeInfo, zeroValue, hj0, hy0, hy1, newRow, Instr.fill, go_sem]
theorem wpList_noteRow {ops : Array Oper} {rest : List Oper} {o : Oper} {a : Act} {w : World} {Q : Exit → Act → World → Prop} (hgd : o.guard = none) (x : Operand) (ho : o.op = .buildSlice 45 1 #[(0, x)])
    (k id : Int) (nm : ByteArray) (sz sm at_ : Int) (D : Option Addr) (dn dc : Nat) (G : Option Addr) (gn gc : Nat) (of_ code : Int) (hx : a.eval x = .agg #[.int .i64 k, .int .i64 id, .string nm, .int .i64 sz, .int .i64 sm, .int .i64 at_, .slice D dn dc, .slice G gn gc, .int .i64 of_, .int .i64 code])
    (h : wpList Try.prog ops Q rest (a.put o.dst (.slice (some ⟨w.heap.size, 0, none⟩) 1 1)) (w.alloc (.cells #[.int .i64 k, .int .i64 id, .string nm, .int .i64 sz, .int .i64 sm, .int .i64 at_, .slice D dn dc, .slice G gn gc, .int .i64 of_, .int .i64 code] 27))) : wpList Try.prog ops Q (o :: rest) a w :=
  wpList_plain hgd fun _ hK => by
    unfold Oper.wp execOp
    simp only [ho, Sem.run_bind, Sem.run_pure, Result.andThen_ok, List.map_toArray, List.map_cons, List.map_nil, hx, run_noteRow]
    exact hK _ _ h
end Go.Proofs.Ytianombjgdmbeaa
namespace Go.Proofs.Ytianombjgdmbeaa
set_option linter.unusedSimpArgs false
set_option linter.unusedVariables false
open Go.RowKit

/-- A taker behind what a note brings, by the document. -/
def RefAt (w W : World) (q : Nat) (y : Tk) (ns : List Nt) (NC : Array Value) (F : Option Addr) (fn fc : Nat) (A : Option Addr) (an ac : Nat) (O : Option Addr) (on oc : Nat) (l : List NtR) : Prop :=
  Blk W q 44 (tkc y A an ac F fn fc) ∧ Blk W (w.heap.size + 2) 44 #[.int .i64 0, .bool false, .string ⟨#[]⟩, .int .i64 0, .bool false, .int .i64 0, .int .i64 0, .slice none 0 0, .slice none 0 0, .int .i64 0, .int .i64 0, .int .i64 0, .int .i64 0, .int .i64 0] ∧ Blk W (w.heap.size + 1) 27 NC ∧ GvMem W (w.heap.size + 3) (pg y) ns F fn fc A an ac O on oc l ∧ Below w.heap.size w W
theorem comes_ended {x : Tk} {n : Nt} (h : n.kind = 3) : (comesT x n).ended = true := by
  cases h2 : x.ended
  · rw [comes_3b h h2]
  · rw [comes_3a h h2]; exact h2
theorem zero_of {x : Tk} (h : tkOk x = true) : ∀ j, j < x.file.length → inR x.have_ j = true ∨ bAt x.file j = 0 := by
  intro j hj
  have h1 := (tk_parts h).2.2.2.2.2.2.1
  unfold zeroB at h1
  rw [List.all_eq_true] at h1
  have h2 := h1 j (List.mem_range.2 hj)
  rw [Bool.or_eq_true, decide_eq_true_eq] at h2
  exact h2
theorem bvs_take' (l : List UInt8) (n : Nat) : (bvs l).take n = bvs (l.take n) := by simp [bvs, List.map_take]
theorem has_row {l : List (Int × Int)} {n i : Nat} {b : Bool} (h : (hasL l n)[i]? = some b) : (!inR l i) = (b == false) := by
  unfold hasL at h
  rw [List.getElem?_map] at h
  cases h2 : (List.range n)[i]? with
  | none => rw [h2] at h; cases h
  | some k =>
    have hk : k = i := by
      have := List.getElem?_eq_some_iff.1 h2
      obtain ⟨hi, e⟩ := this
      rw [List.getElem_range] at e
      exact e.symm
    rw [h2, hk] at h
    have e := Option.some.inj h
    rw [← e]
    cases inR l i <;> rfl
theorem miss_unknown {x : Tk} (h : x.known = false) : missT x ≠ [] := by
  unfold missT capG
  rw [h]
  simp
theorem miss_some {x : Tk} {n : Nat} (hn : x.last = (n : Int)) (h : decide (rowsF (fun i => !inR x.have_ i) n = []) = false) : missT x ≠ [] := by
  have h1 := of_decide_eq_false h
  unfold missT capG
  rw [hn, Int.toNat_natCast]
  intro e
  have e2 := congrArg List.length e
  rw [List.length_take, List.length_append, List.length_nil] at e2
  have : (rowsF (fun i => !inR x.have_ i) n).length ≠ 0 := fun e3 => h1 (List.eq_nil_of_length_eq_zero e3)
  omega
theorem take_no {x : Tk} {n : Nt} (h : tkOk x = false) : takeR x n = (tkZero, [], 11) := by unfold takeR; rw [if_pos h]
theorem GvMem.low {W : World} {base r : Nat} {y : Gv} {ns : List Nt} {F A O : Option Addr} {fn fc an ac on oc : Nat} {l : List NtR} (h : GvMem W base y ns F fn fc A an ac O on oc l) (hr : r < base) (C : Array Value) : GvMem (W.setRow r C) base y ns F fn fc A an ac O on oc l := h.map fun _ _ _ _ _ _ h => h.rowFar hr C
theorem gv_two {W : World} {base b : Nat} {y : Gv} {F A : Option Addr} {fn fc an ac : Nat} {n m : Nt} (h : GvMem W base y [] F fn fc A an ac none 0 0 []) (hO : Own W base 27 10 (some ⟨b, 0, none⟩) 2 2 (nts [⟨n, none, 0, none, 0⟩, ⟨m, none, 0, none, 0⟩])) (h1 : n.data = []) (h2 : n.gaps = []) (h3 : m.data = []) (h4 : m.gaps = []) : GvMem W base y [n, m] F fn fc A an ac (some ⟨b, 0, none⟩) 2 2 [⟨n, none, 0, none, 0⟩, ⟨m, none, 0, none, 0⟩] := by
  have key : ∀ (i : Nat) (x : NtR), ([⟨n, none, 0, none, 0⟩, ⟨m, none, 0, none, 0⟩] : List NtR)[i]? = some x → x.D = none ∧ x.G = none ∧ x.dc = 0 ∧ x.gc = 0 ∧ x.n.data = [] ∧ x.n.gaps = [] := by
    intro i x hx
    rcases i with _ | _ | i
    · simp at hx; subst hx; exact ⟨rfl, rfl, rfl, rfl, h1, h2⟩
    · simp at hx; subst hx; exact ⟨rfl, rfl, rfl, rfl, h3, h4⟩
    · simp at hx
  refine ⟨h.fl, h.al, rfl, rfl, h.file, h.again, hO, ⟨fun i x hx => ?_, fun i j x y _ hx hy => ?_⟩, fun i x hx => ?_⟩
  · obtain ⟨k1, k2, k3, k4, k5, k6⟩ := key i x hx
    rw [k1, k2, k3, k4, k5, k6]
    exact ⟨Own.none_ _ _ _ _, Own.none_ _ _ _ _⟩
  · obtain ⟨k1, k2, -⟩ := key i x hx
    rw [k1, k2]
    exact ⟨fun q h => by simp [blk] at h, fun q h => by simp [blk] at h⟩
  · obtain ⟨k1, k2, -⟩ := key i x hx
    rw [k1, k2]
    exact ⟨fun q _ h => by simp [blk] at h, fun q _ h => by simp [blk] at h⟩
/-- A note that comes while bytes come. -/
def GoOk (x : Tk) (n : Nt) : Prop := tkOk x = true ∧ noteOk n = true ∧ n.id = x.id ∧ (¬ (n.kind = 4 ∨ n.kind = 5)) ∧ x.stage = 0
/-- All is known, and as long as was told. -/
def GoJ (y : Tk) : Prop := y.known = true ∧ y.ended = true ∧ y.size = y.last
end Go.Proofs.Ytianombjgdmbeaa
