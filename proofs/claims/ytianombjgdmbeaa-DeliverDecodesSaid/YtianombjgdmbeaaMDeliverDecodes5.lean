/-
  Rows of structs: the cells of a list of them. Plainly. Notes: what they are; which may be. Plainly.
-/
import Derived.Test.YtianombjgdmbeaaMDeliverDecodes1
import Derived.Test.YtianombjgdmbeaaMDeliverDecodes2
namespace Go.Proofs.Ytianombjgdmbeaa
set_option linter.unusedSimpArgs false
set_option linter.unusedVariables false
section
variable {α : Type} {f : α → List Value} {s : Nat}
theorem fm_len (hf : ∀ x, (f x).length = s) : ∀ l : List α, (l.flatMap f).length = l.length * s
  | [] => by simp
  | x :: l => by rw [List.flatMap_cons, List.length_append, hf, fm_len hf l, List.length_cons, Nat.succ_mul]; omega
theorem fm_get (hf : ∀ x, (f x).length = s) : ∀ (l : List α) (i : Nat) (x : α) (j : Nat), l[i]? = some x → j < s → (l.flatMap f)[i * s + j]? = (f x)[j]?
  | [], i, x, j, h, _ => by simp at h
  | y :: l, 0, x, j, h, hj => by
    simp at h
    subst h
    rw [List.flatMap_cons, Nat.zero_mul, Nat.zero_add, List.getElem?_append_left (by rw [hf]; exact hj)]
  | y :: l, i + 1, x, j, h, hj => by
    rw [List.flatMap_cons, List.getElem?_append_right (by rw [hf, Nat.succ_mul]; omega), hf, show (i + 1) * s + j - s = i * s + j by rw [Nat.succ_mul]; omega]
    exact fm_get hf l i x j (by simpa using h) hj
theorem fm_set (hf : ∀ x, (f x).length = s) : ∀ (l : List α) (i : Nat) (x y : α) (j : Nat) (v : Value), l[i]? = some x → j < s → f y = (f x).set j v → (l.flatMap f).set (i * s + j) v = (l.set i y).flatMap f
  | [], i, x, y, j, v, h, _, _ => by simp at h
  | z :: l, 0, x, y, j, v, h, hj, hy => by
    simp at h
    subst h
    rw [List.flatMap_cons, Nat.zero_mul, Nat.zero_add, List.set_append_left _ _ (by rw [hf]; exact hj), List.set_cons_zero, List.flatMap_cons, hy]
  | z :: l, i + 1, x, y, j, v, h, hj, hy => by
    rw [List.flatMap_cons, List.set_append_right _ _ (by rw [hf, Nat.succ_mul]; omega), hf, show (i + 1) * s + j - s = i * s + j by rw [Nat.succ_mul]; omega, List.set_cons_succ, List.flatMap_cons,
      fm_set hf l i x y j v (by simpa using h) hj hy]
theorem fm_snoc (l : List α) (x : α) : (l ++ [x]).flatMap f = l.flatMap f ++ f x := by simp
end
end Go.Proofs.Ytianombjgdmbeaa
namespace Go.Proofs.Ytianombjgdmbeaa
set_option linter.unusedSimpArgs false
set_option linter.unusedVariables false
open Go.RowKit

structure Nt where
  kind : Int
  id : Int
  name : ByteArray
  size : Int
  sum : Int
  at_ : Int
  data : List UInt8
  gaps : List (Int × Int)
  of_ : Int
  code : Int
def ntv (n : Nt) (D : Option Addr) (dn dc : Nat) (G : Option Addr) (gn gc : Nat) : Value := .agg #[.int .i64 n.kind, .int .i64 n.id, .string n.name, .int .i64 n.size, .int .i64 n.sum, .int .i64 n.at_, .slice D dn dc, .slice G gn gc, .int .i64 n.of_, .int .i64 n.code]
def gpc (g : Int × Int) : List Value := [.int .i64 g.1, .int .i64 g.2]
theorem gpc_len (g : Int × Int) : (gpc g).length = 2 := rfl
def gps (l : List (Int × Int)) : List Value := l.flatMap gpc
theorem gps_len (l : List (Int × Int)) : (gps l).length = l.length * 2 := fm_len gpc_len l
theorem gps_get {l : List (Int × Int)} {i : Nat} {x : Int × Int} (h : l[i]? = some x) {j : Nat} (hj : j < 2) : (gps l)[i * 2 + j]? = (gpc x)[j]? := fm_get gpc_len l i x j h hj
theorem gps_one (l : List (Int × Int)) : ∀ u ∈ gps l, u.oneCell' = true := by
  intro u hu
  obtain ⟨x, _, hx⟩ := List.mem_flatMap.1 hu
  simp [gpc] at hx
  rcases hx with rfl | rfl <;> rfl
/-- The two cells of a gap. -/
theorem rdgap_cells {w : World} {B : Option Addr} {l : List (Int × Int)} (h : Rd w B (gps l)) {i : Nat} {x : Int × Int} (hx : l[i]? = some x) : ∃ g o, B = some ⟨g, o, none⟩ ∧ w.cell? ⟨g, o + i * 2, none⟩ = some (.int .i64 x.1) ∧ w.cell? ⟨g, o + i * 2 + 1, none⟩ = some (.int .i64 x.2) := by
  obtain ⟨g, o, rfl, h0⟩ := h (i * 2 + 0) _ ((gps_get hx (j := 0) (by omega)).trans rfl)
  exact ⟨g, o, rfl, h0, h.cell ((gps_get hx (j := 1) (by omega)).trans rfl)⟩
def rngOk (n a b : Int) : Bool := decide (a ≤ n ∧ n ≤ b)
/-- Both 0, or a row of bytes within a file. -/
def gapOk (g : Int × Int) : Bool := decide (g.1 = 0 ∧ g.2 = 0) || decide (0 ≤ g.1 ∧ g.1 < g.2 ∧ g.2 ≤ 65536)
/-- Nothing but what the kind uses. -/
def bareOk (n : Nt) : Bool := (decide (n.kind = 1) || decide (n.name.size = 0)) && (decide (n.kind = 1) || decide (n.kind = 3) || decide (n.size = 0)) && (decide (n.kind = 3) || decide (n.sum = 0)) && (decide (n.kind = 2) || decide (n.at_ = 0)) && (decide (n.kind = 2) || decide (n.data.length = 0)) && (decide (n.kind = 4) || decide (n.gaps.length = 0)) && (decide (n.kind = 6) || decide (n.of_ = 0)) && (decide (n.kind = 5) || decide (n.code = 0))
def kindOk (n : Nt) : Bool :=
  if n.kind = 1 then decide (1 ≤ n.name.size ∧ n.name.size ≤ 32) && rngOk n.size 0 65536
  else if n.kind = 2 then decide (1 ≤ n.data.length ∧ n.data.length ≤ 1024) && rngOk n.at_ 0 (65536 - n.data.length)
  else if n.kind = 3 then rngOk n.size 0 65536 && rngOk n.sum 0 4294967295
  else if n.kind = 4 then decide (1 ≤ n.gaps.length ∧ n.gaps.length ≤ 20) && n.gaps.all gapOk
  else if n.kind = 5 then decide (n.code = 0) || decide (n.code = 9)
  else decide (n.of_ = 3) || decide (n.of_ = 5)
def noteOk (n : Nt) : Bool := rngOk n.kind 1 6 && rngOk n.id 0 65535 && bareOk n && kindOk n
theorem note_bare {n : Nt} (h : bareOk n = false) : noteOk n = false := by unfold noteOk; rw [h]; simp
theorem note_kind {n : Nt} (h : kindOk n = false) : noteOk n = false := by unfold noteOk; rw [h]; simp
theorem note_all {n : Nt} (h1 : rngOk n.kind 1 6 = true) (h2 : rngOk n.id 0 65535 = true) (h3 : bareOk n = true) (h4 : kindOk n = true) : noteOk n = true := by unfold noteOk; rw [h1, h2, h3, h4]; rfl
end Go.Proofs.Ytianombjgdmbeaa
