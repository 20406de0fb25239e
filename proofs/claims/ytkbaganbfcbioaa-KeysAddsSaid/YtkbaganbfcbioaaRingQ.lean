/-
  Rings with a key less: plainly.
-/
import Derived.Test.YtkbaganbfcbioaaRingP
namespace Go.Proofs.Ytkbaganbfcbioaa
set_option linter.unusedSimpArgs false
set_option linter.unusedVariables false
open Go.RowKit

theorem fm_take {α : Type} {f : α → List Value} {s : Nat} (hf : ∀ x, (f x).length = s) : ∀ (l : List α) (i : Nat), (l.flatMap f).take (i * s) = (l.take i).flatMap f
  | [], i => by simp
  | x :: l, 0 => by simp
  | x :: l, i + 1 => by
    rw [List.flatMap_cons, List.take_succ_cons, List.flatMap_cons, List.take_append, hf, show (i + 1) * s - s = i * s by rw [Nat.succ_mul]; omega, fm_take hf l i, List.take_of_length_le (by rw [hf, Nat.succ_mul]; omega)]
theorem fm_drop {α : Type} {f : α → List Value} {s : Nat} (hf : ∀ x, (f x).length = s) : ∀ (l : List α) (i : Nat), (l.flatMap f).drop (i * s) = (l.drop i).flatMap f
  | [], i => by simp
  | x :: l, 0 => by simp
  | x :: l, i + 1 => by
    rw [List.flatMap_cons, List.drop_succ_cons, List.drop_append, hf, show (i + 1) * s - s = i * s by rw [Nat.succ_mul]; omega, fm_drop hf l i, List.drop_of_length_le (by rw [hf, Nat.succ_mul]; omega), List.nil_append]
theorem kvs_take (l : List KyR) (i : Nat) : (kvs l).take (i * 4) = kvs (l.take i) := fm_take kcs_len l i
theorem kvs_drop (l : List KyR) (i : Nat) : (kvs l).drop (i * 4) = kvs (l.drop i) := fm_drop kcs_len l i
theorem kvs_erase (l : List KyR) (i : Nat) : kvs (l.take i) ++ kvs (l.drop (i + 1)) = kvs (l.eraseIdx i) := by rw [← kvs_append, List.eraseIdx_eq_take_drop_succ]
/-- The first elements alone, with no room behind them, 's[:m:m]'. -/
theorem Own.capCut {w : World} {base : Nat} {e : TypeId} {size : Nat} {A : Option Addr} {n c : Nat} {xs : List Value} (h : Own w base e size A n c xs) {m : Nat} (hm : m ≤ n) : Own w base e size A m m (xs.take (m * size)) := by
  have hc := h.le
  refine ⟨by rw [List.length_take, h.len]; exact Nat.min_eq_left (Nat.mul_le_mul_right _ hm), Nat.le_refl _, Nat.le_trans (Nat.le_trans hm hc) h.cap, fun e => by have := h.nil e; omega, fun a ha => ?_⟩
  obtain ⟨cur, hs, hb, hh, hsz, hx⟩ := h.at_ a ha
  have hmc : m * size ≤ c * size := Nat.mul_le_mul_right _ (Nat.le_trans hm hc)
  refine ⟨cur, hs, hb, hh, by omega, fun i u hu => hx i u ?_⟩
  rw [List.getElem?_take] at hu
  split at hu
  · exact hu
  · cases hu
/-- Which key has this id. -/
def kfind (L : List Ky) (id : Int) : Option Nat := L.findIdx? fun x => x.id == id
theorem kfind_some {L : List Ky} {id : Int} {i : Nat} {x : Ky} (h : L[i]? = some x) (hx : x.id = id) (hb : ∀ a y, a < i → L[a]? = some y → y.id ≠ id) : kfind L id = some i := by
  obtain ⟨hi, rfl⟩ := List.getElem?_eq_some_iff.1 h
  unfold kfind
  rw [List.findIdx?_eq_some_iff_getElem]
  refine ⟨hi, by simpa using hx, fun j hj => ?_⟩
  have := hb j _ hj (List.getElem?_eq_getElem (by omega))
  simpa using this
theorem kfind_none {L : List Ky} {id : Int} (hb : ∀ (a : Nat) (y : Ky), L[a]? = some y → y.id ≠ id) : kfind L id = none := by
  unfold kfind
  rw [List.findIdx?_eq_none_iff]
  intro x hx
  obtain ⟨j, hj, rfl⟩ := List.mem_iff_getElem.1 hx
  have := hb j _ (List.getElem?_eq_getElem hj)
  simpa using this
def dropR (L : List Ky) (id : Int) : List Ky × Int := if ringOk L then (match kfind L id with | none => (L, 10) | some i => (L.eraseIdx i, 0)) else ([], 11)
theorem erase_at {α : Type} {l : List α} {i a : Nat} {x : α} (h : (l.eraseIdx i)[a]? = some x) : l[if a < i then a else a + 1]? = some x := by
  rw [List.getElem?_eraseIdx] at h
  split at h
  · rename_i h2; rw [if_pos h2]; exact h
  · rename_i h2; rw [if_neg h2]; exact h
theorem OwnWords.erase {w : World} {base : Nat} {l : List KyR} (h : OwnWords w base l) (i : Nat) : OwnWords w base (l.eraseIdx i) :=
  h.sub (fun a => if a < i then a else a + 1) (fun a b hab => by split <;> split <;> omega) (fun a x hx => erase_at hx)
theorem map_erase {α β : Type} (f : α → β) : ∀ (l : List α) (i : Nat), (l.eraseIdx i).map f = (l.map f).eraseIdx i
  | [], i => by simp
  | x :: l, 0 => by simp
  | x :: l, i + 1 => by simp [map_erase f l i]
/-- Results: a ring in memory of its own, and an error. -/
def RingRes (w w' : World) (r : List Ky × Int) (e : Ending) : Prop :=
  ∃ B c, e = .returned (.tuple #[.agg #[.slice B r.1.length c], .int .i64 r.2]) ∧ OwnRing w' w.heap.size B r.1.length c r.1 ∧ Below w.heap.size w w'
theorem RingRes.none_ {w w' : World} {k : Int} (h : Below w.heap.size w w') : RingRes w w' ([], k) (.returned (.tuple #[.agg #[.slice none 0 0], .int .i64 k])) := ⟨none, 0, rfl, ⟨[], rfl, Own.none_ _ _ _ _, OwnWords.nil _ _⟩, h⟩
end Go.Proofs.Ytkbaganbfcbioaa
