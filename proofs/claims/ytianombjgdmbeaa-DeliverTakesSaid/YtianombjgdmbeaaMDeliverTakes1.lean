/-
  Words for memory that all texts of this seat use: a slice that reads as a list (Rd), a slice of the call's own (Own), append onto it, worlds that differ in few blocks. No program is named here. What the helpers of the laws do (same.go): a roomy copy of bytes, whether it was left as it was, two lists of bytes that are the same, bytes written over by their owner.
-/
import Derived.WalkKit
import Derived.Maps.AppendAt
import Derived.Deep.AppendLies
import Derived.Deep.Draws
import Derived.Laws.CopyOwn
import Derived.Lib.Hide
import Derived.Test.YtianombjgdmbeaaChecked
import Derived.Deep.QuietTactic
import Derived.BigQuiet
import Derived.Deep.LoopGhost
import Derived.Deep.OwnRows
namespace Go.Proofs.Ytianombjgdmbeaa
set_option linter.unusedSimpArgs false
set_option linter.unusedVariables false
open Go.RowKit

/-! ### bytes -/
/-- A byte as the model's value. -/
def bv (x : UInt8) : Value := .int .u8 (x.toNat : Int)
def bvs (l : List UInt8) : List Value := l.map bv
/-- An int as the model's value. -/
def iv (x : Int) : Value := .int .i64 x
def ivs (l : List Int) : List Value := l.map iv
theorem bvs_length (l : List UInt8) : (bvs l).length = l.length := by simp [bvs]
theorem ivs_length (l : List Int) : (ivs l).length = l.length := by simp [ivs]
theorem bvs_append (a b : List UInt8) : bvs (a ++ b) = bvs a ++ bvs b := by simp [bvs]
theorem ivs_append (a b : List Int) : ivs (a ++ b) = ivs a ++ ivs b := by simp [ivs]
theorem bvs_get {l : List UInt8} {k : Nat} (h : k < l.length) : (bvs l)[k]? = some (.int .u8 (l[k].toNat : Int)) := by simp [bvs, bv, h]
theorem ivs_get {l : List Int} {k : Nat} (h : k < l.length) : (ivs l)[k]? = some (.int .i64 l[k]) := by simp [ivs, iv, h]
theorem bvs_one (l : List UInt8) : ∀ u ∈ bvs l, u.oneCell' = true := by
  intro u hu
  simp only [bvs, List.mem_map] at hu
  obtain ⟨x, _, rfl⟩ := hu
  rfl
theorem ivs_one (l : List Int) : ∀ u ∈ ivs l, u.oneCell' = true := by
  intro u hu
  simp only [ivs, List.mem_map] at hu
  obtain ⟨x, _, rfl⟩ := hu
  rfl
theorem byte_lt (x : UInt8) : x.toNat < 256 := x.toNat_lt

theorem ret_int {k : IntKind} {a b : Int} (h : a = b) : Ending.returned (.int k a) = .returned (.int k b) := by rw [h]
theorem ret_bool {a b : Bool} (h : a = b) : Ending.returned (.bool a) = .returned (.bool b) := by rw [h]

/-! ### a slice that reads as a list of cells -/
def Rd (w : World) (A : Option Addr) (xs : List Value) : Prop :=
  ∀ (i : Nat) (u : Value), xs[i]? = some u → ∃ b off, A = some ⟨b, off, none⟩ ∧ w.cell? ⟨b, off + i, none⟩ = some u

/-- The block of a slice's address. -/
def blk (A : Option Addr) : Option Nat := A.map Addr.block

section
variable {w w' : World} {A : Option Addr} {xs ys : List Value} {l : List UInt8} {z : List Int} {k : Nat}
theorem Rd.nil (w : World) (A : Option Addr) : Rd w A [] := fun i u h => by simp at h
theorem Rd.byte (h : Rd w A (bvs l)) (hk : k < l.length) : ∃ b off, A = some ⟨b, off, none⟩ ∧ w.cell? ⟨b, off + k, none⟩ = some (.int .u8 (l[k].toNat : Int)) := h k _ (bvs_get hk)
theorem Rd.int (h : Rd w A (ivs z)) (hk : k < z.length) : ∃ b off, A = some ⟨b, off, none⟩ ∧ w.cell? ⟨b, off + k, none⟩ = some (.int .i64 z[k]) := h k _ (ivs_get hk)
theorem Rd.cell {b off : Nat} (h : Rd w (some ⟨b, off, none⟩) xs) {u : Value} (hk : xs[k]? = some u) : w.cell? ⟨b, off + k, none⟩ = some u := by
  obtain ⟨b', o', e, hc⟩ := h k u hk
  injection e with e
  injection e with e1 e2
  subst e1
  subst e2
  exact hc
theorem Rd.keep (h : Rd w A xs) (hk : ∀ a, A = some a → a.block < w.heap.size → w'.heap[a.block]? = w.heap[a.block]?) : Rd w' A xs := by
  intro i u hu
  obtain ⟨b, off, e, hc⟩ := h i u hu
  refine ⟨b, off, e, ?_⟩
  have hb := World.block_lt_of_cell? _ _ hc
  exact (World.cell?_of_block (w := w) (a := ⟨b, off + i, none⟩) (hk ⟨b, off, none⟩ e hb)).trans hc
theorem Rd.below (h : Rd w A xs) (hb : Below w.heap.size w w') : Rd w' A xs := h.keep fun _ _ hl => hb.block _ hl
theorem Rd.belowN {N : Nat} (h : Rd w A xs) (hb : Below N w w') (hN : ∀ k, blk A = some k → k < N) : Rd w' A xs :=
  h.keep fun a e _ => hb.block _ (hN _ (by simp [blk, e]))
theorem Rd.grown {row : Option Nat} (h : Rd w A xs) (hg : w.grownBy w' row) (hne : ∀ k, row = some k → blk A ≠ some k) : Rd w' A xs := by
  refine h.keep fun a e hl => hg.block _ hl fun e2 => ?_
  exact hne _ e2.symm (by simp [blk, e])
theorem Rd.drewN (h : Rd w A xs) (n : Nat) : Rd (w.drewN n) A xs := h
theorem Rd.drew (h : Rd w A xs) : Rd w.drew A xs := h
theorem Rd.alloc (h : Rd w A xs) (o : Obj) : Rd (w.alloc o) A xs := h.keep fun a _ hl => Below.heap_alloc w o a.block hl
theorem Rd.setCell (h : Rd w A xs) {p : Addr} (hp : blk A ≠ some p.block) (u : Value) : Rd (w.setCell p u) A xs :=
  h.keep fun a e _ => Below.heap_setCell w p u a.block (fun e2 => hp (by rw [← e2]; simp [blk, e]))
theorem Rd.take (h : Rd w A xs) (n : Nat) : Rd w A (xs.take n) := fun i u hu => h i u (by
  rw [List.getElem?_take] at hu
  split at hu
  · exact hu
  · cases hu)
theorem Rd.of_append (h : Rd w A (xs ++ ys)) : Rd w A xs := fun i u hu => h i u (by
  rw [List.getElem?_append_left (by
    rcases Nat.lt_or_ge i xs.length with hl | hl
    · exact hl
    · rw [List.getElem?_eq_none hl] at hu; cases hu)]
  exact hu)
/-- A cut 's[k:]' of a slice whose elements have 'size' cells; at the capacity's end the address stays. -/
theorem Rd.drop (h : Rd w A xs) (m : Nat) : Rd w (A.map (·.add m)) (xs.drop m) := by
  intro i u hu
  rw [List.getElem?_drop] at hu
  obtain ⟨b, off, e, hc⟩ := h _ u hu
  refine ⟨b, off + m, by simp [e, Addr.add_lit], ?_⟩
  rw [Nat.add_assoc]
  exact hc
theorem Rd.drop_lit {b off : Nat} (h : Rd w (some ⟨b, off, none⟩) xs) (m : Nat) : Rd w (some ⟨b, off + m, none⟩) (xs.drop m) := by
  have := h.drop m
  simpa [Addr.add_lit] using this
theorem Rd.of_block {g o : Nat} {cur : Array Value} {e : TypeId} {fr : Nat × Nat} (hg : w.heap[g]? = some (.cells cur e fr)) (hx : ∀ i u, xs[i]? = some u → cur[o + i]? = some u) : Rd w (some ⟨g, o, none⟩) xs := by
  intro i u hu
  refine ⟨g, o, rfl, ?_⟩
  rw [cell_of_row w g (o + i) cur e fr hg]
  exact hx i u hu
end

/-! ### a slice of the call's own: its block lies from 'base' on, none of it is frozen -/
structure Own (w : World) (base : Nat) (e : TypeId) (size : Nat) (A : Option Addr) (n c : Nat) (xs : List Value) : Prop where
  len : xs.length = n * size
  le : n ≤ c
  cap : c ≤ maxLen
  nil : A = none → c = 0
  at_ : ∀ a, A = some a → ∃ cur, a.spot = none ∧ base ≤ a.block ∧ w.heap[a.block]? = some (.cells cur e (0, 0)) ∧ a.off + c * size ≤ cur.size ∧ ∀ (i : Nat) (u : Value), xs[i]? = some u → cur[a.off + i]? = some u

section
variable {w w' : World} {base : Nat} {e : TypeId} {size : Nat} {A : Option Addr} {n c : Nat} {xs : List Value}
theorem Own.rd (h : Own w base e size A n c xs) : Rd w A xs := by
  intro i u hu
  rcases A with _ | ⟨b, off, spot⟩
  · have hc := h.nil rfl
    have h1 := h.le
    have h2 := h.len
    obtain rfl : n = 0 := by omega
    have : xs = [] := List.eq_nil_of_length_eq_zero (by simpa using h2)
    subst this
    simp at hu
  · obtain ⟨cur, hs, _, hh, _, hx⟩ := h.at_ _ rfl
    simp only at hs
    subst hs
    refine ⟨b, off, rfl, ?_⟩
    rw [cell_of_row w b (off + i) cur e (0, 0) hh]
    exact hx i u hu
theorem Own.none_ (w : World) (base : Nat) (e : TypeId) (size : Nat) : Own w base e size none 0 0 [] :=
  ⟨by simp, Nat.le_refl _, Nat.zero_le _, fun _ => rfl, (fun a ha => by cases ha)⟩
theorem Own.keep (h : Own w base e size A n c xs) (hk : ∀ a, A = some a → a.block < w.heap.size → w'.heap[a.block]? = w.heap[a.block]?) : Own w' base e size A n c xs := by
  refine ⟨h.len, h.le, h.cap, h.nil, fun a ha => ?_⟩
  obtain ⟨cur, hs, hb, hh, hsz, hx⟩ := h.at_ a ha
  exact ⟨cur, hs, hb, (hk a ha (lt_of_block hh)).trans hh, hsz, hx⟩
theorem Own.below (h : Own w base e size A n c xs) (hb : Below w.heap.size w w') : Own w' base e size A n c xs := h.keep fun _ _ hl => hb.block _ hl
theorem Own.grown {row : Option Nat} (h : Own w base e size A n c xs) (hg : w.grownBy w' row) (hne : ∀ k, row = some k → blk A ≠ some k) : Own w' base e size A n c xs :=
  h.keep fun a ha hl => hg.block _ hl fun e2 => hne _ e2.symm (by simp [blk, ha])
theorem Own.alloc (h : Own w base e size A n c xs) (o : Obj) : Own (w.alloc o) base e size A n c xs := h.keep fun a _ hl => Below.heap_alloc w o a.block hl
theorem Own.drew (h : Own w base e size A n c xs) : Own w.drew base e size A n c xs := h.keep fun _ _ _ => rfl
theorem Own.drewN (h : Own w base e size A n c xs) (k : Nat) : Own (w.drewN k) base e size A n c xs := h.keep fun _ _ _ => rfl
theorem Own.setFar (h : Own w base e size A n c xs) {p : Addr} (hp : blk A ≠ some p.block) (u : Value) : Own (w.setCell p u) base e size A n c xs :=
  h.keep fun a ha _ => Below.heap_setCell w p u a.block (fun e2 => hp (by rw [← e2]; simp [blk, ha]))
theorem Own.mono {base' : Nat} (h : Own w base e size A n c xs) (hb : base' ≤ base) : Own w base' e size A n c xs := by
  refine ⟨h.len, h.le, h.cap, h.nil, fun a ha => ?_⟩
  obtain ⟨cur, hs, hb2, r⟩ := h.at_ a ha
  exact ⟨cur, hs, by omega, r⟩
theorem Own.lt (h : Own w base e size A n c xs) : ∀ k, blk A = some k → base ≤ k ∧ k < w.heap.size := by
  intro k hk
  rcases A with _ | a
  · simp [blk] at hk
  · obtain ⟨cur, _, hb, hh, _⟩ := h.at_ a rfl
    have : a.block = k := by simpa [blk] using hk
    subst this
    exact ⟨hb, lt_of_block hh⟩
/-- Where there is an element, its address is plain. -/
theorem Own.form (h : Own w base e size A n c xs) (hc : 0 < c) : ∃ g off, A = some ⟨g, off, none⟩ ∧ base ≤ g ∧ g < w.heap.size := by
  rcases A with _ | ⟨g, off, spot⟩
  · have := h.nil rfl; omega
  · obtain ⟨cur, hs, hb, hh, _⟩ := h.at_ _ rfl
    simp only at hs
    subst hs
    exact ⟨g, off, rfl, hb, lt_of_block hh⟩
theorem Own.frozen {g off : Nat} (h : Own w base e size (some ⟨g, off, none⟩) n c xs) (i : Nat) : w.frozen? ⟨g, i, none⟩ = false := by
  obtain ⟨cur, _, _, hh, _⟩ := h.at_ _ rfl
  simp [World.frozen?, hh]
theorem Own.cell {g off : Nat} (h : Own w base e size (some ⟨g, off, none⟩) n c xs) {i : Nat} {u : Value} (hu : xs[i]? = some u) : w.cell? ⟨g, off + i, none⟩ = some u := h.rd.cell hu
/-- A store of an element's cell. -/
theorem Own.set {g off : Nat} (h : Own w base e size (some ⟨g, off, none⟩) n c xs) (i : Nat) (hi : i < n * size) (u : Value) : Own (w.setCell ⟨g, off + i, none⟩ u) base e size (some ⟨g, off, none⟩) n c (xs.set i u) := by
  obtain ⟨cur, hs, hb, hh, hsz, hx⟩ := h.at_ _ rfl
  refine ⟨by rw [List.length_set]; exact h.len, h.le, h.cap, (fun e => by cases e), fun a ha => ?_⟩
  injection ha with ha
  subst ha
  refine ⟨cur.setIfInBounds (off + i) u, rfl, hb, ?_, by simpa using hsz, fun j v hj => ?_⟩
  · simp [World.setCell, Array.getElem?_modify, hh]
  · have hle : off + i < cur.size := by
      have := Nat.mul_le_mul_right size h.le
      simp only at hsz
      omega
    by_cases he : j = i
    · subst he
      rw [List.getElem?_set_self (by rw [h.len]; exact hi)] at hj
      simp only
      rw [Array.getElem?_setIfInBounds_self, if_pos hle, hj]
    · rw [List.getElem?_set_ne (by omega)] at hj
      simp only
      rw [Array.getElem?_setIfInBounds_ne (by omega)]
      exact hx j v hj
/-- The first elements alone, 's[:m]'. -/
theorem Own.cut (h : Own w base e size A n c xs) {m : Nat} (hm : m ≤ n) : Own w base e size A m c (xs.take (m * size)) := by
  refine ⟨by rw [List.length_take, h.len]; exact Nat.min_eq_left (Nat.mul_le_mul_right _ hm), Nat.le_trans hm h.le, h.cap, h.nil, fun a ha => ?_⟩
  obtain ⟨cur, hs, hb, hh, hsz, hx⟩ := h.at_ a ha
  refine ⟨cur, hs, hb, hh, hsz, fun i u hu => hx i u ?_⟩
  rw [List.getElem?_take] at hu
  split at hu
  · exact hu
  · cases hu
theorem Own.byteAt {g off : Nat} {l : List UInt8} (h : Own w base e 1 (some ⟨g, off, none⟩) n c (bvs l)) {k : Nat} (hk : k < n) : ∃ x : UInt8, l[k]? = some x ∧ w.cell? ⟨g, off + k, none⟩ = some (.int .u8 (x.toNat : Int)) := by
  have hl : k < l.length := by have := h.len; rw [bvs_length] at this; omega
  exact ⟨l[k], List.getElem?_eq_getElem hl, h.cell (bvs_get hl)⟩
theorem Own.intAt {g off : Nat} {l : List Int} (h : Own w base e 1 (some ⟨g, off, none⟩) n c (ivs l)) {k : Nat} (hk : k < n) : ∃ x : Int, l[k]? = some x ∧ w.cell? ⟨g, off + k, none⟩ = some (.int .i64 x) := by
  have hl : k < l.length := by have := h.len; rw [ivs_length] at this; omega
  exact ⟨l[k], List.getElem?_eq_getElem hl, h.cell (ivs_get hl)⟩
theorem Own.setB {g off : Nat} {l : List UInt8} (h : Own w base e 1 (some ⟨g, off, none⟩) n c (bvs l)) {k : Nat} (hk : k < n) (x : UInt8) : Own (w.setCell ⟨g, off + k, none⟩ (.int .u8 (x.toNat : Int))) base e 1 (some ⟨g, off, none⟩) n c (bvs (l.set k x)) := by
  have := h.set k (by omega) (bv x)
  rwa [show (bvs l).set k (bv x) = bvs (l.set k x) from by simp [bvs, List.map_set]] at this
theorem Own.setI {g off : Nat} {l : List Int} (h : Own w base e 1 (some ⟨g, off, none⟩) n c (ivs l)) {k : Nat} (hk : k < n) (x : Int) : Own (w.setCell ⟨g, off + k, none⟩ (.int .i64 x)) base e 1 (some ⟨g, off, none⟩) n c (ivs (l.set k x)) := by
  have := h.set k (by omega) (iv x)
  rwa [show (ivs l).set k (iv x) = ivs (l.set k x) from by simp [ivs, List.map_set]] at this
/-- A block that is known whole, read from its head. -/
theorem Own.of_block {g : Nat} {cur : Array Value} (hg : w.heap[g]? = some (.cells cur e (0, 0))) (hb : base ≤ g) (hl : xs.length = n * size) (hle : n ≤ c) (hc : c ≤ maxLen) (hs : c * size ≤ cur.size)
    (hx : ∀ (i : Nat) (u : Value), xs[i]? = some u → cur[i]? = some u) : Own w base e size (some ⟨g, 0, none⟩) n c xs :=
  ⟨hl, hle, hc, (fun e => by cases e), fun a ha => by
    injection ha with ha
    subst ha
    exact ⟨cur, rfl, hb, hg, by simpa using hs, fun i u hu => by simpa using hx i u hu⟩⟩
end

/-! ### a block that is known whole -/
def Blk (w : World) (g : Nat) (t : TypeId) (cs : Array Value) : Prop := w.heap[g]? = some (.cells cs t (0, 0))
section
variable {w w' : World} {g : Nat} {t : TypeId} {cs : Array Value}
theorem Blk.lt (h : Blk w g t cs) : g < w.heap.size := lt_of_block h
theorem Blk.cell (h : Blk w g t cs) (i : Nat) : w.cell? ⟨g, i, none⟩ = cs[i]? := cell_of_row w g i cs t (0, 0) h
theorem Blk.cell' (h : Blk w g t cs) {i : Nat} {u : Value} (hu : cs[i]? = some u) : w.cell? ⟨g, i, none⟩ = some u := (h.cell i).trans hu
theorem Blk.frozen (h : Blk w g t cs) (i : Nat) : w.frozen? ⟨g, i, none⟩ = false := by
  unfold Blk at h
  simp [World.frozen?, h]
theorem Blk.new (w : World) (t : TypeId) (cs : Array Value) : Blk (w.alloc (.cells cs t)) w.heap.size t cs := heap_alloc_new w _
theorem Blk.drew (h : Blk w g t cs) : Blk w.drew g t cs := h
theorem Blk.drewN (h : Blk w g t cs) (n : Nat) : Blk (w.drewN n) g t cs := h
theorem Blk.alloc (h : Blk w g t cs) (o : Obj) : Blk (w.alloc o) g t cs := (Below.heap_alloc w o g h.lt).trans h
theorem Blk.set_ (h : Blk w g t cs) (i : Nat) (u : Value) : Blk (w.setCell ⟨g, i, none⟩ u) g t (cs.setIfInBounds i u) := by
  unfold Blk at h ⊢
  simp [World.setCell, Array.getElem?_modify, h]
theorem Blk.far (h : Blk w g t cs) {p : Addr} (hp : g ≠ p.block) (u : Value) : Blk (w.setCell p u) g t cs := (Below.heap_setCell w p u g hp).trans h
theorem Blk.below {B : Nat} (h : Blk w g t cs) (hb : Below B w w') (hg : g < B) : Blk w' g t cs := (hb.block g hg).trans h
theorem Blk.below' (h : Blk w g t cs) (hb : Below w.heap.size w w') : Blk w' g t cs := (hb.block g h.lt).trans h
theorem Blk.grown {row : Option Nat} (h : Blk w g t cs) (hb : w.grownBy w' row) (hg : some g ≠ row) : Blk w' g t cs := (hb.block g h.lt hg).trans h
theorem Blk.one {v0 : Value} (h : Blk w g t #[v0]) : w.cell? ⟨g, 0, none⟩ = some v0 ∧ ∀ i, w.frozen? ⟨g, i, none⟩ = false :=
  ⟨h.cell' rfl, h.frozen⟩
theorem Blk.two {v0 v1 : Value} (h : Blk w g t #[v0, v1]) : w.cell? ⟨g, 0, none⟩ = some v0 ∧ w.cell? ⟨g, 1, none⟩ = some v1 ∧ ∀ i, w.frozen? ⟨g, i, none⟩ = false :=
  ⟨h.cell' rfl, h.cell' rfl, h.frozen⟩
theorem Blk.three {v0 v1 v2 : Value} (h : Blk w g t #[v0, v1, v2]) : w.cell? ⟨g, 0, none⟩ = some v0 ∧ w.cell? ⟨g, 1, none⟩ = some v1 ∧ w.cell? ⟨g, 2, none⟩ = some v2 ∧ ∀ i, w.frozen? ⟨g, i, none⟩ = false :=
  ⟨h.cell' rfl, h.cell' rfl, h.cell' rfl, h.frozen⟩
theorem Blk.four {v0 v1 v2 v3 : Value} (h : Blk w g t #[v0, v1, v2, v3]) : w.cell? ⟨g, 0, none⟩ = some v0 ∧ w.cell? ⟨g, 1, none⟩ = some v1 ∧ w.cell? ⟨g, 2, none⟩ = some v2 ∧ w.cell? ⟨g, 3, none⟩ = some v3 ∧ ∀ i, w.frozen? ⟨g, i, none⟩ = false :=
  ⟨h.cell' rfl, h.cell' rfl, h.cell' rfl, h.cell' rfl, h.frozen⟩
theorem Blk.five {v0 v1 v2 v3 v4 : Value} (h : Blk w g t #[v0, v1, v2, v3, v4]) : w.cell? ⟨g, 0, none⟩ = some v0 ∧ w.cell? ⟨g, 1, none⟩ = some v1 ∧ w.cell? ⟨g, 2, none⟩ = some v2 ∧ w.cell? ⟨g, 3, none⟩ = some v3 ∧ w.cell? ⟨g, 4, none⟩ = some v4 ∧ ∀ i, w.frozen? ⟨g, i, none⟩ = false :=
  ⟨h.cell' rfl, h.cell' rfl, h.cell' rfl, h.cell' rfl, h.cell' rfl, h.frozen⟩
theorem Blk.six {v0 v1 v2 v3 v4 v5 : Value} (h : Blk w g t #[v0, v1, v2, v3, v4, v5]) : w.cell? ⟨g, 0, none⟩ = some v0 ∧ w.cell? ⟨g, 1, none⟩ = some v1 ∧ w.cell? ⟨g, 2, none⟩ = some v2 ∧ w.cell? ⟨g, 3, none⟩ = some v3 ∧ w.cell? ⟨g, 4, none⟩ = some v4 ∧ w.cell? ⟨g, 5, none⟩ = some v5 ∧ ∀ i, w.frozen? ⟨g, i, none⟩ = false :=
  ⟨h.cell' rfl, h.cell' rfl, h.cell' rfl, h.cell' rfl, h.cell' rfl, h.cell' rfl, h.frozen⟩
theorem Blk.seven {v0 v1 v2 v3 v4 v5 v6 : Value} (h : Blk w g t #[v0, v1, v2, v3, v4, v5, v6]) : w.cell? ⟨g, 0, none⟩ = some v0 ∧ w.cell? ⟨g, 1, none⟩ = some v1 ∧ w.cell? ⟨g, 2, none⟩ = some v2 ∧ w.cell? ⟨g, 3, none⟩ = some v3 ∧ w.cell? ⟨g, 4, none⟩ = some v4 ∧ w.cell? ⟨g, 5, none⟩ = some v5 ∧ w.cell? ⟨g, 6, none⟩ = some v6 ∧ ∀ i, w.frozen? ⟨g, i, none⟩ = false :=
  ⟨h.cell' rfl, h.cell' rfl, h.cell' rfl, h.cell' rfl, h.cell' rfl, h.cell' rfl, h.cell' rfl, h.frozen⟩
theorem Blk.eight {v0 v1 v2 v3 v4 v5 v6 v7 : Value} (h : Blk w g t #[v0, v1, v2, v3, v4, v5, v6, v7]) : w.cell? ⟨g, 0, none⟩ = some v0 ∧ w.cell? ⟨g, 1, none⟩ = some v1 ∧ w.cell? ⟨g, 2, none⟩ = some v2 ∧ w.cell? ⟨g, 3, none⟩ = some v3 ∧ w.cell? ⟨g, 4, none⟩ = some v4 ∧ w.cell? ⟨g, 5, none⟩ = some v5 ∧ w.cell? ⟨g, 6, none⟩ = some v6 ∧ w.cell? ⟨g, 7, none⟩ = some v7 ∧ ∀ i, w.frozen? ⟨g, i, none⟩ = false :=
  ⟨h.cell' rfl, h.cell' rfl, h.cell' rfl, h.cell' rfl, h.cell' rfl, h.cell' rfl, h.cell' rfl, h.cell' rfl, h.frozen⟩
theorem Blk.nine {v0 v1 v2 v3 v4 v5 v6 v7 v8 : Value} (h : Blk w g t #[v0, v1, v2, v3, v4, v5, v6, v7, v8]) : w.cell? ⟨g, 0, none⟩ = some v0 ∧ w.cell? ⟨g, 1, none⟩ = some v1 ∧ w.cell? ⟨g, 2, none⟩ = some v2 ∧ w.cell? ⟨g, 3, none⟩ = some v3 ∧ w.cell? ⟨g, 4, none⟩ = some v4 ∧ w.cell? ⟨g, 5, none⟩ = some v5 ∧ w.cell? ⟨g, 6, none⟩ = some v6 ∧ w.cell? ⟨g, 7, none⟩ = some v7 ∧ w.cell? ⟨g, 8, none⟩ = some v8 ∧ ∀ i, w.frozen? ⟨g, i, none⟩ = false :=
  ⟨h.cell' rfl, h.cell' rfl, h.cell' rfl, h.cell' rfl, h.cell' rfl, h.cell' rfl, h.cell' rfl, h.cell' rfl, h.cell' rfl, h.frozen⟩
theorem Blk.ten {v0 v1 v2 v3 v4 v5 v6 v7 v8 v9 : Value} (h : Blk w g t #[v0, v1, v2, v3, v4, v5, v6, v7, v8, v9]) : w.cell? ⟨g, 0, none⟩ = some v0 ∧ w.cell? ⟨g, 1, none⟩ = some v1 ∧ w.cell? ⟨g, 2, none⟩ = some v2 ∧ w.cell? ⟨g, 3, none⟩ = some v3 ∧ w.cell? ⟨g, 4, none⟩ = some v4 ∧ w.cell? ⟨g, 5, none⟩ = some v5 ∧ w.cell? ⟨g, 6, none⟩ = some v6 ∧ w.cell? ⟨g, 7, none⟩ = some v7 ∧ w.cell? ⟨g, 8, none⟩ = some v8 ∧ w.cell? ⟨g, 9, none⟩ = some v9 ∧ ∀ i, w.frozen? ⟨g, i, none⟩ = false :=
  ⟨h.cell' rfl, h.cell' rfl, h.cell' rfl, h.cell' rfl, h.cell' rfl, h.cell' rfl, h.cell' rfl, h.cell' rfl, h.cell' rfl, h.cell' rfl, h.frozen⟩
theorem Blk.eleven {v0 v1 v2 v3 v4 v5 v6 v7 v8 v9 v10 : Value} (h : Blk w g t #[v0, v1, v2, v3, v4, v5, v6, v7, v8, v9, v10]) : w.cell? ⟨g, 0, none⟩ = some v0 ∧ w.cell? ⟨g, 1, none⟩ = some v1 ∧ w.cell? ⟨g, 2, none⟩ = some v2 ∧ w.cell? ⟨g, 3, none⟩ = some v3 ∧ w.cell? ⟨g, 4, none⟩ = some v4 ∧ w.cell? ⟨g, 5, none⟩ = some v5 ∧ w.cell? ⟨g, 6, none⟩ = some v6 ∧ w.cell? ⟨g, 7, none⟩ = some v7 ∧ w.cell? ⟨g, 8, none⟩ = some v8 ∧ w.cell? ⟨g, 9, none⟩ = some v9 ∧ w.cell? ⟨g, 10, none⟩ = some v10 ∧ ∀ i, w.frozen? ⟨g, i, none⟩ = false :=
  ⟨h.cell' rfl, h.cell' rfl, h.cell' rfl, h.cell' rfl, h.cell' rfl, h.cell' rfl, h.cell' rfl, h.cell' rfl, h.cell' rfl, h.cell' rfl, h.cell' rfl, h.frozen⟩
theorem Blk.twelve {v0 v1 v2 v3 v4 v5 v6 v7 v8 v9 v10 v11 : Value} (h : Blk w g t #[v0, v1, v2, v3, v4, v5, v6, v7, v8, v9, v10, v11]) : w.cell? ⟨g, 0, none⟩ = some v0 ∧ w.cell? ⟨g, 1, none⟩ = some v1 ∧ w.cell? ⟨g, 2, none⟩ = some v2 ∧ w.cell? ⟨g, 3, none⟩ = some v3 ∧ w.cell? ⟨g, 4, none⟩ = some v4 ∧ w.cell? ⟨g, 5, none⟩ = some v5 ∧ w.cell? ⟨g, 6, none⟩ = some v6 ∧ w.cell? ⟨g, 7, none⟩ = some v7 ∧ w.cell? ⟨g, 8, none⟩ = some v8 ∧ w.cell? ⟨g, 9, none⟩ = some v9 ∧ w.cell? ⟨g, 10, none⟩ = some v10 ∧ w.cell? ⟨g, 11, none⟩ = some v11 ∧ ∀ i, w.frozen? ⟨g, i, none⟩ = false :=
  ⟨h.cell' rfl, h.cell' rfl, h.cell' rfl, h.cell' rfl, h.cell' rfl, h.cell' rfl, h.cell' rfl, h.cell' rfl, h.cell' rfl, h.cell' rfl, h.cell' rfl, h.cell' rfl, h.frozen⟩
theorem Blk.thirteen {v0 v1 v2 v3 v4 v5 v6 v7 v8 v9 v10 v11 v12 : Value} (h : Blk w g t #[v0, v1, v2, v3, v4, v5, v6, v7, v8, v9, v10, v11, v12]) : w.cell? ⟨g, 0, none⟩ = some v0 ∧ w.cell? ⟨g, 1, none⟩ = some v1 ∧ w.cell? ⟨g, 2, none⟩ = some v2 ∧ w.cell? ⟨g, 3, none⟩ = some v3 ∧ w.cell? ⟨g, 4, none⟩ = some v4 ∧ w.cell? ⟨g, 5, none⟩ = some v5 ∧ w.cell? ⟨g, 6, none⟩ = some v6 ∧ w.cell? ⟨g, 7, none⟩ = some v7 ∧ w.cell? ⟨g, 8, none⟩ = some v8 ∧ w.cell? ⟨g, 9, none⟩ = some v9 ∧ w.cell? ⟨g, 10, none⟩ = some v10 ∧ w.cell? ⟨g, 11, none⟩ = some v11 ∧ w.cell? ⟨g, 12, none⟩ = some v12 ∧ ∀ i, w.frozen? ⟨g, i, none⟩ = false :=
  ⟨h.cell' rfl, h.cell' rfl, h.cell' rfl, h.cell' rfl, h.cell' rfl, h.cell' rfl, h.cell' rfl, h.cell' rfl, h.cell' rfl, h.cell' rfl, h.cell' rfl, h.cell' rfl, h.cell' rfl, h.frozen⟩
end

theorem map_block_of_some {A : Option Addr} {a : Addr} (h : A = some a) : blk A = some a.block := by simp [blk, h]

/-! ### append onto a slice of the call's own, from whatever source -/
section
variable {P : Program} (w : World)
theorem Rd.news {A : Option Addr} {xs : List Value} {w : World} (h : Rd w A xs) {a : Addr} (e : A = some a) : ∀ j u, xs[j]? = some u → w.cell? (a.add j) = some u := by
  intro j u hu
  obtain ⟨b, off, e2, hc⟩ := h j u hu
  rw [e] at e2
  injection e2 with e2
  subst e2
  rw [Addr.add_lit]
  exact hc
theorem run_first (size m : Nat) (A : Option Addr) (len cap : Nat) (xs : List Value) (hl : xs.length = m * size) (h : Rd w A xs) :
    (Builtin.firstCells size m (.slice A len cap)).run P w = .ok xs.toArray w := by
  rcases A with _ | a
  · rcases xs with _ | ⟨u, t⟩
    · exact run_firstCells_none (P := P) w size m len cap
    · obtain ⟨b, off, e, _⟩ := h 0 u rfl
      cases e
  · exact run_firstCells_some (P := P) w size m a len cap xs hl (h.news rfl)

theorem run_append_Own (base : Nat) (t ty e : TypeId) (i : TypeInfo) (z : Value) (size bytes : Nat) (ht : P.underlying t = some (.slice e)) (hi : P.info? e = some i) (hz : i.zero = some z)
    (hsize : i.size = size) (hby : i.bytes = bytes) (hzs : z.cells.size = size)
    (A : Option Addr) (n c : Nat) (xs : List Value) (hown : Own w base e size A n c xs)
    (A2 : Option Addr) (m c2 : Nat) (news : List Value) (hl : news.length = m * size) (hR : Rd w A2 news) (h1 : ∀ u ∈ news, u.oneCell' = true)
    (h63 : n + m ≤ maxLen) (hbytes : (n + m) * bytes ≤ 140737488355328) (hbase : base ≤ w.heap.size) :
    ∃ A' c' w', (Builtin.append_ #[t, t] ty #[.slice A n c, .slice A2 m c2]).run P w = .ok (.slice A' (n + m) c') w' ∧ Own w' base e size A' (n + m) c' (xs ++ news) ∧ w.grownBy w' (blk A) ∧
      (A' = A ∨ blk A' = some w.heap.size) := by
  subst hsize
  subst hby
  have hf := fun W (hW : Rd W A2 news) => run_first (P := P) W i.size m A2 m c2 news hl hW
  have hlen : (xs ++ news).length = (n + m) * i.size := by rw [List.length_append, hown.len, hl, Nat.add_mul]
  by_cases hroom : n + m ≤ c
  · rcases A with _ | ⟨g, off, spot⟩
    · have hc0 := hown.nil rfl
      subst hc0
      obtain rfl : n = 0 := by omega
      obtain rfl : m = 0 := by omega
      have hx : xs = [] := List.eq_nil_of_length_eq_zero (by simpa using hown.len)
      have hn : news = [] := List.eq_nil_of_length_eq_zero (by simpa using hl)
      subst hx
      subst hn
      refine ⟨none, 0, w, ?_, by simpa using Own.none_ w base e i.size, World.grownBy.refl w _, .inl rfl⟩
      have := hf w hR
      simp [Builtin.append_, run_underlying ht, sizeOf, typeInfo, hi, Builtin.lenOf, this]
    · obtain ⟨cur, hs, hbg, hg, hsz, hx⟩ := hown.at_ _ rfl
      simp only at hs hbg hg hsz hx
      subst hs
      have hfit : off + n * i.size + 0 + news.length ≤ cur.size := by
        have h2 := Nat.mul_le_mul_right i.size hroom
        rw [Nat.add_mul] at h2
        omega
      have hst := run_storeCells_at P g (off + n * i.size) e news 0 cur w hg hfit h1
      simp only [Nat.add_zero] at hst hfit
      refine ⟨some ⟨g, off, none⟩, c, w.setRow g (cur.toList.take (off + n * i.size) ++ news ++ cur.toList.drop (off + n * i.size + news.length)).toArray, ?_, ?_, ?_, .inl rfl⟩
      · have := hf w hR
        simp [Builtin.append_, run_underlying ht, sizeOf, typeInfo, hi, Builtin.lenOf, hroom, this, Addr.add_lit, hst]
      · refine ⟨hlen, hroom, hown.cap, (fun e => by cases e), fun a ha => ?_⟩
        injection ha with ha
        subst ha
        refine ⟨_, rfl, hbg, setRow_heap w g cur _ e _ hg, ?_, fun j u hj => ?_⟩
        · simp only [List.size_toArray, List.length_append, List.length_take, List.length_drop, Array.length_toList]
          have h2 := Nat.mul_le_mul_right i.size hroom
          rw [Nat.add_mul] at h2
          omega
        · simp only [List.getElem?_toArray]
          have hxl := hown.len
          have htl : (cur.toList.take (off + n * i.size)).length = off + n * i.size := by simp; omega
          by_cases hjn : j < n * i.size
          · rw [List.getElem?_append_left (by omega)] at hj
            have := hx j u hj
            rw [List.append_assoc, List.getElem?_append_left (by omega), List.getElem?_take, if_pos (by omega)]
            simpa using this
          · rw [List.getElem?_append_right (by omega), hxl] at hj
            rw [List.append_assoc, List.getElem?_append_right (by omega), htl]
            have hjl : j - n * i.size < news.length := by
              rcases Nat.lt_or_ge (j - n * i.size) news.length with h | h
              · exact h
              · rw [List.getElem?_eq_none h] at hj; cases hj
            rw [show off + j - (off + n * i.size) = j - n * i.size from by omega, List.getElem?_append_left hjl]
            exact hj
      · exact ⟨rfl, rfl, rfl, by simp, fun k _ hk => setRow_other w g k _ (fun e => hk (by simp [blk, e]))⟩
  · have hgt : ¬ (n + m ≤ c) := hroom
    have h63' : ¬ (9223372036854775807 < ((n : Int) + (m : Int))) := by
      have hmm := h63
      unfold maxLen at hmm
      omega
    have h48' : ¬ (281474976710656 < Builtin.nextslicecap (n + m) c * i.bytes) := by have := growslice_fits (need := n + m) (old := c) (bytes := i.bytes) (by omega) hbytes; omega
    have hfo := run_first (P := P) w.drew i.size n A n c xs hown.len hown.rd.drew
    have hf2 := hf w.drew hR.drew
    have hge := grownCap_ge w (n + m) c e
    have hcm : grownCap w (n + m) c e ≤ maxLen := grownCap_le_maxLen w (n + m) c e h63
    refine ⟨some ⟨w.heap.size, 0, none⟩, grownCap w (n + m) c e, w.drew.alloc (.cells (xs.toArray ++ news.toArray ++ Builtin.zeroCells z.cells (grownCap w (n + m) c e - (n + m))) e), ?_, ?_, ?_, .inr (by simp [blk])⟩
    · simp [Builtin.append_, run_underlying ht, sizeOf, typeInfo, zeroValue, hi, hz, Builtin.lenOf, hgt, h63', h48', Question.forced, hf2, hfo, newRow, grownCap]
      congr 2
      apply Array.ext'
      simp [List.append_assoc]
    · refine Own.of_block (g := w.heap.size) (heap_alloc_new w.drew _) hbase hlen hge hcm ?_ fun j u hj => ?_
      · simp only [Array.size_append, List.size_toArray, size_zeroCells, hzs, hown.len, hl, ← Nat.add_mul]
        rw [Nat.add_sub_cancel' hge]
        exact Nat.le_refl _
      · have hjl : j < (xs ++ news).length := by
          rcases Nat.lt_or_ge j (xs ++ news).length with h | h
          · exact h
          · rw [List.getElem?_eq_none h] at hj; cases hj
        have hsz2 : (xs.toArray ++ news.toArray).size = (xs ++ news).length := by simp
        rw [Array.getElem?_append_left (by omega)]
        simpa using hj
    · exact ⟨rfl, rfl, rfl, by simp, fun k hk _ => Below.heap_alloc w.drew _ k hk⟩

theorem wp_append_Own {o : Oper} {a : Act} {K : Act → World → Prop} {Q : Exit → Act → World → Prop} (s x : Operand) (t : TypeId)
    (ho : o.op = .call { callee := .builtin .append, args := #[s, x], argTypes := #[t, t] })
    (base : Nat) (e : TypeId) (i : TypeInfo) (z : Value) (size bytes : Nat) (ht : P.underlying t = some (.slice e)) (hi : P.info? e = some i) (hz : i.zero = some z)
    (hsize : i.size = size) (hby : i.bytes = bytes) (hzs : z.cells.size = size)
    (A : Option Addr) (n c : Nat) (xs : List Value) (hs : a.eval s = .slice A n c) (hown : Own w base e size A n c xs)
    (A2 : Option Addr) (m c2 : Nat) (news : List Value) (hx : a.eval x = .slice A2 m c2) (hl : news.length = m * size) (hR : Rd w A2 news) (h1 : ∀ u ∈ news, u.oneCell' = true)
    (h63 : n + m ≤ maxLen) (hbytes : (n + m) * bytes ≤ 140737488355328) (hbase : base ≤ w.heap.size)
    (h : ∀ A' c' w', Own w' base e size A' (n + m) c' (xs ++ news) → w.grownBy w' (blk A) → (A' = A ∨ blk A' = some w.heap.size) → K (a.put o.dst (.slice A' (n + m) c')) w') : o.wp P a w K Q := by
  obtain ⟨A', c', w', hrun, h2, h3, h4⟩ := run_append_Own (P := P) w base t o.type e i z size bytes ht hi hz hsize hby hzs A n c xs hown A2 m c2 news hl hR h1 h63 hbytes hbase
  unfold Oper.wp execOp
  simp only [ho, resolve, invoke, builtin, Sem.run_bind, Sem.run_pure, Result.andThen_ok, List.map_toArray, List.map_cons, List.map_nil, hs, hx, hrun]
  exact h A' c' w' h2 h3 h4

theorem wpList_append_Own {ops : Array Oper} {rest : List Oper} {o : Oper} {a : Act} {Q : Exit → Act → World → Prop} (hgd : o.guard = none) (s x : Operand) (t : TypeId)
    (ho : o.op = .call { callee := .builtin .append, args := #[s, x], argTypes := #[t, t] })
    (base : Nat) (e : TypeId) (i : TypeInfo) (z : Value) (size bytes : Nat) (ht : P.underlying t = some (.slice e)) (hi : P.info? e = some i) (hz : i.zero = some z)
    (hsize : i.size = size) (hby : i.bytes = bytes) (hzs : z.cells.size = size)
    (A : Option Addr) (n c : Nat) (xs : List Value) (hs : a.eval s = .slice A n c) (hown : Own w base e size A n c xs)
    (A2 : Option Addr) (m c2 : Nat) (news : List Value) (hx : a.eval x = .slice A2 m c2) (hl : news.length = m * size) (hR : Rd w A2 news) (h1 : ∀ u ∈ news, u.oneCell' = true)
    (h63 : n + m ≤ maxLen) (hbytes : (n + m) * bytes ≤ 140737488355328) (hbase : base ≤ w.heap.size)
    (h : ∀ A' c' w', Own w' base e size A' (n + m) c' (xs ++ news) → w.grownBy w' (blk A) → (A' = A ∨ blk A' = some w.heap.size) → wpList P ops Q rest (a.put o.dst (.slice A' (n + m) c')) w') : wpList P ops Q (o :: rest) a w :=
  wpList_plain hgd fun _ hK => wp_append_Own w s x t ho base e i z size bytes ht hi hz hsize hby hzs A n c xs hs hown A2 m c2 news hx hl hR h1 h63 hbytes hbase fun A' c' w' h2 h3 h4 => hK _ _ (h A' c' w' h2 h3 h4)

/-- The same as one step of a region that draws its order. -/
theorem step_append_Own {ops : Array Oper} {o : Oper} {a : Act} {K : Act → World → Prop} {Q : Exit → Act → World → Prop} {E : Prop} (hgd : o.guard = none) (s x : Operand) (t : TypeId)
    (ho : o.op = .call { callee := .builtin .append, args := #[s, x], argTypes := #[t, t] })
    (base : Nat) (e : TypeId) (i : TypeInfo) (z : Value) (size bytes : Nat) (ht : P.underlying t = some (.slice e)) (hi : P.info? e = some i) (hz : i.zero = some z)
    (hsize : i.size = size) (hby : i.bytes = bytes) (hzs : z.cells.size = size)
    (A : Option Addr) (n c : Nat) (xs : List Value) (hs : a.eval s = .slice A n c) (hown : Own w base e size A n c xs)
    (A2 : Option Addr) (m c2 : Nat) (news : List Value) (hx : a.eval x = .slice A2 m c2) (hl : news.length = m * size) (hR : Rd w A2 news) (h1 : ∀ u ∈ news, u.oneCell' = true)
    (h63 : n + m ≤ maxLen) (hbytes : (n + m) * bytes ≤ 140737488355328) (hbase : base ≤ w.heap.size)
    (h : ∀ A' c' w', Own w' base e size A' (n + m) c' (xs ++ news) → w.grownBy w' (blk A) → (A' = A ∨ blk A' = some w.heap.size) → K (a.put o.dst (.slice A' (n + m) c')) w') :
    if Region.wanted o (yielded ops a.tmps) = true then Oper.wp P o a w K Q else E := by
  have hw : Region.wanted o (yielded ops a.tmps) = true := by simp [Region.wanted, hgd]
  rw [if_pos hw]
  exact wp_append_Own w s x t ho base e i z size bytes ht hi hz hsize hby hzs A n c xs hs hown A2 m c2 news hx hl hR h1 h63 hbytes hbase h
end

/-! ### bits of bytes -/
theorem xor_u8 (a b : UInt8) : bits .xor .u8 (a.toNat : Int) (b.toNat : Int) = ((a ^^^ b).toNat : Int) := by
  rw [u8_xor_nat _ _ a.toNat_lt b.toNat_lt, UInt8.toNat_xor]
theorem and_u8 (a b : UInt8) : bits .and .u8 (a.toNat : Int) (b.toNat : Int) = ((a &&& b).toNat : Int) := by
  rw [u8_and_nat _ _ a.toNat_lt b.toNat_lt, UInt8.toNat_and]
theorem or_u8 (a b : UInt8) : bits .or .u8 (a.toNat : Int) (b.toNat : Int) = ((a ||| b).toNat : Int) := by
  rw [u8_or_nat _ _ a.toNat_lt b.toNat_lt, UInt8.toNat_or]
/-- byte(n). -/
def bOf (n : Int) : UInt8 := UInt8.ofNat (n % 256).toNat
theorem bOf_wrap (n : Int) : IntKind.u8.wrap n = ((bOf n).toNat : Int) := by
  rw [IntKind.wrap_u8', bOf, UInt8.toNat_ofNat']
  omega
theorem bOf_byte (x : UInt8) : bOf (x.toNat : Int) = x := by
  have := x.toNat_lt
  rw [bOf]
  rw [show ((x.toNat : Int) % 256).toNat = x.toNat from by omega]
  simp

theorem ofInt_i64 (a : Nat) (ha : a < 9223372036854775808) : (BitVec.ofInt 64 (a : Int)).toNat = a := by
  rw [BitVec.ofInt_natCast, BitVec.toNat_ofNat]; exact Nat.mod_eq_of_lt (by omega)
theorem i64_and_nat (a b : Nat) (ha : a < 9223372036854775808) (hb : b < 9223372036854775808) : bits .and .i64 (a : Int) (b : Int) = ((a &&& b : Nat) : Int) := by
  have hx : a &&& b < 2 ^ 63 := Nat.and_lt_two_pow _ (by omega)
  show IntKind.i64.wrap ((BitVec.ofInt 64 (a : Int) &&& BitVec.ofInt 64 (b : Int)).toNat : Int) = _
  rw [BitVec.toNat_and, ofInt_i64 a ha, ofInt_i64 b hb, IntKind.wrap_i64]
  omega
theorem i64_or_nat (a b : Nat) (ha : a < 9223372036854775808) (hb : b < 9223372036854775808) : bits .or .i64 (a : Int) (b : Int) = ((a ||| b : Nat) : Int) := by
  have hx : a ||| b < 2 ^ 63 := Nat.or_lt_two_pow (by omega) (by omega)
  show IntKind.i64.wrap ((BitVec.ofInt 64 (a : Int) ||| BitVec.ofInt 64 (b : Int)).toNat : Int) = _
  rw [BitVec.toNat_or, ofInt_i64 a ha, ofInt_i64 b hb, IntKind.wrap_i64]
  omega
theorem i64_xor_nat (a b : Nat) (ha : a < 9223372036854775808) (hb : b < 9223372036854775808) : bits .xor .i64 (a : Int) (b : Int) = ((a ^^^ b : Nat) : Int) := by
  have hx : a ^^^ b < 2 ^ 63 := Nat.xor_lt_two_pow (by omega) (by omega)
  show IntKind.i64.wrap ((BitVec.ofInt 64 (a : Int) ^^^ BitVec.ofInt 64 (b : Int)).toNat : Int) = _
  rw [BitVec.toNat_xor, ofInt_i64 a ha, ofInt_i64 b hb, IntKind.wrap_i64]
  omega
theorem int_pow2 (m : Nat) : (2 : Int) ^ m = ((2 ^ m : Nat) : Int) := by
  induction m with
  | zero => rfl
  | succ m ih => rw [Int.pow_succ, ih, Nat.pow_succ]; rfl
theorem shr_nat (a m : Nat) : (a : Int) / 2 ^ m = ((a >>> m : Nat) : Int) := by
  rw [int_pow2, Nat.shiftRight_eq_div_pow]; rfl
theorem shr_le (a m : Nat) : a >>> m ≤ a := by rw [Nat.shiftRight_eq_div_pow]; exact Nat.div_le_self _ _

/-! ### worlds -/
theorem below_drewN {B : Nat} {a w : World} (h : Below B a w) (n : Nat) : Below B a (w.drewN n) := ⟨h.os, h.tape, h.output, h.size, h.block⟩
theorem Below.step {N : Nat} {w0 w w' : World} (h : Below N w0 w) (hN : N ≤ w.heap.size) (k : Below w.heap.size w w') : Below N w0 w' := h.trans (k.mono hN)
theorem Below.grown' {B : Nat} {a w w' : World} {A : Option Addr} (h : Below B a w) (hg : w.grownBy w' (blk A)) (hB : B ≤ w.heap.size) (hr : ∀ k, blk A = some k → B ≤ k) : Below B a w' := h.grown hg hB hr
theorem grownBy_below {w w' : World} (h : Below w.heap.size w w') (row : Option Nat) : w.grownBy w' row := ⟨h.os, h.tape, h.output, h.size, fun i hi _ => h.block i hi⟩
theorem below_of_grown {w w' : World} (h : w.grownBy w' none) : Below w.heap.size w w' := ⟨h.os, h.tape, h.output, h.size, fun k hk => h.block k hk (by simp)⟩
theorem grown_setCell {a w : World} {g : Nat} (h : a.grownBy w (some g)) {p : Addr} (hp : p.block = g ∨ a.heap.size ≤ p.block) (u : Value) : a.grownBy (w.setCell p u) (some g) :=
  ⟨h.os, h.tape, h.output, by simpa [World.setCell] using h.size, fun i hi hne => (Below.heap_setCell w p u i (by
    rintro rfl
    rcases hp with hp | hp
    · exact hne (by rw [hp])
    · omega)).trans (h.block i hi hne)⟩
theorem grown_drewN {a w : World} {row : Option Nat} (h : a.grownBy w row) (n : Nat) : a.grownBy (w.drewN n) row := ⟨h.os, h.tape, h.output, h.size, h.block⟩
theorem grown_drew {a w : World} {row : Option Nat} (h : a.grownBy w row) : a.grownBy w.drew row := ⟨h.os, h.tape, h.output, h.size, h.block⟩
theorem grown_alloc {a w : World} {row : Option Nat} (h : a.grownBy w row) (o : Obj) : a.grownBy (w.alloc o) row :=
  ⟨h.os, h.tape, h.output, Nat.le_trans h.size (by simp), fun i hi hne => (Below.heap_alloc w o i (Nat.lt_of_lt_of_le hi h.size)).trans (h.block i hi hne)⟩
/-- Behind writes to one row, or to a row that is new. -/
theorem grown_trans {a b c : World} {r s : Option Nat} (h : a.grownBy b r) (k : b.grownBy c s) (hs : s = r ∨ ∀ g, s = some g → a.heap.size ≤ g) : a.grownBy c r :=
  ⟨k.os.trans h.os, k.tape.trans h.tape, k.output.trans h.output, Nat.le_trans h.size k.size, fun i hi hne => by
    refine (k.block i (Nat.lt_of_lt_of_le hi h.size) ?_).trans (h.block i hi hne)
    rcases hs with rfl | hs
    · exact hne
    · intro e
      have := hs i e.symm
      omega⟩
end Go.Proofs.Ytianombjgdmbeaa
namespace Go.Proofs.Ytianombjgdmbeaa
set_option linter.unusedSimpArgs false
set_option linter.unusedVariables false
open Go.RowKit

theorem u8info : (Try.prog.info? 5).map (fun i => (i.zero, i.size, i.bytes)) = some (some (.int .u8 0), 1, 1) := by kernel_rfl

theorem strOf_eq (l : List UInt8) : strOfNums (l.map fun x => (x.toNat : Int)) = ⟨l.toArray⟩ := by
  apply ByteArray.ext
  apply Array.ext'
  rw [strOfNums_data, List.map_map]
  have h : ∀ l : List UInt8, l.map ((fun n : Int => UInt8.ofNat n.toNat) ∘ fun x : UInt8 => (x.toNat : Int)) = l := by
    intro l
    induction l with
    | nil => rfl
    | cons x l ih => rw [List.map_cons, ih]; simp
  exact h l

section
variable {P : Program} (w : World)
theorem run_convert_Rd (src e : TypeId) (hs : P.underlying src = some (.slice e)) (he : P.underlying e = some (.int .u8)) (A : Option Addr) (l : List UInt8) (c : Nat) (h : Rd w A (bvs l)) :
    ∀ dst, P.underlying dst = some .string → (convert src dst (.slice A l.length c)).run P w = .ok (.string ⟨l.toArray⟩) w := by
  intro dst hd
  rcases A with _ | ⟨b, off, spot⟩
  · rcases l with _ | ⟨x, l⟩
    · exact run_convert_bytes_nil w src e hs he 0 c dst hd
    · obtain ⟨b, off, e, _⟩ := h.byte (k := 0) (by simp)
      cases e
  · rcases l with _ | ⟨x, l⟩
    · rw [run_convert_bytes_string w src dst e _ _ c hs he hd, show ([] : List UInt8).length = 0 from rfl, run_bytesToString w _ 0 c [] (by simp [loadCells, loadCellsFrom])]
      rfl
    · obtain ⟨b', off', e1, _⟩ := h.byte (k := 0) (by simp)
      injection e1 with e1
      injection e1 with e1 e2 e3
      subst e1
      subst e2
      subst e3
      have := run_convert_bytes_arg (P := P) w src e hs he b off (x :: l).length c ((x :: l).map fun x => (x.toNat : Int)) (by simp) (fun i hi => by
        have := h.cell (bvs_get hi)
        rw [this]
        rw [List.getD_eq_getElem?_getD, List.getElem?_map, List.getElem?_eq_getElem hi]
        rfl) dst hd
      rw [this, strOf_eq]
end

theorem sameBytes_yes (A B : Option Addr) (l : List UInt8) (c d : Nat) (w : World) (ha : Rd w A (bvs l)) (hb : Rd w B (bvs l)) :
    Calls Try.prog 42 #[.slice A l.length c, .slice B l.length d] w fun e w' => e = .returned (.bool true) ∧ w = w' := by
  have h1 := run_convert_Rd (P := Try.prog) w 23 5 Try.underlying23 Try.underlying5 A l c ha 9 Try.underlying9
  have h2 := run_convert_Rd (P := Try.prog) w 23 5 Try.underlying23 Try.underlying5 B l d hb 9 Try.underlying9
  go_enter Try.func42, Try.ntmps42
  go_wp2
  go_ret
  exact ⟨ret_bool (by simp), rfl⟩

/-- The marks behind a roomy copy. -/
def mark (i : Nat) : Value := .int .u8 (IntKind.u8.wrap (90 + (i : Int)))
/-- Block g is a copy of l with room for five more, the first k of which are marked. -/
structure RoomK (w : World) (g : Nat) (l : List UInt8) (k : Nat) : Prop where
  ex : ∃ cur, w.heap[g]? = some (.cells cur 5 (0, 0)) ∧ cur.size = l.length + 5 ∧ (∀ j, (h : j < l.length) → cur[j]? = some (bv l[j])) ∧ ∀ j, l.length ≤ j → j < l.length + k → cur[j]? = some (mark j)
/-- Block g is a roomy copy of l. -/
def Room (w : World) (g : Nat) (l : List UInt8) : Prop := RoomK w g l 5

section
variable {w w' : World} {g k : Nat} {l : List UInt8}
theorem RoomK.lt (h : RoomK w g l k) : g < w.heap.size := by
  obtain ⟨cur, hh, _⟩ := h.ex
  exact lt_of_block hh
theorem RoomK.keep (h : RoomK w g l k) (hk : w'.heap[g]? = w.heap[g]?) : RoomK w' g l k := by
  obtain ⟨cur, hh, r⟩ := h.ex
  exact ⟨cur, hk.trans hh, r⟩
theorem RoomK.cell (h : RoomK w g l k) {j : Nat} (hj : j < l.length + 5) : ∃ u, w.cell? ⟨g, j, none⟩ = some u := by
  obtain ⟨cur, hh, hs, _⟩ := h.ex
  exact ⟨cur[j]'(by omega), by rw [cell_of_row w g j cur _ (0, 0) hh]; exact Array.getElem?_eq_getElem (by omega)⟩
theorem RoomK.frozen (h : RoomK w g l k) (j : Nat) : w.frozen? ⟨g, j, none⟩ = false := by
  obtain ⟨cur, hh, _⟩ := h.ex
  simp [World.frozen?, hh]
theorem RoomK.set (h : RoomK w g l k) (hk : k < 5) : RoomK (w.setCell ⟨g, l.length + k, none⟩ (mark (l.length + k))) g l (k + 1) := by
  obtain ⟨cur, hh, hs, h1, h2⟩ := h.ex
  refine ⟨cur.setIfInBounds (l.length + k) (mark (l.length + k)), by simp [World.setCell, Array.getElem?_modify, hh], by simpa using hs, fun j hj => ?_, fun j hj hj2 => ?_⟩
  · rw [Array.getElem?_setIfInBounds_ne (by omega)]; exact h1 j hj
  · by_cases he : j = l.length + k
    · subst he
      rw [Array.getElem?_setIfInBounds_self, if_pos (by omega)]
    · rw [Array.getElem?_setIfInBounds_ne (by omega)]; exact h2 j hj (by omega)
theorem Room.below (h : Room w g l) (hb : Below w.heap.size w w') : Room w' g l := RoomK.keep h (hb.block _ h.lt)
theorem Room.grown {row : Option Nat} (h : Room w g l) (hg : w.grownBy w' row) (hne : row ≠ some g) : Room w' g l := RoomK.keep h (hg.block _ h.lt (fun e => hne e.symm))
theorem Room.rd (h : Room w g l) : Rd w (some ⟨g, 0, none⟩) (bvs l) := by
  obtain ⟨cur, hh, hs, h1, _⟩ := h.ex
  refine Rd.of_block hh fun i u hu => ?_
  have hl : i < l.length := by
    rcases Nat.lt_or_ge i l.length with h | h
    · exact h
    · rw [List.getElem?_eq_none (by simpa [bvs] using h)] at hu; cases hu
  rw [bvs_get hl] at hu
  rw [Nat.zero_add, h1 i hl]
  exact hu
theorem Room.mark (h : Room w g l) {j : Nat} (hj : l.length ≤ j) (hj2 : j < l.length + 5) : w.cell? ⟨g, j, none⟩ = some (.int .u8 (IntKind.u8.wrap (90 + (j : Int)))) := by
  obtain ⟨cur, hh, hs, _, h2⟩ := h.ex
  rw [cell_of_row w g j cur _ (0, 0) hh]
  exact h2 j hj hj2
theorem Room.own (h : Room w g l) (hm : l.length + 5 ≤ maxLen) {base : Nat} (hb : base ≤ g) : Own w base 5 1 (some ⟨g, 0, none⟩) l.length (l.length + 5) (bvs l) := by
  obtain ⟨cur, hh, hs, h1, _⟩ := h.ex
  refine Own.of_block hh hb (by simp [bvs]) (by omega) hm (by omega) fun i u hu => ?_
  have hl : i < l.length := by
    rcases Nat.lt_or_ge i l.length with h | h
    · exact h
    · rw [List.getElem?_eq_none (by simpa [bvs] using h)] at hu; cases hu
  rw [bvs_get hl] at hu
  rw [h1 i hl]
  exact hu
end
end Go.Proofs.Ytianombjgdmbeaa
