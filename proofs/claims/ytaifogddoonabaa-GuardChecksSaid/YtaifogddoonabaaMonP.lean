/-
  Guards: what a row of monitors reads as; what is wrong with a guard; plainly.
-/
import Derived.Test.YtaifogddoonabaaBase
import Derived.Test.YtaifogddoonabaaMore
import Derived.Test.YtaifogddoonabaaRowsOf
import Derived.Test.YtaifogddoonabaaSame
namespace Go.Proofs.Ytaifogddoonabaa
set_option linter.unusedSimpArgs false
set_option linter.unusedVariables false
open Go.RowKit

structure Mon where
  of : Int
  low : Int
  high : Int
  wait : Int
  tier : Int
  name : ByteArray
deriving Inhabited
def mcs (x : Mon) : List Value := [.int .i64 x.of, .int .i64 x.low, .int .i64 x.high, .int .i64 x.wait, .int .i64 x.tier, .string x.name]
def monv (x : Mon) : Value := .agg #[.int .i64 x.of, .int .i64 x.low, .int .i64 x.high, .int .i64 x.wait, .int .i64 x.tier, .string x.name]
theorem mcs_len (x : Mon) : (mcs x).length = 6 := rfl
def mvs (l : List Mon) : List Value := l.flatMap mcs
theorem mvs_len (l : List Mon) : (mvs l).length = l.length * 6 := fm_len mcs_len l
theorem mvs_get {l : List Mon} {i : Nat} {x : Mon} (h : l[i]? = some x) {j : Nat} (hj : j < 6) : (mvs l)[i * 6 + j]? = (mcs x)[j]? := fm_get mcs_len l i x j h hj
theorem mvs_one (l : List Mon) : ∀ u ∈ mvs l, u.oneCell' = true := by
  intro u hu
  obtain ⟨x, _, hx⟩ := List.mem_flatMap.1 hu
  simp [mcs] at hx
  rcases hx with rfl | rfl | rfl | rfl | rfl | rfl <;> rfl
/-- The six cells of a monitor. -/
theorem rdmon_cells {w : World} {B : Option Addr} {l : List Mon} (h : Rd w B (mvs l)) {i : Nat} {x : Mon} (hx : l[i]? = some x) : ∃ g o, B = some ⟨g, o, none⟩ ∧ w.cell? ⟨g, o + i * 6, none⟩ = some (.int .i64 x.of) ∧ w.cell? ⟨g, o + i * 6 + 1, none⟩ = some (.int .i64 x.low) ∧ w.cell? ⟨g, o + i * 6 + 2, none⟩ = some (.int .i64 x.high) ∧ w.cell? ⟨g, o + i * 6 + 3, none⟩ = some (.int .i64 x.wait) ∧ w.cell? ⟨g, o + i * 6 + 4, none⟩ = some (.int .i64 x.tier) ∧ w.cell? ⟨g, o + i * 6 + 5, none⟩ = some (.string x.name) := by
  obtain ⟨g, o, rfl, h0⟩ := h (i * 6 + 0) _ ((mvs_get hx (j := 0) (by omega)).trans rfl)
  exact ⟨g, o, rfl, h0, h.cell ((mvs_get hx (j := 1) (by omega)).trans rfl), h.cell ((mvs_get hx (j := 2) (by omega)).trans rfl), h.cell ((mvs_get hx (j := 3) (by omega)).trans rfl), h.cell ((mvs_get hx (j := 4) (by omega)).trans rfl), h.cell ((mvs_get hx (j := 5) (by omega)).trans rfl)⟩
theorem moninfo : (Try.prog.info? 68).map (fun i => (i.zero, i.size, i.bytes)) = some (some (Value.agg #[.int .i64 0, .int .i64 0, .int .i64 0, .int .i64 0, .int .i64 0, .string ⟨#[]⟩]), 6, 56) := by kernel_rfl

/-- A guard. -/
structure Grd where
  mons : List Mon
  silence : Int
  most : Int
  window : Int
  name : ByteArray
def grv (g : Grd) (A : Option Addr) (n c : Nat) : Value := .agg #[.slice A n c, .int .i64 g.silence, .int .i64 g.most, .int .i64 g.window, .string g.name]

/-- May this byte stand at place i of a name? -/
def chOk (b : UInt8) (i : Nat) : Bool := decide (97 ≤ b.toNat ∧ b.toNat ≤ 122) || (decide (0 < i) && (decide (48 ≤ b.toNat ∧ b.toNat ≤ 57) || decide (b.toNat = 95)))
/-- From place i on. -/
def restOk (s : ByteArray) : Nat → Nat → Bool
  | 0, _ => true
  | k + 1, i => chOk (s[i]!) i && restOk s k (i + 1)
/-- A name, or nothing. -/
def nameOk (s : ByteArray) : Bool := restOk s s.size 0 && decide (s.size ≤ 16)
theorem restOk_no {s : ByteArray} : ∀ (k i j : Nat), j < k → chOk (s[i + j]!) (i + j) = false → restOk s k i = false
  | 0, i, j, h, _ => by omega
  | k + 1, i, 0, h, e => by unfold restOk; rw [Nat.add_zero] at e; rw [e]; rfl
  | k + 1, i, j + 1, h, e => by
    unfold restOk
    rw [restOk_no k (i + 1) j (by omega) (by rw [show i + 1 + j = i + (j + 1) by omega]; exact e), Bool.and_false]
theorem restOk_yes {s : ByteArray} : ∀ (k i : Nat), (∀ j, j < k → chOk (s[i + j]!) (i + j) = true) → restOk s k i = true
  | 0, i, _ => rfl
  | k + 1, i, h => by
    unfold restOk
    rw [show chOk (s[i]!) i = true from h 0 (by omega), restOk_yes k (i + 1) (fun j hj => by rw [show i + 1 + j = i + (j + 1) by omega]; exact h (j + 1) (by omega))]
    rfl
theorem nameOk_no {s : ByteArray} {j : Nat} (h : j < s.size) (e : chOk (s[j]!) j = false) : nameOk s = false := by
  unfold nameOk
  rw [restOk_no s.size 0 j h (by rw [Nat.zero_add]; exact e)]
  rfl
theorem nameOk_long {s : ByteArray} (h : ∀ j, j < s.size → chOk (s[j]!) j = true) : nameOk s = decide (s.size ≤ 16) := by
  unfold nameOk
  rw [restOk_yes s.size 0 (fun j hj => by rw [Nat.zero_add]; exact h j hj)]
  rfl
def rngOk (n a b : Int) : Bool := decide (a ≤ n ∧ n ≤ b)
def wordOk (n : Int) : Bool := decide (-2147483648 ≤ n ∧ n ≤ 2147483647)
def monOk (m : Mon) : Bool := rngOk m.of 0 63 && wordOk m.low && wordOk m.high && decide (m.low ≤ m.high) && rngOk m.wait 1 1000 && rngOk m.tier 1 3
/-- What is wrong with a monitor. -/
def monE (m : Mon) : Int := if monOk m then (if nameOk m.name then 0 else 10) else 2
/-- What is wrong with these, from place i on: what, where. -/
def monsE : List Mon → Int → Option (Int × Int)
  | [], _ => none
  | m :: r, i => if monE m = 0 then monsE r (i + 1) else some (monE m, i)
def grdE (g : Grd) : Int × Int :=
  if 32 < g.mons.length then (1, 0) else
  match monsE g.mons 0 with
  | some e => e
  | none => if rngOk g.silence 0 100000 && rngOk g.most 1 100 && rngOk g.window 1 100000 then (if nameOk g.name then (0, 0) else (10, 0)) else (2, 0)
theorem monsE_skip : ∀ (l : List Mon) (i : Int) (k : Nat), k ≤ l.length → (∀ (j : Nat) (m : Mon), j < k → l[j]? = some m → monE m = 0) → monsE l i = monsE (l.drop k) (i + k)
  | l, i, 0, _, _ => by simp
  | [], i, k + 1, h, _ => by simp at h
  | m :: r, i, k + 1, h, hz => by
    rw [show monsE (m :: r) i = if monE m = 0 then monsE r (i + 1) else some (monE m, i) from rfl, if_pos (hz 0 m (by omega) rfl), monsE_skip r (i + 1) k (by simpa using h) (fun j x hj hx => hz (j + 1) x (by omega) hx)]
    rw [show i + 1 + (k : Int) = i + ((k + 1 : Nat) : Int) by omega, List.drop_succ_cons]
theorem monsE_none {l : List Mon} (h : ∀ (j : Nat) (m : Mon), l[j]? = some m → monE m = 0) : monsE l 0 = none := by
  rw [monsE_skip l 0 l.length (Nat.le_refl _) (fun j m _ hm => h j m hm), List.drop_length]
  rfl
theorem monsE_some {l : List Mon} {k : Nat} {m : Mon} (h : ∀ (j : Nat) (x : Mon), j < k → l[j]? = some x → monE x = 0) (hm : l[k]? = some m) (he : monE m ≠ 0) : monsE l 0 = some (monE m, (k : Int)) := by
  have hk := (List.getElem?_eq_some_iff.1 hm).1
  rw [monsE_skip l 0 k (by omega) h, List.drop_eq_getElem_cons hk, (List.getElem?_eq_some_iff.1 hm).2, Int.zero_add]
  show (if monE m = 0 then _ else some (monE m, (k : Int))) = _
  rw [if_neg he]
end Go.Proofs.Ytaifogddoonabaa
