/-
  A unit in packets: plainly; and what a row of packets reads as.
-/
import Derived.Test.YtkbaganbfcbioaaChunk
import Derived.Test.YtkbaganbfcbioaaPkt
import Derived.Test.YtkbaganbfcbioaaRowsOf
import Derived.Test.YtkbaganbfcbioaaKeyPad
namespace Go.Proofs.Ytkbaganbfcbioaa
set_option linter.unusedSimpArgs false
set_option linter.unusedVariables false
open Go.RowKit

def cutPart (N k : Nat) : Int := (if k = 0 then 1 else 0) + (if k + 1 = N then 2 else 0)
def cutD (u : List UInt8) (most k : Nat) : List UInt8 := (u.drop (k * most)).take most
theorem cutD_len (u : List UInt8) (most k : Nat) : (cutD u most k).length = min most (u.length - k * most) := by simp [cutD]
def cutPk (up : Bool) (apid : Int) (count : Nat) (u : List UInt8) (most N k : Nat) : Pkt := ⟨up, false, apid, cutPart N k, ((count + k) % 16384 : Nat), cutD u most k⟩
def cutMid (up : Bool) (apid : Int) (count : Nat) (u : List UInt8) (most k : Nat) : Pkt := ⟨up, false, apid, 0, ((count + k) % 16384 : Nat), cutD u most k⟩
def cutL (up : Bool) (apid : Int) (count : Nat) (u : List UInt8) (most N : Nat) : List Pkt := (List.range N).map (cutPk up apid count u most N)
def cutErr (apid count : Int) (len : Nat) (most : Int) : Int :=
  if apid < 0 ∨ 2047 ≤ apid ∨ count < 0 ∨ 16383 < count then 2 else if len = 0 ∨ 1048576 < len ∨ most < 1 ∨ 65536 < most ∨ 16384 < pieces len most.toNat then 1 else 0
def cutR (up : Bool) (apid count : Int) (u : List UInt8) (most : Int) : List Pkt × Int :=
  if cutErr apid count u.length most = 0 then (cutL up apid count.toNat u most.toNat (pieces u.length most.toNat), 0) else ([], cutErr apid count u.length most)
theorem pieces_pred {len s : Nat} (h : 1 ≤ len) (hs : 1 ≤ s) : pieces len s = (len - 1) / s + 1 := by
  unfold pieces
  rw [show len + s - 1 = len - 1 + s from by omega, Nat.add_div_right _ (by omega)]
/-- A packet and where its data lie. -/
structure PkR where
  p : Pkt
  A : Option Addr
  d : Nat
def pcs (x : PkR) : List Value := [.bool x.p.up, .bool x.p.second, .int .i64 x.p.apid, .int .i64 x.p.part, .int .i64 x.p.count, .slice x.A x.p.data.length x.d]
theorem pcs_len (x : PkR) : (pcs x).length = 6 := rfl
def pkcs (l : List PkR) : List Value := l.flatMap pcs
theorem pkcs_len (l : List PkR) : (pkcs l).length = l.length * 6 := fm_len pcs_len l
theorem pkcs_snoc (l : List PkR) (x : PkR) : pkcs (l ++ [x]) = pkcs l ++ pcs x := fm_snoc l x
theorem pkcs_get {l : List PkR} {i : Nat} {x : PkR} (h : l[i]? = some x) {j : Nat} (hj : j < 6) : (pkcs l)[i * 6 + j]? = (pcs x)[j]? := fm_get pcs_len l i x j h hj
def PkR.setPart (x : PkR) (v : Int) : PkR := ⟨⟨x.p.up, x.p.second, x.p.apid, v, x.p.count, x.p.data⟩, x.A, x.d⟩
theorem pkcs_set {l : List PkR} {i : Nat} {x : PkR} (h : l[i]? = some x) (v : Int) : (pkcs l).set (i * 6 + 3) (.int .i64 v) = pkcs (l.set i (x.setPart v)) :=
  fm_set pcs_len l i x (x.setPart v) 3 (.int .i64 v) h (by omega) rfl
theorem pcs_one (x : PkR) : ∀ u ∈ pcs x, u.oneCell' = true := by
  intro u hu
  simp [pcs] at hu
  rcases hu with rfl | rfl | rfl | rfl | rfl | rfl <;> rfl
/-- Rows of bytes that belong to the call, no two in one block. -/
def OwnData (w : World) (base : Nat) (l : List PkR) : Prop :=
  (∀ (i : Nat) (x : PkR), l[i]? = some x → Own w base 5 1 x.A x.p.data.length x.d (bvs x.p.data)) ∧
  ∀ (i j : Nat) (x y : PkR), i < j → l[i]? = some x → l[j]? = some y → ∀ q, blk x.A = some q → blk y.A ≠ some q
def OwnPks (w : World) (base : Nat) (B : Option Addr) (n c : Nat) (L : List Pkt) : Prop := ∃ l : List PkR, l.map PkR.p = L ∧ Own w base 33 6 B n c (pkcs l) ∧ OwnData w base l
section
variable {w w' : World} {base : Nat} {l : List PkR}
theorem OwnData.map (h : OwnData w base l) {base' : Nat} (k : ∀ (A : Option Addr) (n c : Nat) (xs : List Value), Own w base 5 1 A n c xs → Own w' base' 5 1 A n c xs) : OwnData w' base' l := ⟨fun i x hx => k _ _ _ _ (h.1 i x hx), h.2⟩
theorem OwnData.step (h : OwnData w base l) (hb : Below w.heap.size w w') : OwnData w' base l := h.map fun _ _ _ _ h => h.below hb
theorem OwnData.snoc (h : OwnData w base l) {x : PkR} (hx : Own w base 5 1 x.A x.p.data.length x.d (bvs x.p.data)) (hne : ∀ (i : Nat) (y : PkR), l[i]? = some y → ∀ q, blk y.A = some q → blk x.A ≠ some q) : OwnData w base (l ++ [x]) := by
  constructor
  · intro i y hy
    rcases Nat.lt_or_ge i l.length with h1 | h1
    · rw [List.getElem?_append_left h1] at hy
      exact h.1 i y hy
    · rw [List.getElem?_append_right h1] at hy
      rcases Nat.eq_zero_or_pos (i - l.length) with h2 | h2
      · rw [h2] at hy
        simp at hy
        subst hy
        exact hx
      · rw [List.getElem?_eq_none (by simp; omega)] at hy
        cases hy
  · intro i j y z hij hy hz q hq
    rcases Nat.lt_or_ge j l.length with h1 | h1
    · rw [List.getElem?_append_left h1] at hz
      rw [List.getElem?_append_left (by omega)] at hy
      exact h.2 i j y z hij hy hz q hq
    · rw [List.getElem?_append_right h1] at hz
      rcases Nat.eq_zero_or_pos (j - l.length) with h2 | h2
      · rw [h2] at hz
        simp at hz
        subst hz
        rw [List.getElem?_append_left (by omega)] at hy
        exact hne i y hy q hq
      · rw [List.getElem?_eq_none (by simp; omega)] at hz
        cases hz
theorem OwnData.nil (w : World) (base : Nat) : OwnData w base [] := ⟨fun i x h => by simp at h, fun i j x y _ h => by simp at h⟩
theorem OwnData.set (h : OwnData w base l) {i : Nat} {x : PkR} (hx : l[i]? = some x) (v : Int) : OwnData w base (l.set i (x.setPart v)) := by
  have key : ∀ (j : Nat) (y : PkR), (l.set i (x.setPart v))[j]? = some y → ∃ z, l[j]? = some z ∧ y.A = z.A ∧ y.d = z.d ∧ y.p.data = z.p.data := by
    intro j y hy
    by_cases hij : i = j
    · subst hij
      rw [List.getElem?_set_self (List.getElem?_eq_some_iff.1 hx).1] at hy
      injection hy with hy
      subst hy
      exact ⟨x, hx, rfl, rfl, rfl⟩
    · rw [List.getElem?_set_ne hij] at hy
      exact ⟨y, hy, rfl, rfl, rfl⟩
  constructor
  · intro j y hy
    obtain ⟨z, hz, e1, e2, e3⟩ := key j y hy
    rw [e1, e2, e3]
    exact h.1 j z hz
  · intro i' j y z hij hy hz q hq
    obtain ⟨y', hy', e1, _, _⟩ := key i' y hy
    obtain ⟨z', hz', e2, _, _⟩ := key j z hz
    rw [e1] at hq
    rw [e2]
    exact h.2 i' j y' z' hij hy' hz' q hq
end
/-- Results: packets and an error. -/
def PksRes (w w' : World) (r : List Pkt × Int) (e : Ending) : Prop :=
  ∃ B c, e = .returned (.tuple #[.slice B r.1.length c, .int .i64 r.2]) ∧ OwnPks w' w.heap.size B r.1.length c r.1 ∧ Below w.heap.size w w'
theorem PksRes.none_ {w w' : World} {k : Int} (h : Below w.heap.size w w') : PksRes w w' ([], k) (.returned (.tuple #[.slice none 0 0, .int .i64 k])) := ⟨none, 0, rfl, ⟨[], rfl, Own.none_ _ _ _ _, OwnData.nil _ _⟩, h⟩
theorem pkinfo : (Try.prog.info? 33).map (fun i => (i.zero, i.size, i.bytes)) = some (some (.agg #[.bool false, .bool false, .int .i64 0, .int .i64 0, .int .i64 0, .slice none 0 0]), 6, 56) := by kernel_rfl
end Go.Proofs.Ytkbaganbfcbioaa
