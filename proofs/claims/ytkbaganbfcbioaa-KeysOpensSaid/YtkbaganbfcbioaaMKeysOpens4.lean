/-
  Bytes and ints at a place; single cells that are appended. One name for what stays as it was behind a call: .step; behind a call that writes to one row: .over. The document's block of a key.
-/
import Derived.Test.YtkbaganbfcbioaaMKeysOpens3
import Derived.Test.YtkbaganbfcbioaaMKeysOpens1
import Derived.BigQuiet
namespace Go.Proofs.Ytkbaganbfcbioaa
set_option linter.unusedSimpArgs false
set_option linter.unusedVariables false
open Go.RowKit

theorem i64info : (Try.prog.info? 3).map (fun i => (i.zero, i.size, i.bytes)) = some (some (.int .i64 0), 1, 8) := by kernel_rfl

theorem at_get {l : List UInt8} {k : Nat} (h : k < l.length) : l[k] = l.getD k 0 := by simp [List.getD, List.getElem?_eq_getElem h]
theorem Rd.byteD {w : World} {A : Option Addr} {l : List UInt8} {k : Nat} (h : Rd w A (bvs l)) (hk : k < l.length) : ∃ b off, A = some ⟨b, off, none⟩ ∧ w.cell? ⟨b, off + k, none⟩ = some (.int .u8 ((l.getD k 0).toNat : Int)) := by
  rw [← at_get hk]
  exact h.byte hk
theorem ivs_snoc (l : List Int) (k : Nat) : ivs l ++ [.int .i64 (k : Int)] = ivs (l ++ [(k : Int)]) := by simp [ivs, iv]
theorem Rd_one (W : World) (u : Value) (t : TypeId) : Rd (W.alloc (.cells #[u] t)) (some ⟨W.heap.size, 0, none⟩) [u] := Rd_lit W [u] t
theorem one_int (k : Int) : ∀ u ∈ [Value.int .i64 k], u.oneCell' = true := by
  intro u hu
  simp at hu
  subst hu
  rfl
theorem one_byte (k : Int) : ∀ u ∈ [Value.int .u8 k], u.oneCell' = true := by
  intro u hu
  simp at hu
  subst hu
  rfl

theorem Rd.byteE {w : World} {b off : Nat} {l : List UInt8} {k : Nat} (h : Rd w (some ⟨b, off, none⟩) (bvs l)) (hk : k < l.length) : w.cell? ⟨b, off + k, none⟩ = some (.int .u8 ((l.getD k 0).toNat : Int)) := by
  rw [← at_get hk]
  exact h.cell (bvs_get hk)
theorem bvs_snoc (l : List UInt8) (x : UInt8) : bvs l ++ [.int .u8 (x.toNat : Int)] = bvs (l ++ [x]) := by simp [bvs, bv]

end Go.Proofs.Ytkbaganbfcbioaa
namespace Go.Proofs.Ytkbaganbfcbioaa
set_option linter.unusedSimpArgs false
set_option linter.unusedVariables false
open Go.RowKit
section
variable {w w' : World} {A : Option Addr} {xs : List Value} {g : Nat} {l : List UInt8} {base : Nat} {e : TypeId} {size n c : Nat} {t : TypeId} {cs : Array Value} {row : Option Nat}
theorem Rd.step (h : Rd w A xs) (hb : Below w.heap.size w w') : Rd w' A xs := h.below hb
theorem Own.step (h : Own w base e size A n c xs) (hb : Below w.heap.size w w') : Own w' base e size A n c xs := h.below hb
theorem Room.step (h : Room w g l) (hb : Below w.heap.size w w') : Room w' g l := Room.below h hb
theorem Blk.step (h : Blk w g t cs) (hb : Below w.heap.size w w') : Blk w' g t cs := h.below' hb
theorem nextB {N : Nat} {w0 : World} (h : Below N w0 w) (hN : N ≤ w.heap.size) (k : Below w.heap.size w w') : Below N w0 w' := h.trans (k.mono hN)
theorem Rd.over (h : Rd w A xs) (hg : w.grownBy w' row) (hne : ∀ k, row = some k → blk A ≠ some k) : Rd w' A xs := h.grown hg hne
theorem Own.over (h : Own w base e size A n c xs) (hg : w.grownBy w' row) (hne : ∀ k, row = some k → blk A ≠ some k) : Own w' base e size A n c xs := h.grown hg hne
theorem Room.over (h : Room w g l) (hg : w.grownBy w' row) (hne : ∀ k, row = some k → some g ≠ some k) : Room w' g l := Room.grown h hg (fun e => hne g e rfl)
theorem Blk.over (h : Blk w g t cs) (hg : w.grownBy w' row) (hne : ∀ k, row = some k → some g ≠ some k) : Blk w' g t cs := h.grown hg (fun e => hne g e.symm rfl)
end
end Go.Proofs.Ytkbaganbfcbioaa
namespace Go.Proofs.Ytkbaganbfcbioaa
set_option linter.unusedSimpArgs false
set_option linter.unusedVariables false
open Go.RowKit

/-- A list of eight numbers that may be. -/
def wordsMay (l : List Int) : Prop := l.length = 8 ∧ ∀ x ∈ l, 0 ≤ x ∧ x ≤ 4294967295
theorem Rd.intE {w : World} {A : Option Addr} {l : List Int} {k : Nat} (h : Rd w A (ivs l)) (hk : k < l.length) : ∃ b off, A = some ⟨b, off, none⟩ ∧ w.cell? ⟨b, off + k, none⟩ = some (.int .i64 (l.getD k 0)) := by
  obtain ⟨b, off, e, hc⟩ := h.int hk
  refine ⟨b, off, e, ?_⟩
  rw [hc]
  simp [List.getD, hk]
theorem getD_mem {l : List Int} {k : Nat} (h : k < l.length) : l.getD k 0 ∈ l := by
  simp [List.getD, h]
theorem bad_some {l : List Int} (h : ¬ ∀ x ∈ l, 0 ≤ x ∧ x ≤ 4294967295) : ∃ k, k < l.length ∧ ¬ (0 ≤ l.getD k 0 ∧ l.getD k 0 ≤ 4294967295) ∧ ∀ j, j < k → 0 ≤ l.getD j 0 ∧ l.getD j 0 ≤ 4294967295 := by
  induction l with
  | nil => exact absurd (fun x hx => by cases hx) h
  | cons x l ih =>
    by_cases hx : 0 ≤ x ∧ x ≤ 4294967295
    · obtain ⟨k, hk, h1, h2⟩ := ih (fun hall => h (fun y hy => by rcases List.mem_cons.1 hy with rfl | hy; exact hx; exact hall y hy))
      refine ⟨k + 1, by simpa using hk, by simpa using h1, fun j hj => ?_⟩
      rcases j with _ | j
      · simpa using hx
      · simpa using h2 j (by omega)
    · exact ⟨0, by simp, by simpa using hx, fun j hj => by omega⟩

set_option maxHeartbeats 1600000 in
set_option maxRecDepth 100000 in
theorem rpadded_size (A : Option Addr) (n cp : Nat) (counter index : Int) (w : World) (h : n ≠ 8) (hn : n ≤ 140737488351300) :
    Calls Try.prog 59 #[.slice A n cp, .int .i64 counter, .int .i64 index] w fun e w' => e = .returned (.int .i64 1) ∧ w = w' := by
  have d : ((n : Int) != 8) = true := by simp; omega
  go_enter Try.func59, Try.ntmps59
  go_wp2
  go_ret
  exact ⟨rfl, rfl⟩

/-- What the loop over the words finds first. -/
def firstBad (l : List Int) (m : Nat) : Prop := m ≤ 8 ∧ (∀ j, j < m → 0 ≤ l.getD j 0 ∧ l.getD j 0 ≤ 4294967295) ∧ (m < 8 → ¬ (0 ≤ l.getD m 0 ∧ l.getD m 0 ≤ 4294967295))
theorem firstBad_ex (l : List Int) (hl : l.length = 8) : ∃ m, firstBad l m ∧ ((∀ x ∈ l, 0 ≤ x ∧ x ≤ 4294967295) ↔ m = 8) := by
  by_cases h : ∀ x ∈ l, 0 ≤ x ∧ x ≤ 4294967295
  · exact ⟨8, ⟨Nat.le_refl _, fun j hj => h _ (getD_mem (by omega)), fun h => absurd h (by omega)⟩, fun _ => rfl, fun _ => h⟩
  · obtain ⟨k, hk, h1, h2⟩ := bad_some h
    exact ⟨k, ⟨by omega, h2, fun _ => h1⟩, fun hh => absurd hh h, fun e => by omega⟩
/-- Is it all in its range? -/
def rangeB (m : Nat) (counter index : Int) : Int := if m = 8 ∧ 0 ≤ counter ∧ counter ≤ 281474976710655 ∧ 0 ≤ index ∧ index ≤ 1000 then 0 else 2

set_option maxHeartbeats 1600000 in
set_option maxRecDepth 100000 in
theorem rpadded_words (A : Option Addr) (l : List Int) (cp m : Nat) (counter index : Int) (w : World) (hl : l.length = 8) (ha : Rd w A (ivs l)) (hm : firstBad l m) :
    Calls Try.prog 59 #[.slice A 8 cp, .int .i64 counter, .int .i64 index] w fun e w' => e = .returned (.int .i64 (rangeB m counter index)) ∧ w = w' := by
  obtain ⟨hm8, hgood, hbad⟩ := hm
  have HG := Lib.hid hgood
  have HB := Lib.hid hbad
  clear hgood hbad
  have HR : Hid (rangeB m counter index = if m = 8 ∧ 0 ≤ counter ∧ counter ≤ 281474976710655 ∧ 0 ≤ index ∧ index ≤ 1000 then 0 else 2) := Lib.hid rfl
  generalize rangeB m counter index = R at *
  go_enter Try.func59, Try.ntmps59
  go_wp2_with fail
  go_loop [7] (fun i => ∃ k : Nat, k ≤ m ∧ i = .int .i64 k) (fun i => 8 - (intOf i).toNat)
  case atStart => exact ⟨0, by omega, by simp⟩
  case round =>
    obtain ⟨k, hk, rfl⟩ := hrel
    by_cases h8 : k = 8
    · subst h8
      obtain rfl : m = 8 := by omega
      by_cases g1 : 0 ≤ counter ∧ counter ≤ 281474976710655 ∧ 0 ≤ index ∧ index ≤ 1000
      · obtain ⟨a1, a2, a3, a4⟩ := g1
        go_wp2
        go_ret
        exact ⟨ret_int (by rw [HR.out, if_pos (by exact ⟨by first | rfl | trivial, a1, a2, a3, a4⟩)]), rfl⟩
      · have hR : R = 2 := by rw [HR.out, if_neg (by omega)]
        have HR2 := Lib.hid hR
        clear HR hR
        by_cases b1 : counter < 0
        · go_wp2
          go_ret
          exact ⟨ret_int HR2.out.symm, rfl⟩
        · by_cases b2 : 281474976710655 < counter
          · have d1 : decide (counter < 0) = false := by simp; omega
            go_wp2
            go_ret
            exact ⟨ret_int HR2.out.symm, rfl⟩
          · by_cases b3 : index < 0
            · have d1 : decide (counter < 0) = false := by simp; omega
              have d2 : decide (281474976710655 < counter) = false := by simp; omega
              go_wp2
              go_ret
              exact ⟨ret_int HR2.out.symm, rfl⟩
            · have b4 : 1000 < index := by omega
              have d1 : decide (counter < 0) = false := by simp; omega
              have d2 : decide (281474976710655 < counter) = false := by simp; omega
              have d3 : decide (index < 0) = false := by simp; omega
              go_wp2
              go_ret
              exact ⟨ret_int HR2.out.symm, rfl⟩
    · have k8 : k < 8 := by omega
      obtain ⟨b, off, rfl, hc⟩ := ha.intE (k := k) (by omega)
      have in0 : (0 : Int) ≤ (k : Int) := by omega
      have in1 : (k : Int) < 8 := by omega
      by_cases hkm : k < m
      · have g := HG.out k hkm
        obtain ⟨g1, g2⟩ := g
        generalize l.getD k 0 = x at *
        have d1 : decide (x < 0) = false := by simp; omega
        have d2 : decide (4294967295 < x) = false := by simp; omega
        go_wp2
        go_round
        case rel => exact ⟨k + 1, by omega, by go_num⟩
        case measure => simp [intOf]; omega
      · obtain rfl : k = m := by omega
        have g := HB.out k8
        have hR : R = 2 := by rw [HR.out, if_neg (by omega)]
        have HR2 := Lib.hid hR
        clear HR hR HG HB
        generalize l.getD k 0 = x at *
        by_cases c1 : x < 0
        · have d1 : decide (x < 0) = true := by simp; omega
          go_wp2
          go_ret
          exact ⟨ret_int HR2.out.symm, rfl⟩
        · have d1 : decide (x < 0) = false := by simp; omega
          have d2 : decide (4294967295 < x) = true := by simp; omega
          clear g
          go_wp2
          go_ret
          exact ⟨ret_int HR2.out.symm, rfl⟩
theorem padErr_words {l : List Int} {m : Nat} (counter index : Int) (hl : l.length = 8) (h : (∀ x ∈ l, 0 ≤ x ∧ x ≤ 4294967295) ↔ m = 8) : padErr l counter index = rangeB m counter index := by
  unfold padErr rangeB
  rw [if_neg (by omega)]
  by_cases e : m = 8
  · have hh := h.2 e
    by_cases c : 0 ≤ counter ∧ counter ≤ 281474976710655 ∧ 0 ≤ index ∧ index ≤ 1000
    · rw [if_pos ⟨hh, c⟩, if_pos ⟨e, c⟩]
    · rw [if_neg (fun k => c k.2), if_neg (fun k => c k.2)]
  · rw [if_neg (fun hh => e (h.1 hh.1)), if_neg (fun hh => e hh.1)]
theorem rpadded_any (A : Option Addr) (l : List Int) (n cp : Nat) (counter index : Int) (w : World) (hl : l.length = n) (ha : Rd w A (ivs l)) (hn : n ≤ 140737488351300) :
    Calls Try.prog 59 #[.slice A n cp, .int .i64 counter, .int .i64 index] w fun e w' => e = .returned (.int .i64 (padErr l counter index)) ∧ w = w' := by
  by_cases h : n = 8
  · subst h
    obtain ⟨m, h1, h2⟩ := firstBad_ex l hl
    rw [padErr_words counter index hl h2]
    exact rpadded_words A l cp m counter index w hl ha h1
  · have e : padErr l counter index = 1 := by unfold padErr; rw [if_pos (by omega)]
    rw [e]
    exact rpadded_size A n cp counter index w h hn
end Go.Proofs.Ytkbaganbfcbioaa
