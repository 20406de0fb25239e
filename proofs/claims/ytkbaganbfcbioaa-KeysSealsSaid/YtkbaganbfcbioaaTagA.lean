/-
  Tags, of anything: the document's and the program's.
-/
import Derived.Test.YtkbaganbfcbioaaTagD
import Derived.Test.YtkbaganbfcbioaaTagT
import Derived.Test.YtkbaganbfcbioaaCopied
namespace Go.Proofs.Ytkbaganbfcbioaa
set_option linter.unusedSimpArgs false
set_option linter.unusedVariables false
open Go.RowKit

theorem tagR_len {l : List Int} {C : Int} {b r : List UInt8} {k : Int} (h : tagR l C b = (r, k)) : r.length ≤ 8 := by
  unfold tagR at h
  split at h
  · injection h with h1 h2
    rw [← h1, tagL_len]
    omega
  · injection h with h1 h2
    rw [← h1]
    simp
theorem tagErr_zero {l : List Int} {C : Int} {n : Nat} (h : tagErr l C n = 0) : padErr l C 0 = 0 ∧ n ≤ 2000 := by
  unfold tagErr at h
  split at h
  · rename_i h1; exact absurd h h1
  · rename_i h1
    split at h
    · omega
    · exact ⟨Decidable.byContradiction h1, by omega⟩
set_option maxHeartbeats 1600000 in
set_option maxRecDepth 100000 in
theorem rtag_bad (A : Option Addr) (l : List Int) (n cp : Nat) (C : Int) (B : Option Addr) (m c : Nat) (w : World) (hl : l.length = n) (ha : Rd w A (ivs l)) (hn : n ≤ 140737488351300) (h : padErr l C 0 ≠ 0) :
    Calls Try.prog 16 #[.slice A n cp, .int .i64 C, .slice B m c] w fun e w' => BytesRes w w' ([], padErr l C 0) e := by
  have hP := Lib.hid (pad_bad A l n cp C 0 w hl ha hn h)
  have d : (padErr l C 0 != 0) = true := by simpa using h
  generalize padErr l C 0 = r at *
  clear ha hl h
  go_enter Try.func16, Try.ntmps16
  go_wp2_with fail
  refine hP.out.mono ?_
  rintro e w' ⟨A1, c1, rfl, hO, hb⟩
  go_wp2
  go_ret2
  exact BytesRes.none_ hb
set_option maxHeartbeats 1600000 in
set_option maxRecDepth 100000 in
theorem rtag_size2 (A : Option Addr) (n cp : Nat) (C : Int) (B : Option Addr) (m c : Nat) (w : World) (L : List UInt8) (hP : Calls Try.prog 39 #[.slice A n cp, .int .i64 C, .int .i64 0] w fun e w' => BytesRes w w' (L, 0) e) (h : 2000 < m) :
    Calls Try.prog 16 #[.slice A n cp, .int .i64 C, .slice B m c] w fun e w' => BytesRes w w' ([], 1) e := by
  have d : decide ((2000 : Int) < (m : Int)) = true := decide_eq_true (by omega)
  have HP := Lib.hid hP
  clear h hP
  go_enter Try.func16, Try.ntmps16
  go_wp2_with fail
  refine HP.out.mono ?_
  rintro e w' ⟨A1, c1, rfl, hO, hb⟩
  go_wp2
  go_ret2
  exact BytesRes.none_ hb
theorem rtag_any (A : Option Addr) (l : List Int) (cp : Nat) (C : Int) (B : Option Addr) (b : List UInt8) (c : Nat) (w : World) (ha : Rd w A (ivs l)) (hn : l.length ≤ 140737488351300) (hb : Rd w B (bvs b)) :
    Calls Try.prog 16 #[.slice A l.length cp, .int .i64 C, .slice B b.length c] w fun e w' => BytesRes w w' (tagR l C b) e := by
  by_cases h : padErr l C 0 = 0
  · have hpad := pad_any A l cp C 0 w ha hn
    unfold padR at hpad
    rw [if_pos h] at hpad
    obtain ⟨h8, hl, c0, c1, i0, i1⟩ := padErr_zero h
    by_cases hs : 2000 < b.length
    · have e : tagErr l C b.length = 1 := by unfold tagErr; rw [if_neg (by simpa using h), if_pos hs]
      unfold tagR
      rw [e, if_neg (by decide)]
      exact rtag_size2 A l.length cp C B b.length c w _ hpad hs
    · have e : tagErr l C b.length = 0 := by unfold tagErr; rw [if_neg (by simpa using h), if_neg hs]
      unfold tagR
      rw [if_pos e]
      obtain ⟨e1, e2⟩ := toNats hl
      obtain ⟨C, rfl⟩ := Int.eq_ofNat_of_zero_le c0
      rw [h8] at hpad ⊢
      have hw8 : (l.map Int.toNat).length = 8 := by simpa using h8
      have := rtag_good A (l.map Int.toNat) cp C B b.length c b w (by rw [e1]; exact ha) (by omega) (by simpa using hpad) rfl hb (by omega)
      simpa using this
  · have e : tagErr l C b.length = padErr l C 0 := by unfold tagErr; rw [if_pos h]
    unfold tagR
    rw [e, if_neg h]
    exact rtag_bad A l _ cp C B _ c w rfl ha hn h

set_option maxHeartbeats 1600000 in
set_option maxRecDepth 100000 in
theorem kTag_bad (A : Option Addr) (l : List Int) (n cp : Nat) (C : Int) (B : Option Addr) (m c : Nat) (w : World) (hl : l.length = n) (ha : Rd w A (ivs l)) (hn : n ≤ 140737488351300) (h : padErr l C 0 ≠ 0) :
    Calls Try.prog 17 #[.slice A n cp, .int .i64 C, .slice B m c] w fun e w' => BytesRes w w' ([], padErr l C 0) e := by
  have hP := Lib.hid (fits_any A l n cp C 0 w hl ha hn)
  have d : (padErr l C 0 != 0) = true := by simpa using h
  generalize padErr l C 0 = r at *
  clear ha hl h
  go_enter Try.func17, Try.ntmps17
  go_wp2_with fail
  refine hP.out.mono ?_
  rintro e w' ⟨rfl, rfl⟩
  go_wp2
  go_ret2
  exact BytesRes.none_ (Below.refl _ _)
set_option maxHeartbeats 1600000 in
set_option maxRecDepth 100000 in
theorem kTag_size (A : Option Addr) (l : List Int) (n cp : Nat) (C : Int) (B : Option Addr) (m c : Nat) (w : World) (hl : l.length = n) (ha : Rd w A (ivs l)) (hn : n ≤ 140737488351300) (h0 : padErr l C 0 = 0) (h : 2000 < m) :
    Calls Try.prog 17 #[.slice A n cp, .int .i64 C, .slice B m c] w fun e w' => BytesRes w w' ([], 1) e := by
  have hP := Lib.hid (fits_any A l n cp C 0 w hl ha hn)
  rw [h0] at hP
  have d : decide ((2000 : Int) < (m : Int)) = true := decide_eq_true (by omega)
  clear ha hl h h0
  go_enter Try.func17, Try.ntmps17
  go_wp2_with fail
  refine hP.out.mono ?_
  rintro e w' ⟨rfl, rfl⟩
  go_wp2
  go_ret2
  exact BytesRes.none_ (Below.refl _ _)
set_option maxHeartbeats 1600000 in
set_option maxRecDepth 100000 in
theorem kTag_good (A : Option Addr) (l : List Int) (cp : Nat) (C : Int) (B : Option Addr) (m c : Nat) (T : List UInt8) (w : World) (hl : l.length = 8) (ha : Rd w A (ivs l)) (h0 : padErr l C 0 = 0) (h : m ≤ 2000) (hT : T.length = 8)
    (hK : Calls Try.prog 43 #[.slice A 8 cp, .int .i64 C, .slice B m c] w fun e w' => RowsOut w w' T e) :
    Calls Try.prog 17 #[.slice A 8 cp, .int .i64 C, .slice B m c] w fun e w' => BytesRes w w' (T, 0) e := by
  have hP := Lib.hid (fits_any A l 8 cp C 0 w hl ha (by omega))
  rw [h0] at hP
  have HK := Lib.hid hK
  have d : decide ((2000 : Int) < (m : Int)) = false := decide_eq_false (by omega)
  clear ha hl h h0 hK
  go_enter Try.func17, Try.ntmps17
  go_wp2_with fail
  refine hP.out.mono ?_
  rintro e w' ⟨rfl, rfl⟩
  go_wp2_with fail
  refine HK.out.mono ?_
  rintro e w' ⟨A', c', rfl, hO, hB⟩
  rw [hT] at hO ⊢
  go_wp2
  go_ret2
  exact ⟨A', c', by rw [hT]; rfl, by show Own _ _ _ _ _ T.length _ _; rw [hT]; exact hO, hB⟩
theorem kTag_any (A : Option Addr) (l : List Int) (cp : Nat) (C : Int) (g off : Nat) (b : List UInt8) (c : Nat) (w : World) (ha : Rd w A (ivs l)) (hn : l.length ≤ 140737488351300) (hb : Rd w (some ⟨g, off, none⟩) (bvs b)) (hc : b.length ≤ c) (hg : g < w.heap.size) :
    Calls Try.prog 17 #[.slice A l.length cp, .int .i64 C, .slice (some ⟨g, off, none⟩) b.length c] w fun e w' => BytesRes w w' (tagR l C b) e := by
  by_cases h : padErr l C 0 = 0
  · obtain ⟨h8, hl, c0, c1, i0, i1⟩ := padErr_zero h
    by_cases hs : 2000 < b.length
    · have e : tagErr l C b.length = 1 := by unfold tagErr; rw [if_neg (by simpa using h), if_pos hs]
      unfold tagR
      rw [e, if_neg (by decide)]
      exact kTag_size A l _ cp C _ _ c w rfl ha hn h hs
    · have e : tagErr l C b.length = 0 := by unfold tagErr; rw [if_neg (by simpa using h), if_neg hs]
      unfold tagR
      rw [if_pos e]
      obtain ⟨e1, e2⟩ := toNats hl
      obtain ⟨C, rfl⟩ := Int.eq_ofNat_of_zero_le c0
      rw [h8]
      have hw8 : (l.map Int.toNat).length = 8 := by simpa using h8
      exact kTag_good A l cp _ _ _ c _ w h8 ha h (by omega) (tagL_len _ _ _) (ktag_good A (l.map Int.toNat) cp C g off b.length c b w hw8 e2 (by rw [e1]; exact ha) (by omega) (first_sq hw8 e2 (by omega) (by omega)) rfl hb hc (by omega) hg)
  · have e : tagErr l C b.length = padErr l C 0 := by unfold tagErr; rw [if_pos h]
    unfold tagR
    rw [e, if_neg h]
    exact kTag_bad A l _ cp C _ _ c w rfl ha hn h
end Go.Proofs.Ytkbaganbfcbioaa
