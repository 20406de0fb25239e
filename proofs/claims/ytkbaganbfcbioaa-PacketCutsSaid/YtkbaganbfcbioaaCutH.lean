/-
  The program's Cut, of anything.
-/
import Derived.Test.YtkbaganbfcbioaaCutG
namespace Go.Proofs.Ytkbaganbfcbioaa
set_option linter.unusedSimpArgs false
set_option linter.unusedVariables false
open Go.RowKit

set_option maxHeartbeats 3200000 in
set_option maxRecDepth 100000 in
theorem pcut_range (up : Bool) (apid count : Int) (A : Option Addr) (len c : Nat) (most : Int) (w : World) (h : apid < 0 ∨ 2047 ≤ apid ∨ count < 0 ∨ 16383 < count) :
    Calls Try.prog 11 #[.bool up, .int .i64 apid, .int .i64 count, .slice A len c, .int .i64 most] w fun e w' => PksRes w w' ([], 2) e := by
  by_cases h1 : apid < 0
  · clear h
    go_enter Try.func11, Try.ntmps11
    go_wp2
    go_ret2
    exact PksRes.none_ ((((Below.refl _ _).alloc (Nat.le_refl _) _).alloc (by simp) _).alloc (by simp; omega) _)
  by_cases h2 : 2047 ≤ apid
  · clear h
    go_enter Try.func11, Try.ntmps11
    go_wp2
    go_ret2
    exact PksRes.none_ ((((Below.refl _ _).alloc (Nat.le_refl _) _).alloc (by simp) _).alloc (by simp; omega) _)
  by_cases h3 : count < 0
  · clear h
    go_enter Try.func11, Try.ntmps11
    go_wp2
    go_ret2
    exact PksRes.none_ ((((Below.refl _ _).alloc (Nat.le_refl _) _).alloc (by simp) _).alloc (by simp; omega) _)
  · have h4 : 16383 < count := by omega
    clear h
    go_enter Try.func11, Try.ntmps11
    go_wp2
    go_ret2
    exact PksRes.none_ ((((Below.refl _ _).alloc (Nat.le_refl _) _).alloc (by simp) _).alloc (by simp; omega) _)
set_option maxHeartbeats 3200000 in
set_option maxRecDepth 100000 in
theorem pcut_size (up : Bool) (apid count : Int) (A : Option Addr) (len c : Nat) (most : Int) (w : World) (h1 : ¬ apid < 0) (h2 : ¬ 2047 ≤ apid) (h3 : ¬ count < 0) (h4 : ¬ 16383 < count) (hn : len ≤ 140737488351300)
    (h : len = 0 ∨ 1048576 < len ∨ most < 1 ∨ 65536 < most ∨ 16384 < pieces len most.toNat) :
    Calls Try.prog 11 #[.bool up, .int .i64 apid, .int .i64 count, .slice A len c, .int .i64 most] w fun e w' => PksRes w w' ([], 1) e := by
  by_cases h5 : len = 0
  · clear h
    subst h5
    go_enter Try.func11, Try.ntmps11
    go_wp2
    go_ret2
    exact PksRes.none_ ((((Below.refl _ _).alloc (Nat.le_refl _) _).alloc (by simp) _).alloc (by simp; omega) _)
  have h5i : ¬ (len : Int) = 0 := by omega
  by_cases h6 : 1048576 < len
  · clear h
    have h6i : (1048576 : Int) < (len : Int) := by omega
    go_enter Try.func11, Try.ntmps11
    go_wp2
    go_ret2
    exact PksRes.none_ ((((Below.refl _ _).alloc (Nat.le_refl _) _).alloc (by simp) _).alloc (by simp; omega) _)
  have h6i : ¬ (1048576 : Int) < (len : Int) := by omega
  by_cases h7 : most < 1
  · clear h
    go_enter Try.func11, Try.ntmps11
    go_wp2
    go_ret2
    exact PksRes.none_ ((((Below.refl _ _).alloc (Nat.le_refl _) _).alloc (by simp) _).alloc (by simp; omega) _)
  by_cases h8 : 65536 < most
  · clear h
    go_enter Try.func11, Try.ntmps11
    go_wp2
    go_ret2
    exact PksRes.none_ ((((Below.refl _ _).alloc (Nat.le_refl _) _).alloc (by simp) _).alloc (by simp; omega) _)
  · obtain ⟨m, rfl⟩ : ∃ m : Nat, most = (m : Int) := ⟨most.toNat, by omega⟩
    have hp : 16384 < pieces len m := by
      rcases h with h | h | h | h | h
      · omega
      · omega
      · omega
      · omega
      · simpa using h
    clear h
    have h8i : ¬ (65536 : Int) < (m : Int) := by omega
    have hm0 : ¬ (m : Int) = 0 := by omega
    have hpp := pieces_pred (len := len) (s := m) (by omega) (by omega)
    have hq : ((len : Int) - 1).tdiv (m : Int) = (((len - 1) / m : Nat) : Int) := by
      rw [Int.tdiv_eq_ediv_of_nonneg (by omega), show (len : Int) - 1 = ((len - 1 : Nat) : Int) by omega]
      exact (Int.natCast_ediv _ _).symm
    have hq2 : ((len : Int) - 1) / (m : Int) = (((len - 1) / m : Nat) : Int) := by
      rw [← hq, Int.tdiv_eq_ediv_of_nonneg (by omega)]
    have hNb : (((len - 1) / m : Nat) : Int) ≤ 1200000 := by
      have : (len - 1) / m ≤ len - 1 := Nat.div_le_self _ _
      omega
    rw [hpp] at hp
    clear hpp
    generalize (len - 1) / m = N at *
    have hpi : (16383 : Int) < (N : Int) := by omega
    go_enter Try.func11, Try.ntmps11
    go_wp2
    go_ret2
    exact PksRes.none_ ((((Below.refl _ _).alloc (Nat.le_refl _) _).alloc (by simp) _).alloc (by simp; omega) _)
/-- The program's Cut, of anything. -/
theorem pcut_any (up : Bool) (apid count : Int) (A : Option Addr) (u : List UInt8) (len c : Nat) (most : Int) (w : World) (hl : u.length = len) (ha : Rd w A (bvs u)) (hc : len ≤ c) (hn : len ≤ 140737488351300) :
    Calls Try.prog 11 #[.bool up, .int .i64 apid, .int .i64 count, .slice A len c, .int .i64 most] w fun e w' => PksRes w w' (cutR up apid count u most) e := by
  unfold cutR
  rw [hl]
  by_cases h : apid < 0 ∨ 2047 ≤ apid ∨ count < 0 ∨ 16383 < count
  · have he : cutErr apid count len most = 2 := if_pos h
    rw [he, if_neg (by omega)]
    exact pcut_range up apid count A len c most w h
  · by_cases h2 : len = 0 ∨ 1048576 < len ∨ most < 1 ∨ 65536 < most ∨ 16384 < pieces len most.toNat
    · have he : cutErr apid count len most = 1 := by unfold cutErr; rw [if_neg h, if_pos h2]
      rw [he, if_neg (by omega)]
      exact pcut_size up apid count A len c most w (by omega) (by omega) (by omega) (by omega) hn h2
    · have he : cutErr apid count len most = 0 := by unfold cutErr; rw [if_neg h, if_neg h2]
      rw [he, if_pos rfl]
      simp only [not_or] at h h2
      obtain ⟨m, rfl⟩ : ∃ m : Nat, most = (m : Int) := ⟨most.toNat, by omega⟩
      obtain ⟨cn, rfl⟩ : ∃ m : Nat, count = (m : Int) := ⟨count.toNat, by omega⟩
      obtain ⟨b, off, rfl, hcell⟩ := ha.byte (k := 0) (by omega)
      rw [Int.toNat_natCast] at h2 ⊢
      rw [Int.toNat_natCast]
      exact pcut_good up apid cn b off u len c m w (by omega) (by omega) (by omega) hl ha hc (by omega) (by omega) (by omega) (by omega) (by omega) (World.block_lt_of_cell? w ⟨b, off + 0, none⟩ hcell)
end Go.Proofs.Ytkbaganbfcbioaa
