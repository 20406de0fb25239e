/-
  Weave, the document's and the program's, of anything.
-/
import Derived.Test.YtolcaolmdfbfhaaWeaveR
namespace Go.Proofs.Ytolcaolmdfbfhaa
set_option linter.unusedSimpArgs false
set_option linter.unusedVariables false
open Go.RowKit

def weaveOk (n : Nat) (d ck : Int) : Prop := 1 ≤ d ∧ d ≤ 8 ∧ 0 < n ∧ n % d.toNat = 0 ∧ sizedB ((n / d.toNat : Nat) + ck) ck = true
instance (n : Nat) (d ck : Int) : Decidable (weaveOk n d ck) := by unfold weaveOk; infer_instance
def weaveF (l : List UInt8) (d ck : Int) : List UInt8 × Int := if weaveOk l.length d ck then (progW l d.toNat (l.length / d.toNat) ck.toNat d.toNat, 0) else ([], 1)
theorem weaveF_no {l : List UInt8} {d ck : Int} (h : ¬ weaveOk l.length d ck) : weaveF l d ck = ([], 1) := if_neg h

set_option maxHeartbeats 6400000 in
set_option maxRecDepth 100000 in
theorem rweave_any (A : Option Addr) (l : List UInt8) (n c : Nat) (d ck : Int) (w : World) (hl : l.length = n) (ha : Rd w A (bvs l)) (hn : n ≤ 140737488351300) :
    Calls Try.prog 59 #[.slice A n c, .int .i64 d, .int .i64 ck] w fun e w' => BytesRes w w' (weaveF l d ck) e := by
  by_cases h1 : d < 1
  · rw [weaveF_no (fun h => by have := h.1; omega)]
    have d1 : decide (d < 1) = true := by simpa using h1
    clear hl
    go_enter Try.func59, Try.ntmps59
    go_wp2
    go_ret2
    exact BytesRes.none_ (Below.refl _ _)
  have d1 : decide (d < 1) = false := by simp; omega
  by_cases h2 : 8 < d
  · rw [weaveF_no (fun h => by have := h.2.1; omega)]
    have d2 : decide (8 < d) = true := by simpa using h2
    clear hl
    go_enter Try.func59, Try.ntmps59
    go_wp2
    go_ret2
    exact BytesRes.none_ (Below.refl _ _)
  have d2 : decide (8 < d) = false := by simp; omega
  obtain ⟨D, rfl⟩ := Int.eq_ofNat_of_zero_le (show 0 ≤ d by omega)
  have hD1 : 1 ≤ D := by omega
  have hD8 : D ≤ 8 := by omega
  by_cases h3 : n = 0
  · subst h3
    rw [weaveF_no (fun h => by have := h.2.2.1; omega)]
    clear hl h1 h2
    go_enter Try.func59, Try.ntmps59
    go_wp2
    go_ret2
    exact BytesRes.none_ (Below.refl _ _)
  have d3 : ((n : Int) == 0) = false := by simp; omega
  have dz : ¬ ((D : Int) = 0) := by omega
  by_cases h4 : n % D = 0
  · obtain ⟨k, hk⟩ : ∃ k, n = k * D := ⟨n / D, by have := Nat.div_add_mod n D; rw [h4] at this; rw [Nat.mul_comm]; exact this.symm⟩
    have hkD : n / D = k := by rw [hk]; exact Nat.mul_div_cancel _ (by omega)
    have hk0 : 1 ≤ k := by
      rcases Nat.eq_zero_or_pos k with e | e
      · rw [e] at hk; omega
      · exact e
    by_cases h5 : 1 ≤ ck ∧ ck ≤ 64 ∧ (k : Int) + ck ≤ 255
    · obtain ⟨h51, h52, h53⟩ := h5
      obtain ⟨C, rfl⟩ := Int.eq_ofNat_of_zero_le (show 0 ≤ ck by omega)
      have e : weaveF l (D : Int) (C : Int) = (refW l D k C D, 0) := by
        unfold weaveF
        rw [if_pos (show weaveOk l.length (D : Int) (C : Int) from ⟨by omega, by omega, by omega, by rw [Int.toNat_natCast, hl]; exact h4, by rw [Int.toNat_natCast, hl, hkD]; exact sizedB_yes ⟨by omega, by omega, by omega, by omega⟩⟩), Int.toNat_natCast, Int.toNat_natCast, hl, hkD]
        all_goals first
          | rfl
          | rw [weave_both l D k C (by omega) (by rw [hl, hk])]
      rw [e]
      exact rweave_good A l n c D k C w hl ha hk hD1 hD8 hk0 (by omega) (by omega) (by omega)
    · rw [weaveF_no (fun h => by
        have h6 := h.2.2.2.2
        rw [Int.toNat_natCast, hl, hkD] at h6
        unfold sizedB at h6
        simp only [decide_eq_true_eq] at h6
        exact h5 ⟨h6.1, h6.2.1, h6.2.2.2⟩)]
      have hk47 : k ≤ n := by rw [hk]; exact Nat.le_mul_of_pos_right k (by omega)
      have HM : Hid ((n : Int) % (D : Int) = 0) := by show _ = _; rw [hk, Int.natCast_mul]; exact Int.mul_emod_left _ _
      have HQ : Hid ((n : Int) / (D : Int) = (k : Int)) := by show _ = _; rw [hk, Int.natCast_mul]; exact Int.mul_ediv_cancel _ (by omega)
      have hz : ∀ (m : Int) (w : World), (1 ≤ ck ∧ ck ≤ 64 → m = (k : Int) + ck) → Calls Try.prog 70 #[.int .i64 m, .int .i64 ck] w fun e w' => e = .returned (.bool false) ∧ w = w' := fun m w hm => by
        have h := rsized_any m ck w
        rwa [sizedB_no (fun h6 => h5 ⟨h6.1, h6.2.1, by have := hm ⟨h6.1, h6.2.1⟩; omega⟩)] at h
      have hz2 : ∀ (m : Int) (w : World), (1 ≤ ck ∧ ck ≤ 64 → m = (k : Int) + ck) → Calls Try.prog 74 #[.int .i64 m, .int .i64 ck] w fun e w' => e = .returned (.bool false) ∧ w = w' := fun m w hm => by
        have h := psized_any m ck w
        rwa [sizedB_no (fun h6 => h5 ⟨h6.1, h6.2.1, by have := hm ⟨h6.1, h6.2.1⟩; omega⟩)] at h
      have HZ := Lib.hid hz
      have HZ2 := Lib.hid hz2
      clear hz hz2 hl hk h4 h1 h2 h5 hkD
      by_cases hck : 1 ≤ ck ∧ ck ≤ 64
      · obtain ⟨c1, c2⟩ := hck
        have hm0 := HM.out
        have hq0 := HQ.out
        go_enter Try.func59, Try.ntmps59
        go_wp2_with fail
        first
          | (with_reducible refine (HZ.out _ _ ?_).mono ?_)
          | (with_reducible refine (HZ2.out _ _ ?_).mono ?_)
        · intro _; rfl
        rintro e _ ⟨rfl, rfl⟩
        clear hm0 hq0
        go_wp2
        go_ret2
        exact BytesRes.none_ (Below.refl _ _)
      · have hm0 := HM.out
        have hq0 := HQ.out
        go_enter Try.func59, Try.ntmps59
        go_wp2_with fail
        first
          | (with_reducible refine (HZ.out _ _ ?_).mono ?_)
          | (with_reducible refine (HZ2.out _ _ ?_).mono ?_)
        · intro h; exact absurd h hck
        rintro e _ ⟨rfl, rfl⟩
        clear hm0 hq0
        go_wp2
        go_ret2
        exact BytesRes.none_ (Below.refl _ _)
  · rw [weaveF_no (fun h => h4 (by have := h.2.2.2.1; rw [Int.toNat_natCast, hl] at this; exact this))]
    have d4 : ((n : Int) % (D : Int) != 0) = true := by
      rw [bne_iff_ne]
      intro h
      exact h4 (by omega)
    clear hl h1 h2 h4
    go_enter Try.func59, Try.ntmps59
    go_wp2
    go_ret2
    exact BytesRes.none_ (Below.refl _ _)
set_option maxHeartbeats 6400000 in
set_option maxRecDepth 100000 in
theorem pweave_any (A : Option Addr) (l : List UInt8) (n c : Nat) (d ck : Int) (w : World) (hl : l.length = n) (ha : Rd w A (bvs l)) (hn : n ≤ 140737488351300) :
    Calls Try.prog 60 #[.slice A n c, .int .i64 d, .int .i64 ck] w fun e w' => BytesRes w w' (weaveF l d ck) e := by
  by_cases h1 : d < 1
  · rw [weaveF_no (fun h => by have := h.1; omega)]
    have d1 : decide (d < 1) = true := by simpa using h1
    clear hl
    go_enter Try.func60, Try.ntmps60
    go_wp2
    go_ret2
    exact BytesRes.none_ (Below.refl _ _)
  have d1 : decide (d < 1) = false := by simp; omega
  by_cases h2 : 8 < d
  · rw [weaveF_no (fun h => by have := h.2.1; omega)]
    have d2 : decide (8 < d) = true := by simpa using h2
    clear hl
    go_enter Try.func60, Try.ntmps60
    go_wp2
    go_ret2
    exact BytesRes.none_ (Below.refl _ _)
  have d2 : decide (8 < d) = false := by simp; omega
  obtain ⟨D, rfl⟩ := Int.eq_ofNat_of_zero_le (show 0 ≤ d by omega)
  have hD1 : 1 ≤ D := by omega
  have hD8 : D ≤ 8 := by omega
  by_cases h3 : n = 0
  · subst h3
    rw [weaveF_no (fun h => by have := h.2.2.1; omega)]
    clear hl h1 h2
    go_enter Try.func60, Try.ntmps60
    go_wp2
    go_ret2
    exact BytesRes.none_ (Below.refl _ _)
  have d3 : ((n : Int) == 0) = false := by simp; omega
  have dz : ¬ ((D : Int) = 0) := by omega
  by_cases h4 : n % D = 0
  · obtain ⟨k, hk⟩ : ∃ k, n = k * D := ⟨n / D, by have := Nat.div_add_mod n D; rw [h4] at this; rw [Nat.mul_comm]; exact this.symm⟩
    have hkD : n / D = k := by rw [hk]; exact Nat.mul_div_cancel _ (by omega)
    have hk0 : 1 ≤ k := by
      rcases Nat.eq_zero_or_pos k with e | e
      · rw [e] at hk; omega
      · exact e
    by_cases h5 : 1 ≤ ck ∧ ck ≤ 64 ∧ (k : Int) + ck ≤ 255
    · obtain ⟨h51, h52, h53⟩ := h5
      obtain ⟨C, rfl⟩ := Int.eq_ofNat_of_zero_le (show 0 ≤ ck by omega)
      have e : weaveF l (D : Int) (C : Int) = (progW l D k C D, 0) := by
        unfold weaveF
        rw [if_pos (show weaveOk l.length (D : Int) (C : Int) from ⟨by omega, by omega, by omega, by rw [Int.toNat_natCast, hl]; exact h4, by rw [Int.toNat_natCast, hl, hkD]; exact sizedB_yes ⟨by omega, by omega, by omega, by omega⟩⟩), Int.toNat_natCast, Int.toNat_natCast, hl, hkD]
        all_goals first
          | rfl
          | rw [weave_both l D k C (by omega) (by rw [hl, hk])]
      rw [e]
      exact pweave_good A l n c D k C w hl ha hk hD1 hD8 hk0 (by omega) (by omega) (by omega)
    · rw [weaveF_no (fun h => by
        have h6 := h.2.2.2.2
        rw [Int.toNat_natCast, hl, hkD] at h6
        unfold sizedB at h6
        simp only [decide_eq_true_eq] at h6
        exact h5 ⟨h6.1, h6.2.1, h6.2.2.2⟩)]
      have hk47 : k ≤ n := by rw [hk]; exact Nat.le_mul_of_pos_right k (by omega)
      have HM : Hid ((n : Int) % (D : Int) = 0) := by show _ = _; rw [hk, Int.natCast_mul]; exact Int.mul_emod_left _ _
      have HQ : Hid ((n : Int) / (D : Int) = (k : Int)) := by show _ = _; rw [hk, Int.natCast_mul]; exact Int.mul_ediv_cancel _ (by omega)
      have hz : ∀ (m : Int) (w : World), (1 ≤ ck ∧ ck ≤ 64 → m = (k : Int) + ck) → Calls Try.prog 70 #[.int .i64 m, .int .i64 ck] w fun e w' => e = .returned (.bool false) ∧ w = w' := fun m w hm => by
        have h := rsized_any m ck w
        rwa [sizedB_no (fun h6 => h5 ⟨h6.1, h6.2.1, by have := hm ⟨h6.1, h6.2.1⟩; omega⟩)] at h
      have hz2 : ∀ (m : Int) (w : World), (1 ≤ ck ∧ ck ≤ 64 → m = (k : Int) + ck) → Calls Try.prog 74 #[.int .i64 m, .int .i64 ck] w fun e w' => e = .returned (.bool false) ∧ w = w' := fun m w hm => by
        have h := psized_any m ck w
        rwa [sizedB_no (fun h6 => h5 ⟨h6.1, h6.2.1, by have := hm ⟨h6.1, h6.2.1⟩; omega⟩)] at h
      have HZ := Lib.hid hz
      have HZ2 := Lib.hid hz2
      clear hz hz2 hl hk h4 h1 h2 h5 hkD
      by_cases hck : 1 ≤ ck ∧ ck ≤ 64
      · obtain ⟨c1, c2⟩ := hck
        have hm0 := HM.out
        have hq0 := HQ.out
        go_enter Try.func60, Try.ntmps60
        go_wp2_with fail
        first
          | (with_reducible refine (HZ.out _ _ ?_).mono ?_)
          | (with_reducible refine (HZ2.out _ _ ?_).mono ?_)
        · intro _; rfl
        rintro e _ ⟨rfl, rfl⟩
        clear hm0 hq0
        go_wp2
        go_ret2
        exact BytesRes.none_ (Below.refl _ _)
      · have hm0 := HM.out
        have hq0 := HQ.out
        go_enter Try.func60, Try.ntmps60
        go_wp2_with fail
        first
          | (with_reducible refine (HZ.out _ _ ?_).mono ?_)
          | (with_reducible refine (HZ2.out _ _ ?_).mono ?_)
        · intro h; exact absurd h hck
        rintro e _ ⟨rfl, rfl⟩
        clear hm0 hq0
        go_wp2
        go_ret2
        exact BytesRes.none_ (Below.refl _ _)
  · rw [weaveF_no (fun h => h4 (by have := h.2.2.2.1; rw [Int.toNat_natCast, hl] at this; exact this))]
    have d4 : ((n : Int) % (D : Int) != 0) = true := by
      rw [bne_iff_ne]
      intro h
      exact h4 (by omega)
    clear hl h1 h2 h4
    go_enter Try.func60, Try.ntmps60
    go_wp2
    go_ret2
    exact BytesRes.none_ (Below.refl _ _)
theorem weaveF_len (l : List UInt8) (d ck : Int) : (weaveF l d ck).1.length ≤ 2040 := by
  unfold weaveF
  split
  · rename_i h
    obtain ⟨h1, h2, h3, h4, h5⟩ := h
    unfold sizedB at h5
    simp only [decide_eq_true_eq] at h5
    show (progW _ _ _ _ _).length ≤ 2040
    rw [progW_len]
    exact Nat.le_trans (Nat.mul_le_mul (show _ ≤ 255 by omega) (show d.toNat ≤ 8 by omega)) (by omega)
  · simp
end Go.Proofs.Ytolcaolmdfbfhaa
