import Derived.Test.YtppmdamcdhmcpaaSame
import Derived.Test.YtppmdamcdhmcpaaMore
import Derived.Test.YtppmdamcdhmcpaaOrdP
import Derived.Test.YtppmdamcdhmcpaaReady
import Derived.BigGuardPart
namespace Go.Proofs.Ytppmdamcdhmcpaa
set_option linter.unusedSimpArgs false
set_option linter.unusedVariables false
open Go.RowKit

theorem rmay_range (cr : Int) (by_ co : Bool) (sq : Int) (A : Option Addr) (n c : Nat) (w : World) (h : ¬ ((0 ≤ cr ∧ cr ≤ 1023) ∧ (0 ≤ sq ∧ sq ≤ 255))) :
    Calls Try.prog 43 #[.agg #[.int .i64 cr, .bool by_, .bool co, .int .i64 sq, .slice A n c]] w fun e w' => e = .returned (.int .i64 2) ∧ Below w.heap.size w w' := by
  by_cases g1 : cr < 0
  · clear h
    go_enter Try.func43, Try.ntmps43
    go_wp2
    go_ret
    exact ⟨rfl, (by repeat (first | with_reducible exact Below.refl _ _ | with_reducible assumption | with_reducible refine below_drewN ?_ _ | with_reducible refine Below.drew ?_ | with_reducible refine Below.alloc ?_ ?_ _ | with_reducible refine Below.setCell ?_ ?_ _ | with_reducible exact Nat.le_refl _ | (simp; omega) | (simp; done)))⟩
  · replace g1 : 0 ≤ cr := by omega
    by_cases g2 : 1023 < cr
    · clear h
      go_enter Try.func43, Try.ntmps43
      go_wp2
      go_ret
      exact ⟨rfl, (by repeat (first | with_reducible exact Below.refl _ _ | with_reducible assumption | with_reducible refine below_drewN ?_ _ | with_reducible refine Below.drew ?_ | with_reducible refine Below.alloc ?_ ?_ _ | with_reducible refine Below.setCell ?_ ?_ _ | with_reducible exact Nat.le_refl _ | (simp; omega) | (simp; done)))⟩
    · replace g2 : cr ≤ 1023 := by omega
      by_cases g3 : sq < 0
      · clear h
        go_enter Try.func43, Try.ntmps43
        go_wp2
        go_ret
        exact ⟨rfl, (by repeat (first | with_reducible exact Below.refl _ _ | with_reducible assumption | with_reducible refine below_drewN ?_ _ | with_reducible refine Below.drew ?_ | with_reducible refine Below.alloc ?_ ?_ _ | with_reducible refine Below.setCell ?_ ?_ _ | with_reducible exact Nat.le_refl _ | (simp; omega) | (simp; done)))⟩
      · replace g3 : 0 ≤ sq := by omega
        have g4 : 255 < sq := by
          rcases Int.lt_or_le 255 sq with g | g
          · exact g
          · exact absurd ⟨⟨g1, g2⟩, ⟨g3, g⟩⟩ h
        clear h
        go_enter Try.func43, Try.ntmps43
        go_wp2
        go_ret
        exact ⟨rfl, (by repeat (first | with_reducible exact Below.refl _ _ | with_reducible assumption | with_reducible refine below_drewN ?_ _ | with_reducible refine Below.drew ?_ | with_reducible refine Below.alloc ?_ ?_ _ | with_reducible refine Below.setCell ?_ ?_ _ | with_reducible exact Nat.le_refl _ | (simp; omega) | (simp; done)))⟩
theorem rmay_kind (cr : Int) (sq : Int) (A : Option Addr) (n c : Nat) (w : World) (h : (0 ≤ cr ∧ cr ≤ 1023) ∧ (0 ≤ sq ∧ sq ≤ 255)) :
    Calls Try.prog 43 #[.agg #[.int .i64 cr, .bool false, .bool true, .int .i64 sq, .slice A n c]] w fun e w' => e = .returned (.int .i64 6) ∧ Below w.heap.size w w' := by
  obtain ⟨⟨a0, a1⟩, ⟨b0, b1⟩⟩ := h
  have z1 : decide (cr < 0) = false := by simp; omega
  have z2 : decide (1023 < cr) = false := by simp; omega
  have z3 : decide (sq < 0) = false := by simp; omega
  have z4 : decide (255 < sq) = false := by simp; omega
  go_enter Try.func43, Try.ntmps43
  go_wp2
  go_ret
  exact ⟨rfl, (by repeat (first | with_reducible exact Below.refl _ _ | with_reducible assumption | with_reducible refine below_drewN ?_ _ | with_reducible refine Below.drew ?_ | with_reducible refine Below.alloc ?_ ?_ _ | with_reducible refine Below.setCell ?_ ?_ _ | with_reducible exact Nat.le_refl _ | (simp; omega) | (simp; done)))⟩
set_option maxHeartbeats 1600000 in
set_option maxRecDepth 100000 in
theorem rmay_size (cr : Int) (by_ co : Bool) (sq : Int) (A : Option Addr) (n c : Nat) (w : World) (h : (0 ≤ cr ∧ cr ≤ 1023) ∧ (0 ≤ sq ∧ sq ≤ 255)) (hk : co = true → by_ = true) (hs : n < 1 ∨ 1017 < n) :
    Calls Try.prog 43 #[.agg #[.int .i64 cr, .bool by_, .bool co, .int .i64 sq, .slice A n c]] w fun e w' => e = .returned (.int .i64 1) ∧ Below w.heap.size w w' := by
  obtain ⟨⟨a0, a1⟩, ⟨b0, b1⟩⟩ := h
  have z1 : decide (cr < 0) = false := by simp; omega
  have z2 : decide (1023 < cr) = false := by simp; omega
  have z3 : decide (sq < 0) = false := by simp; omega
  have z4 : decide (255 < sq) = false := by simp; omega
  rcases hs with hs | hs
  · have d1 : decide ((n : Int) < 1) = true := by simp; omega
    cases co
    · clear hk
      go_enter Try.func43, Try.ntmps43
      go_wp2
      go_ret
      exact ⟨rfl, (by repeat (first | with_reducible exact Below.refl _ _ | with_reducible assumption | with_reducible refine below_drewN ?_ _ | with_reducible refine Below.drew ?_ | with_reducible refine Below.alloc ?_ ?_ _ | with_reducible refine Below.setCell ?_ ?_ _ | with_reducible exact Nat.le_refl _ | (simp; omega) | (simp; done)))⟩
    · obtain rfl := hk rfl
      clear hk
      go_enter Try.func43, Try.ntmps43
      go_wp2
      go_ret
      exact ⟨rfl, (by repeat (first | with_reducible exact Below.refl _ _ | with_reducible assumption | with_reducible refine below_drewN ?_ _ | with_reducible refine Below.drew ?_ | with_reducible refine Below.alloc ?_ ?_ _ | with_reducible refine Below.setCell ?_ ?_ _ | with_reducible exact Nat.le_refl _ | (simp; omega) | (simp; done)))⟩
  · have d1 : decide ((n : Int) < 1) = false := by simp; omega
    have d2 : decide ((1017 : Int) < (n : Int)) = true := by simp; omega
    cases co
    · clear hk
      go_enter Try.func43, Try.ntmps43
      go_wp2
      go_ret
      exact ⟨rfl, (by repeat (first | with_reducible exact Below.refl _ _ | with_reducible assumption | with_reducible refine below_drewN ?_ _ | with_reducible refine Below.drew ?_ | with_reducible refine Below.alloc ?_ ?_ _ | with_reducible refine Below.setCell ?_ ?_ _ | with_reducible exact Nat.le_refl _ | (simp; omega) | (simp; done)))⟩
    · obtain rfl := hk rfl
      clear hk
      go_enter Try.func43, Try.ntmps43
      go_wp2
      go_ret
      exact ⟨rfl, (by repeat (first | with_reducible exact Below.refl _ _ | with_reducible assumption | with_reducible refine below_drewN ?_ _ | with_reducible refine Below.drew ?_ | with_reducible refine Below.alloc ?_ ?_ _ | with_reducible refine Below.setCell ?_ ?_ _ | with_reducible exact Nat.le_refl _ | (simp; omega) | (simp; done)))⟩
set_option maxHeartbeats 1600000 in
set_option maxRecDepth 100000 in
theorem rmay_ok (cr : Int) (by_ co : Bool) (sq : Int) (A : Option Addr) (n c : Nat) (w : World) (h : (0 ≤ cr ∧ cr ≤ 1023) ∧ (0 ≤ sq ∧ sq ≤ 255)) (hk : co = true → by_ = true) (hs : 1 ≤ n ∧ n ≤ 1017) :
    Calls Try.prog 43 #[.agg #[.int .i64 cr, .bool by_, .bool co, .int .i64 sq, .slice A n c]] w fun e w' => e = .returned (.int .i64 0) ∧ Below w.heap.size w w' := by
  obtain ⟨⟨a0, a1⟩, ⟨b0, b1⟩⟩ := h
  have z1 : decide (cr < 0) = false := by simp; omega
  have z2 : decide (1023 < cr) = false := by simp; omega
  have z3 : decide (sq < 0) = false := by simp; omega
  have z4 : decide (255 < sq) = false := by simp; omega
  obtain ⟨h1, h2⟩ := hs
  have d1 : decide ((n : Int) < 1) = false := by simp; omega
  have d2 : decide ((1017 : Int) < (n : Int)) = false := by simp; omega
  cases co
  · clear hk
    go_enter Try.func43, Try.ntmps43
    go_wp2
    go_ret
    exact ⟨rfl, (by repeat (first | with_reducible exact Below.refl _ _ | with_reducible assumption | with_reducible refine below_drewN ?_ _ | with_reducible refine Below.drew ?_ | with_reducible refine Below.alloc ?_ ?_ _ | with_reducible refine Below.setCell ?_ ?_ _ | with_reducible exact Nat.le_refl _ | (simp; omega) | (simp; done)))⟩
  · obtain rfl := hk rfl
    clear hk
    go_enter Try.func43, Try.ntmps43
    go_wp2
    go_ret
    exact ⟨rfl, (by repeat (first | with_reducible exact Below.refl _ _ | with_reducible assumption | with_reducible refine below_drewN ?_ _ | with_reducible refine Below.drew ?_ | with_reducible refine Below.alloc ?_ ?_ _ | with_reducible refine Below.setCell ?_ ?_ _ | with_reducible exact Nat.le_refl _ | (simp; omega) | (simp; done)))⟩
theorem rmay_any (o : Ord) (A : Option Addr) (n c : Nat) (w : World) (hn : o.data.length = n) :
    Calls Try.prog 43 #[.agg #[.int .i64 o.craft, .bool o.bypass, .bool o.control, .int .i64 o.seq, .slice A n c]] w fun e w' => e = .returned (.int .i64 (ordMay o)) ∧ Below w.heap.size w w' := by
  subst hn
  unfold ordMay
  by_cases h1 : ordRange o
  · rw [if_pos h1]
    by_cases h2 : ordKind o
    · rw [if_pos h2]
      by_cases h3 : ordSize o
      · rw [if_pos h3]
        exact rmay_ok o.craft o.bypass o.control o.seq A _ c w h1 h2 h3
      · rw [if_neg h3]
        exact rmay_size o.craft o.bypass o.control o.seq A _ c w h1 h2 (by unfold ordSize at h3; omega)
    · rw [if_neg h2]
      have hc : o.control = true := by
        cases h : o.control with
        | true => rfl
        | false => exact absurd (fun e => by rw [h] at e; cases e) h2
      have hb : o.bypass = false := by
        cases h : o.bypass with
        | false => rfl
        | true => exact absurd (fun _ => h) h2
      rw [hc, hb]
      exact rmay_kind o.craft o.seq A _ c w h1
  · rw [if_neg h1]
    exact rmay_range o.craft o.bypass o.control o.seq A _ c w h1

theorem may_range (cr : Int) (by_ co : Bool) (sq : Int) (A : Option Addr) (n c : Nat) (w : World) (h : ¬ ((0 ≤ cr ∧ cr ≤ 1023) ∧ (0 ≤ sq ∧ sq ≤ 255))) :
    Calls Try.prog 51 #[.agg #[.int .i64 cr, .bool by_, .bool co, .int .i64 sq, .slice A n c]] w fun e w' => e = .returned (.int .i64 2) ∧ Below w.heap.size w w' := by
  have H := Lib.hid h
  clear h
  go_enter Try.func51, Try.ntmps51
  go_wp2_with fail
  by_cases g1 : 0 ≤ cr ∧ cr ≤ 1023
  rotate_left
  · refine (cin_no cr 0 1023 _ g1).mono ?_
    rintro e w' ⟨rfl, rfl⟩
    go_wp2
    go_ret
    exact ⟨rfl, (by repeat (first | with_reducible exact Below.refl _ _ | with_reducible assumption | with_reducible refine below_drewN ?_ _ | with_reducible refine Below.drew ?_ | with_reducible refine Below.alloc ?_ ?_ _ | with_reducible refine Below.setCell ?_ ?_ _ | with_reducible exact Nat.le_refl _ | (simp; omega) | (simp; done)))⟩
  refine (cin_yes cr 0 1023 _ g1.1 g1.2).mono ?_
  rintro e w' ⟨rfl, rfl⟩
  go_wp2_with fail
  refine (cin_no sq 0 255 _ (fun h => H.out ⟨g1, h⟩)).mono ?_
  rintro e w' ⟨rfl, rfl⟩
  go_wp2
  go_ret
  exact ⟨rfl, (by repeat (first | with_reducible exact Below.refl _ _ | with_reducible assumption | with_reducible refine below_drewN ?_ _ | with_reducible refine Below.drew ?_ | with_reducible refine Below.alloc ?_ ?_ _ | with_reducible refine Below.setCell ?_ ?_ _ | with_reducible exact Nat.le_refl _ | (simp; omega) | (simp; done)))⟩
theorem may_kind (cr : Int) (sq : Int) (A : Option Addr) (n c : Nat) (w : World) (h : (0 ≤ cr ∧ cr ≤ 1023) ∧ (0 ≤ sq ∧ sq ≤ 255)) :
    Calls Try.prog 51 #[.agg #[.int .i64 cr, .bool false, .bool true, .int .i64 sq, .slice A n c]] w fun e w' => e = .returned (.int .i64 6) ∧ Below w.heap.size w w' := by
  obtain ⟨⟨a0, a1⟩, ⟨b0, b1⟩⟩ := h
  go_enter Try.func51, Try.ntmps51
  go_wp2_with fail
  refine (cin_yes cr 0 1023 _ a0 a1).mono ?_
  rintro e w' ⟨rfl, rfl⟩
  go_wp2_with fail
  refine (cin_yes sq 0 255 _ b0 b1).mono ?_
  rintro e w' ⟨rfl, rfl⟩
  go_wp2
  go_ret
  exact ⟨rfl, (by repeat (first | with_reducible exact Below.refl _ _ | with_reducible assumption | with_reducible refine below_drewN ?_ _ | with_reducible refine Below.drew ?_ | with_reducible refine Below.alloc ?_ ?_ _ | with_reducible refine Below.setCell ?_ ?_ _ | with_reducible exact Nat.le_refl _ | (simp; omega) | (simp; done)))⟩
set_option maxHeartbeats 1600000 in
set_option maxRecDepth 100000 in
theorem may_size (cr : Int) (by_ co : Bool) (sq : Int) (A : Option Addr) (n c : Nat) (w : World) (h : (0 ≤ cr ∧ cr ≤ 1023) ∧ (0 ≤ sq ∧ sq ≤ 255)) (hk : co = true → by_ = true) (hs : n < 1 ∨ 1017 < n) :
    Calls Try.prog 51 #[.agg #[.int .i64 cr, .bool by_, .bool co, .int .i64 sq, .slice A n c]] w fun e w' => e = .returned (.int .i64 1) ∧ Below w.heap.size w w' := by
  obtain ⟨⟨a0, a1⟩, ⟨b0, b1⟩⟩ := h
  cases co
  · clear hk
    go_enter Try.func51, Try.ntmps51
    go_wp2_with fail
    refine (cin_yes cr 0 1023 _ a0 a1).mono ?_
    rintro e w' ⟨rfl, rfl⟩
    go_wp2_with fail
    refine (cin_yes sq 0 255 _ b0 b1).mono ?_
    rintro e w' ⟨rfl, rfl⟩
    go_wp2_with fail
    refine (cin_no (n : Int) 1 1017 _ (by omega)).mono ?_
    rintro e w' ⟨rfl, rfl⟩
    go_wp2
    go_ret
    exact ⟨rfl, (by repeat (first | with_reducible exact Below.refl _ _ | with_reducible assumption | with_reducible refine below_drewN ?_ _ | with_reducible refine Below.drew ?_ | with_reducible refine Below.alloc ?_ ?_ _ | with_reducible refine Below.setCell ?_ ?_ _ | with_reducible exact Nat.le_refl _ | (simp; omega) | (simp; done)))⟩
  · obtain rfl := hk rfl
    clear hk
    go_enter Try.func51, Try.ntmps51
    go_wp2_with fail
    refine (cin_yes cr 0 1023 _ a0 a1).mono ?_
    rintro e w' ⟨rfl, rfl⟩
    go_wp2_with fail
    refine (cin_yes sq 0 255 _ b0 b1).mono ?_
    rintro e w' ⟨rfl, rfl⟩
    go_wp2_with fail
    refine (cin_no (n : Int) 1 1017 _ (by omega)).mono ?_
    rintro e w' ⟨rfl, rfl⟩
    go_wp2
    go_ret
    exact ⟨rfl, (by repeat (first | with_reducible exact Below.refl _ _ | with_reducible assumption | with_reducible refine below_drewN ?_ _ | with_reducible refine Below.drew ?_ | with_reducible refine Below.alloc ?_ ?_ _ | with_reducible refine Below.setCell ?_ ?_ _ | with_reducible exact Nat.le_refl _ | (simp; omega) | (simp; done)))⟩
set_option maxHeartbeats 1600000 in
set_option maxRecDepth 100000 in
theorem may_ok (cr : Int) (by_ co : Bool) (sq : Int) (A : Option Addr) (n c : Nat) (w : World) (h : (0 ≤ cr ∧ cr ≤ 1023) ∧ (0 ≤ sq ∧ sq ≤ 255)) (hk : co = true → by_ = true) (hs : 1 ≤ n ∧ n ≤ 1017) :
    Calls Try.prog 51 #[.agg #[.int .i64 cr, .bool by_, .bool co, .int .i64 sq, .slice A n c]] w fun e w' => e = .returned (.int .i64 0) ∧ Below w.heap.size w w' := by
  obtain ⟨⟨a0, a1⟩, ⟨b0, b1⟩⟩ := h
  cases co
  · clear hk
    go_enter Try.func51, Try.ntmps51
    go_wp2_with fail
    refine (cin_yes cr 0 1023 _ a0 a1).mono ?_
    rintro e w' ⟨rfl, rfl⟩
    go_wp2_with fail
    refine (cin_yes sq 0 255 _ b0 b1).mono ?_
    rintro e w' ⟨rfl, rfl⟩
    go_wp2_with fail
    refine (cin_yes (n : Int) 1 1017 _ (by omega) (by omega)).mono ?_
    rintro e w' ⟨rfl, rfl⟩
    go_wp2
    go_ret
    exact ⟨rfl, (by repeat (first | with_reducible exact Below.refl _ _ | with_reducible assumption | with_reducible refine below_drewN ?_ _ | with_reducible refine Below.drew ?_ | with_reducible refine Below.alloc ?_ ?_ _ | with_reducible refine Below.setCell ?_ ?_ _ | with_reducible exact Nat.le_refl _ | (simp; omega) | (simp; done)))⟩
  · obtain rfl := hk rfl
    clear hk
    go_enter Try.func51, Try.ntmps51
    go_wp2_with fail
    refine (cin_yes cr 0 1023 _ a0 a1).mono ?_
    rintro e w' ⟨rfl, rfl⟩
    go_wp2_with fail
    refine (cin_yes sq 0 255 _ b0 b1).mono ?_
    rintro e w' ⟨rfl, rfl⟩
    go_wp2_with fail
    refine (cin_yes (n : Int) 1 1017 _ (by omega) (by omega)).mono ?_
    rintro e w' ⟨rfl, rfl⟩
    go_wp2
    go_ret
    exact ⟨rfl, (by repeat (first | with_reducible exact Below.refl _ _ | with_reducible assumption | with_reducible refine below_drewN ?_ _ | with_reducible refine Below.drew ?_ | with_reducible refine Below.alloc ?_ ?_ _ | with_reducible refine Below.setCell ?_ ?_ _ | with_reducible exact Nat.le_refl _ | (simp; omega) | (simp; done)))⟩
theorem may_any (o : Ord) (A : Option Addr) (n c : Nat) (w : World) (hn : o.data.length = n) :
    Calls Try.prog 51 #[.agg #[.int .i64 o.craft, .bool o.bypass, .bool o.control, .int .i64 o.seq, .slice A n c]] w fun e w' => e = .returned (.int .i64 (ordMay o)) ∧ Below w.heap.size w w' := by
  subst hn
  unfold ordMay
  by_cases h1 : ordRange o
  · rw [if_pos h1]
    by_cases h2 : ordKind o
    · rw [if_pos h2]
      by_cases h3 : ordSize o
      · rw [if_pos h3]
        exact may_ok o.craft o.bypass o.control o.seq A _ c w h1 h2 h3
      · rw [if_neg h3]
        exact may_size o.craft o.bypass o.control o.seq A _ c w h1 h2 (by unfold ordSize at h3; omega)
    · rw [if_neg h2]
      have hc : o.control = true := by
        cases h : o.control with
        | true => rfl
        | false => exact absurd (fun e => by rw [h] at e; cases e) h2
      have hb : o.bypass = false := by
        cases h : o.bypass with
        | false => rfl
        | true => exact absurd (fun _ => h) h2
      rw [hc, hb]
      exact may_kind o.craft o.seq A _ c w h1
  · rw [if_neg h1]
    exact may_range o.craft o.bypass o.control o.seq A _ c w h1
end Go.Proofs.Ytppmdamcdhmcpaa
