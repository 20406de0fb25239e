/-
  What is wrong with a packet: the document's and the program's; two bytes of a number.
-/
import Derived.Test.YtolcaolmdfbfhaaSame
import Derived.Test.YtolcaolmdfbfhaaStep
import Derived.Test.YtolcaolmdfbfhaaPEncP
import Derived.BigGuardPart
namespace Go.Proofs.Ytolcaolmdfbfhaa
set_option linter.unusedSimpArgs false
set_option linter.unusedVariables false
open Go.RowKit

set_option maxHeartbeats 1600000 in
set_option maxRecDepth 100000 in
theorem pbit_any (b : Bool) (w : World) :
    Calls Try.prog 66 #[.bool b] w fun e w' => e = .returned (.int .i64 (flag b 1 : Nat)) ∧ w = w' := by
  cases b
  all_goals
    go_enter Try.func66, Try.ntmps66
    go_wp2
    go_ret
    exact ⟨rfl, rfl⟩
theorem two_any (v : Int) (n : Nat) (w : World) (hv : v = (n : Int)) (hn : n < 65536) :
    Calls Try.prog 69 #[.int .i64 v] w fun e w' => ∃ A c, e = .returned (.slice A 2 c) ∧ Own w' w.heap.size 5 1 A 2 c (bvs (be (n : Nat) 2)) ∧ Below w.heap.size w w' := by
  subst hv
  go_enter Try.func69, Try.ntmps69
  go_wp2
  go_ret
  refine ⟨_, _, rfl, Own.of_block (g := w.heap.size) (heap_alloc_new w _) (Nat.le_refl _) (by simp [bvs, be_length]) (Nat.le_refl _) (by unfold maxLen; omega) (by simp) (fun i u h => ?_), (by repeat (first | with_reducible exact Below.refl _ _ | with_reducible assumption | with_reducible refine below_drewN ?_ _ | with_reducible refine Below.drew ?_ | with_reducible refine Below.alloc ?_ ?_ _ | with_reducible refine Below.setCell ?_ ?_ _ | with_reducible exact Nat.le_refl _ | (simp; omega) | (simp; done)))⟩
  rw [be_two] at h
  rw [bv_mod, bv_in (n := (n : Int) / 256) (by omega)]
  simpa [bvs] using h

theorem rpmay_any (p : Pkt) (A : Option Addr) (n c : Nat) (w : World) (hn : p.data.length = n) :
    Calls Try.prog 65 #[.agg #[.bool p.up, .bool p.second, .int .i64 p.apid, .int .i64 p.part, .int .i64 p.count, .slice A n c]] w fun e w' => e = .returned (.int .i64 (pktMay p)) ∧ Below w.heap.size w w' := by
  subst hn
  obtain ⟨u, s, ap, pa, co, d⟩ := p
  unfold pktMay
  have big : ∀ k : Int, k = 2 → ¬ pktRange ⟨u, s, ap, pa, co, d⟩ → Hid ((if pktRange ⟨u, s, ap, pa, co, d⟩ then if pktSize ⟨u, s, ap, pa, co, d⟩ then (0 : Int) else 1 else 2) = k) := by intro k hk h; show _ = _; rw [if_neg h, hk]
  have mid : ∀ k : Int, k = 1 → pktRange ⟨u, s, ap, pa, co, d⟩ → ¬ pktSize ⟨u, s, ap, pa, co, d⟩ → Hid ((if pktRange ⟨u, s, ap, pa, co, d⟩ then if pktSize ⟨u, s, ap, pa, co, d⟩ then (0 : Int) else 1 else 2) = k) := by intro k hk h h2; show _ = _; rw [if_pos h, if_neg h2, hk]
  have ok : ∀ k : Int, k = 0 → pktRange ⟨u, s, ap, pa, co, d⟩ → pktSize ⟨u, s, ap, pa, co, d⟩ → Hid ((if pktRange ⟨u, s, ap, pa, co, d⟩ then if pktSize ⟨u, s, ap, pa, co, d⟩ then (0 : Int) else 1 else 2) = k) := by intro k hk h h2; show _ = _; rw [if_pos h, if_pos h2, hk]
  unfold pktRange pktSize at *
  simp only at *
  generalize (if (0 ≤ ap ∧ ap ≤ 2047) ∧ (0 ≤ pa ∧ pa ≤ 3) ∧ (0 ≤ co ∧ co ≤ 16383) then if 1 ≤ d.length ∧ d.length ≤ 65536 then (0 : Int) else 1 else 2) = R at *
  generalize d.length = n at *
  by_cases g1 : ap < 0
  · obtain rfl := (big 2 rfl (by omega)).out
    clear big mid ok
    have zg1 : decide (ap < 0) = true := by simp; omega
    go_enter Try.func65, Try.ntmps65
    go_wp2
    all_goals (go_ret; exact ⟨rfl, (by repeat (first | with_reducible exact Below.refl _ _ | with_reducible assumption | with_reducible refine below_drewN ?_ _ | with_reducible refine Below.drew ?_ | with_reducible refine Below.alloc ?_ ?_ _ | with_reducible refine Below.setCell ?_ ?_ _ | with_reducible exact Nat.le_refl _ | (simp; omega) | (simp; done)))⟩)
  replace g1 : 0 ≤ ap := by omega
  have zg1 : decide (ap < 0) = false := by simp; omega
  by_cases g2 : 2047 < ap
  · obtain rfl := (big 2 rfl (by omega)).out
    clear big mid ok
    have zg2 : decide (2047 < ap) = true := by simp; omega
    go_enter Try.func65, Try.ntmps65
    go_wp2
    all_goals (go_ret; exact ⟨rfl, (by repeat (first | with_reducible exact Below.refl _ _ | with_reducible assumption | with_reducible refine below_drewN ?_ _ | with_reducible refine Below.drew ?_ | with_reducible refine Below.alloc ?_ ?_ _ | with_reducible refine Below.setCell ?_ ?_ _ | with_reducible exact Nat.le_refl _ | (simp; omega) | (simp; done)))⟩)
  replace g2 : ap ≤ 2047 := by omega
  have zg2 : decide (2047 < ap) = false := by simp; omega
  by_cases g3 : pa < 0
  · obtain rfl := (big 2 rfl (by omega)).out
    clear big mid ok
    have zg3 : decide (pa < 0) = true := by simp; omega
    go_enter Try.func65, Try.ntmps65
    go_wp2
    all_goals (go_ret; exact ⟨rfl, (by repeat (first | with_reducible exact Below.refl _ _ | with_reducible assumption | with_reducible refine below_drewN ?_ _ | with_reducible refine Below.drew ?_ | with_reducible refine Below.alloc ?_ ?_ _ | with_reducible refine Below.setCell ?_ ?_ _ | with_reducible exact Nat.le_refl _ | (simp; omega) | (simp; done)))⟩)
  replace g3 : 0 ≤ pa := by omega
  have zg3 : decide (pa < 0) = false := by simp; omega
  by_cases g4 : 3 < pa
  · obtain rfl := (big 2 rfl (by omega)).out
    clear big mid ok
    have zg4 : decide (3 < pa) = true := by simp; omega
    go_enter Try.func65, Try.ntmps65
    go_wp2
    all_goals (go_ret; exact ⟨rfl, (by repeat (first | with_reducible exact Below.refl _ _ | with_reducible assumption | with_reducible refine below_drewN ?_ _ | with_reducible refine Below.drew ?_ | with_reducible refine Below.alloc ?_ ?_ _ | with_reducible refine Below.setCell ?_ ?_ _ | with_reducible exact Nat.le_refl _ | (simp; omega) | (simp; done)))⟩)
  replace g4 : pa ≤ 3 := by omega
  have zg4 : decide (3 < pa) = false := by simp; omega
  by_cases g5 : co < 0
  · obtain rfl := (big 2 rfl (by omega)).out
    clear big mid ok
    have zg5 : decide (co < 0) = true := by simp; omega
    go_enter Try.func65, Try.ntmps65
    go_wp2
    all_goals (go_ret; exact ⟨rfl, (by repeat (first | with_reducible exact Below.refl _ _ | with_reducible assumption | with_reducible refine below_drewN ?_ _ | with_reducible refine Below.drew ?_ | with_reducible refine Below.alloc ?_ ?_ _ | with_reducible refine Below.setCell ?_ ?_ _ | with_reducible exact Nat.le_refl _ | (simp; omega) | (simp; done)))⟩)
  replace g5 : 0 ≤ co := by omega
  have zg5 : decide (co < 0) = false := by simp; omega
  by_cases g6 : 16383 < co
  · obtain rfl := (big 2 rfl (by omega)).out
    clear big mid ok
    have zg6 : decide (16383 < co) = true := by simp; omega
    go_enter Try.func65, Try.ntmps65
    go_wp2
    all_goals (go_ret; exact ⟨rfl, (by repeat (first | with_reducible exact Below.refl _ _ | with_reducible assumption | with_reducible refine below_drewN ?_ _ | with_reducible refine Below.drew ?_ | with_reducible refine Below.alloc ?_ ?_ _ | with_reducible refine Below.setCell ?_ ?_ _ | with_reducible exact Nat.le_refl _ | (simp; omega) | (simp; done)))⟩)
  replace g6 : co ≤ 16383 := by omega
  have zg6 : decide (16383 < co) = false := by simp; omega
  by_cases g7 : n < 1
  · obtain rfl := (mid 1 rfl (by omega) (by omega)).out
    have d1 : decide ((n : Int) < 1) = true := by simp; omega
    clear big mid ok
    go_enter Try.func65, Try.ntmps65
    go_wp2
    go_ret
    exact ⟨rfl, (by repeat (first | with_reducible exact Below.refl _ _ | with_reducible assumption | with_reducible refine below_drewN ?_ _ | with_reducible refine Below.drew ?_ | with_reducible refine Below.alloc ?_ ?_ _ | with_reducible refine Below.setCell ?_ ?_ _ | with_reducible exact Nat.le_refl _ | (simp; omega) | (simp; done)))⟩
  have d1 : decide ((n : Int) < 1) = false := by simp; omega
  by_cases g8 : 65536 < n
  · obtain rfl := (mid 1 rfl (by omega) (by omega)).out
    have d2 : decide ((65536 : Int) < (n : Int)) = true := by simp; omega
    clear big mid ok
    go_enter Try.func65, Try.ntmps65
    go_wp2
    go_ret
    exact ⟨rfl, (by repeat (first | with_reducible exact Below.refl _ _ | with_reducible assumption | with_reducible refine below_drewN ?_ _ | with_reducible refine Below.drew ?_ | with_reducible refine Below.alloc ?_ ?_ _ | with_reducible refine Below.setCell ?_ ?_ _ | with_reducible exact Nat.le_refl _ | (simp; omega) | (simp; done)))⟩
  have d2 : decide ((65536 : Int) < (n : Int)) = false := by simp; omega
  obtain rfl := (ok 0 rfl (by omega) (by omega)).out
  clear big mid ok
  go_enter Try.func65, Try.ntmps65
  go_wp2
  go_ret
  exact ⟨rfl, (by repeat (first | with_reducible exact Below.refl _ _ | with_reducible assumption | with_reducible refine below_drewN ?_ _ | with_reducible refine Below.drew ?_ | with_reducible refine Below.alloc ?_ ?_ _ | with_reducible refine Below.setCell ?_ ?_ _ | with_reducible exact Nat.le_refl _ | (simp; omega) | (simp; done)))⟩

theorem pin_yes (n m : Int) (w : World) (h0 : 0 ≤ n) (h1 : n ≤ m) :
    Calls Try.prog 114 #[.int .i64 n, .int .i64 m] w fun e w' => e = .returned (.bool true) ∧ w = w' := by
  go_enter Try.func114, Try.ntmps114
  go_wp2
  go_ret
  exact ⟨rfl, rfl⟩
theorem pin_no (n m : Int) (w : World) (h : ¬ (0 ≤ n ∧ n ≤ m)) :
    Calls Try.prog 114 #[.int .i64 n, .int .i64 m] w fun e w' => e = .returned (.bool false) ∧ w = w' := by
  by_cases h0 : 0 ≤ n
  · have h1 : m < n := by omega
    clear h
    go_enter Try.func114, Try.ntmps114
    go_wp2
    go_ret
    exact ⟨ret_bool (by simp [Act.put]; omega), rfl⟩
  · clear h
    go_enter Try.func114, Try.ntmps114
    go_wp2
    go_ret
    exact ⟨rfl, rfl⟩
set_option maxHeartbeats 1600000 in
set_option maxRecDepth 100000 in
theorem pmay_any (p : Pkt) (A : Option Addr) (n c : Nat) (w : World) (hn : p.data.length = n) :
    Calls Try.prog 67 #[.agg #[.bool p.up, .bool p.second, .int .i64 p.apid, .int .i64 p.part, .int .i64 p.count, .slice A n c]] w fun e w' => e = .returned (.int .i64 (pktMay p)) ∧ Below w.heap.size w w' := by
  subst hn
  obtain ⟨u, s, ap, pa, co, d⟩ := p
  unfold pktMay
  by_cases hr : pktRange ⟨u, s, ap, pa, co, d⟩
  · rw [if_pos hr]
    obtain ⟨⟨a0, a1⟩, ⟨b0, b1⟩, ⟨c0, c1⟩⟩ := hr
    simp only at a0 a1 b0 b1 c0 c1
    obtain ⟨R, hR⟩ : ∃ R, Hid ((if pktSize ⟨u, s, ap, pa, co, d⟩ then (0 : Int) else 1) = R) := ⟨_, rfl⟩
    rw [hR.out]
    replace hR : Hid ((if 1 ≤ d.length ∧ d.length ≤ 65536 then (0 : Int) else 1) = R) := hR
    generalize d.length = n at *
    go_enter Try.func67, Try.ntmps67
    go_wp2_with fail
    refine (pin_yes ap 2047 _ a0 a1).mono ?_
    rintro e w' ⟨rfl, rfl⟩
    go_wp2_with fail
    refine (pin_yes pa 3 _ b0 b1).mono ?_
    rintro e w' ⟨rfl, rfl⟩
    go_wp2_with fail
    refine (pin_yes co 16383 _ c0 c1).mono ?_
    rintro e w' ⟨rfl, rfl⟩
    by_cases g7 : n = 0
    · have e : R = 1 := by rw [← hR.out, if_neg (by omega)]
      subst e
      subst g7
      go_wp2
      go_ret
      exact ⟨rfl, (by repeat (first | with_reducible exact Below.refl _ _ | with_reducible assumption | with_reducible refine below_drewN ?_ _ | with_reducible refine Below.drew ?_ | with_reducible refine Below.alloc ?_ ?_ _ | with_reducible refine Below.setCell ?_ ?_ _ | with_reducible exact Nat.le_refl _ | (simp; omega) | (simp; done)))⟩
    have d1 : ((n : Int) == 0) = false := by simp; omega
    by_cases g8 : 65536 < n
    · have e : R = 1 := by rw [← hR.out, if_neg (by omega)]
      subst e
      have d2 : decide ((65536 : Int) < (n : Int)) = true := by simp; omega
      go_wp2
      go_ret
      exact ⟨rfl, (by repeat (first | with_reducible exact Below.refl _ _ | with_reducible assumption | with_reducible refine below_drewN ?_ _ | with_reducible refine Below.drew ?_ | with_reducible refine Below.alloc ?_ ?_ _ | with_reducible refine Below.setCell ?_ ?_ _ | with_reducible exact Nat.le_refl _ | (simp; omega) | (simp; done)))⟩
    have d2 : decide ((65536 : Int) < (n : Int)) = false := by simp; omega
    have e : R = 0 := by rw [← hR.out, if_pos (by omega)]
    subst e
    go_wp2
    go_ret
    exact ⟨rfl, (by repeat (first | with_reducible exact Below.refl _ _ | with_reducible assumption | with_reducible refine below_drewN ?_ _ | with_reducible refine Below.drew ?_ | with_reducible refine Below.alloc ?_ ?_ _ | with_reducible refine Below.setCell ?_ ?_ _ | with_reducible exact Nat.le_refl _ | (simp; omega) | (simp; done)))⟩
  · rw [if_neg hr]
    have H : Hid (¬ ((0 ≤ ap ∧ ap ≤ 2047) ∧ (0 ≤ pa ∧ pa ≤ 3) ∧ (0 ≤ co ∧ co ≤ 16383))) := hr
    clear hr
    go_enter Try.func67, Try.ntmps67
    go_wp2_with fail
    by_cases g1 : 0 ≤ ap ∧ ap ≤ 2047
    rotate_left
    · refine (pin_no ap 2047 _ g1).mono ?_
      rintro e w' ⟨rfl, rfl⟩
      go_wp2
      go_ret
      exact ⟨rfl, (by repeat (first | with_reducible exact Below.refl _ _ | with_reducible assumption | with_reducible refine below_drewN ?_ _ | with_reducible refine Below.drew ?_ | with_reducible refine Below.alloc ?_ ?_ _ | with_reducible refine Below.setCell ?_ ?_ _ | with_reducible exact Nat.le_refl _ | (simp; omega) | (simp; done)))⟩
    refine (pin_yes ap 2047 _ g1.1 g1.2).mono ?_
    rintro e w' ⟨rfl, rfl⟩
    go_wp2_with fail
    by_cases g2 : 0 ≤ pa ∧ pa ≤ 3
    rotate_left
    · refine (pin_no pa 3 _ g2).mono ?_
      rintro e w' ⟨rfl, rfl⟩
      go_wp2
      go_ret
      exact ⟨rfl, (by repeat (first | with_reducible exact Below.refl _ _ | with_reducible assumption | with_reducible refine below_drewN ?_ _ | with_reducible refine Below.drew ?_ | with_reducible refine Below.alloc ?_ ?_ _ | with_reducible refine Below.setCell ?_ ?_ _ | with_reducible exact Nat.le_refl _ | (simp; omega) | (simp; done)))⟩
    refine (pin_yes pa 3 _ g2.1 g2.2).mono ?_
    rintro e w' ⟨rfl, rfl⟩
    go_wp2_with fail
    refine (pin_no co 16383 _ (fun h => H.out ⟨g1, g2, h⟩)).mono ?_
    rintro e w' ⟨rfl, rfl⟩
    go_wp2
    go_ret
    exact ⟨rfl, (by repeat (first | with_reducible exact Below.refl _ _ | with_reducible assumption | with_reducible refine below_drewN ?_ _ | with_reducible refine Below.drew ?_ | with_reducible refine Below.alloc ?_ ?_ _ | with_reducible refine Below.setCell ?_ ?_ _ | with_reducible exact Nat.le_refl _ | (simp; omega) | (simp; done)))⟩
end Go.Proofs.Ytolcaolmdfbfhaa
