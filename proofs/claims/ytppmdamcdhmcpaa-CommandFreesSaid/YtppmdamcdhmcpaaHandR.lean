/-
  A hand: whether it may be, by the program.
-/
import Derived.Test.YtppmdamcdhmcpaaHandP
namespace Go.Proofs.Ytppmdamcdhmcpaa
set_option linter.unusedSimpArgs false
set_option linter.unusedVariables false
open Go.RowKit

def inB (n l m : Int) : Bool := decide (l ≤ n ∧ n ≤ m)
theorem inB_iff (n l m : Int) : inB n l m = true ↔ (l ≤ n ∧ n ≤ m) := by unfold inB; exact decide_eq_true_iff
theorem cin_any (n l m : Int) (w : World) : Calls Try.prog 23 #[.int .i64 n, .int .i64 l, .int .i64 m] w fun e w' => e = .returned (.bool (inB n l m)) ∧ w = w' := by
  by_cases h : l ≤ n ∧ n ≤ m
  · rw [(inB_iff n l m).2 h]
    exact cin_yes n l m w h.1 h.2
  · rw [show inB n l m = false from decide_eq_false h]
    exact cin_no n l m w h
def oddB (n : Nat) : Bool := !inB (n : Int) 1 1017
theorem odd_any (A : Option Addr) (n c : Nat) (w : World) : Calls Try.prog 48 #[.slice A n c] w fun e w' => e = .returned (.bool (oddB n)) ∧ w = w' := by
  unfold oddB
  go_enter Try.func48, Try.ntmps48
  go_wp2_with fail
  refine (cin_any (n : Int) 1 1017 _).mono ?_
  rintro e w' ⟨rfl, rfl⟩
  go_wp2_with fail
  go_ret
  exact ⟨rfl, rfl⟩
theorem oddB_iff (n : Nat) : oddB n = false ↔ 1 ≤ n ∧ n ≤ 1017 := by
  unfold oddB
  rw [Bool.not_eq_false', inB_iff]
  omega
set_option maxHeartbeats 3200000 in
set_option maxRecDepth 100000 in
theorem indexR_any (A : Option Addr) (ls : List (List UInt8)) (n c : Nat) (w : World) (hl : ls.length = n) (h : RdRows w A ls) (hn : n ≤ 5864062014634) (hb : ∀ l ∈ ls, l.length ≤ 140737488351300) :
    Calls Try.prog 53 #[.slice A n c, .func (.func 48) #[] #[]] w fun e w' => (∃ i : Int, e = .returned (.int .i64 i) ∧ (decide (0 ≤ i) = !ordB ls)) ∧ w = w' := by
  obtain ⟨r, hr⟩ : ∃ r, r = ordB ls := ⟨_, rfl⟩
  rw [← hr]
  have HRr := Lib.hid hr
  have HL := Lib.hid hl
  have HR := Lib.hid h
  have HBb := Lib.hid hb
  clear hr hl h hb
  go_enter Try.func53, Try.ntmps53
  go_wp2_with fail
  go_loop [8] (fun iv => ∃ k : Nat, k ≤ n ∧ iv = .int .i64 (k : Int) ∧ Hid (∀ (j : Nat) (x : List UInt8), j < k → ls[j]? = some x → 1 ≤ x.length ∧ x.length ≤ 1017)) (fun iv => n - (intOf iv).toNat)
  case atStart => exact ⟨0, Nat.zero_le _, rfl, Lib.hid (fun j x hj => by omega)⟩
  case round =>
    obtain ⟨k, hk, rfl, HF⟩ := hrel
    by_cases h5 : k < n
    · have h5i : (k : Int) < (n : Int) := by omega
      have hkl : k < ls.length := by rw [HL.out]; exact h5
      have hbk := HBb.out _ (List.getElem_mem hkl)
      have HX := Lib.hid (List.getElem?_eq_getElem hkl)
      obtain ⟨g, o, D, dc, rfl, hc, _, _⟩ := HR.out.at_ hkl
      generalize ls[k] = x at *
      obtain ⟨m, hm⟩ : ∃ m, x.length = m := ⟨_, rfl⟩
      rw [hm] at hc hbk
      have HM := Lib.hid hm
      clear hm
      have CO := Lib.hid (odd_any D m dc w)
      by_cases h1 : oddB m = true
      · have hno : ¬ (1 ≤ m ∧ m ≤ 1017) := fun hh => by rw [(oddB_iff m).2 hh] at h1; cases h1
        obtain rfl : r = false := HRr.out.trans (rows_one ls HX.out (by rw [HM.out]; exact hno))
        rw [h1] at CO
        clear h1 hno
        go_wp2_with fail
        refine CO.out.mono ?_
        rintro e w' ⟨rfl, rfl⟩
        go_wp2_with fail
        go_ret
        exact ⟨⟨k, rfl, by simp⟩, rfl⟩
      · have hof : oddB m = false := by simpa using h1
        have hok := (oddB_iff m).1 hof
        rw [hof] at CO
        have HF2 : Hid (∀ (j : Nat) (x : List UInt8), j < k + 1 → ls[j]? = some x → 1 ≤ x.length ∧ x.length ≤ 1017) := Lib.hid (fun j y hj hy => by
          by_cases hjk : j < k
          · exact HF.out j y hjk hy
          · obtain rfl : j = k := by omega
            rw [HX.out] at hy
            injection hy with hy
            subst hy
            rw [HM.out]
            exact hok)
        clear h1 hof hok
        go_wp2_with fail
        refine CO.out.mono ?_
        rintro e w' ⟨rfl, rfl⟩
        go_wp2_with fail
        go_round
        case rel => exact ⟨k + 1, by omega, by go_num, HF2⟩
        case measure => simp [intOf]; omega
    · obtain rfl : k = n := by omega
      have h5i : ¬ (k : Int) < (k : Int) := by omega
      obtain rfl : r = true := HRr.out.trans (rows_all ls (fun j x hx => HF.out j x (by have := (List.getElem?_eq_some_iff.1 hx).1; rw [HL.out] at this; exact this) hx))
      go_wp2_with fail
      go_ret
      exact ⟨⟨-1, rfl, by decide⟩, rfl⟩
theorem containsR_any (A : Option Addr) (ls : List (List UInt8)) (n c : Nat) (w : World) (hl : ls.length = n) (h : RdRows w A ls) (hn : n ≤ 5864062014634) (hb : ∀ l ∈ ls, l.length ≤ 140737488351300) :
    Calls Try.prog 50 #[.slice A n c, .func (.func 48) #[] #[]] w fun e w' => e = .returned (.bool (!ordB ls)) ∧ w = w' := by
  have CI := Lib.hid (indexR_any A ls n c w hl h hn hb)
  clear hl h hb
  go_enter Try.func50, Try.ntmps50
  go_wp2_with fail
  refine CI.out.mono ?_
  rintro e w' ⟨⟨i, rfl, hi⟩, rfl⟩
  have HI := Lib.hid hi
  clear hi CI
  go_wp2_with fail
  go_ret
  exact ⟨ret_bool HI.out, rfl⟩
end Go.Proofs.Ytppmdamcdhmcpaa
