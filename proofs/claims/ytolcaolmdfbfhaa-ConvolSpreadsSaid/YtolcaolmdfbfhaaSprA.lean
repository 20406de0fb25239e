/-
  The program's Spread, of any bits and any rate.
-/
import Derived.Test.YtolcaolmdfbfhaaSprG
namespace Go.Proofs.Ytolcaolmdfbfhaa
set_option linter.unusedSimpArgs false
set_option linter.unusedVariables false
open Go.RowKit

theorem pspread_any (A : Option Addr) (l : List UInt8) (r : Int) (n c : Nat) (w : World) (hl : l.length = n) (ha : Rd w A (bvs l)) :
    Calls Try.prog 27 #[.slice A n c, .int .i64 r] w fun e w' => BytesRes w w' (spread l r) e := by
  by_cases hr : 1 ≤ r ∧ r ≤ 5
  · obtain ⟨rn, rfl⟩ := Int.eq_ofNat_of_zero_le (show 0 ≤ r by omega)
    by_cases hn : n ≤ 16384
    · have e : spread l (rn : Int) = sprOk l rn n := by
        unfold spread sprOk
        rw [if_pos hr, if_pos (by omega), hl, Int.toNat_natCast]
      rw [e]
      exact pspread_good A l rn n c w hl ha hn (by omega) (by omega)
    · have e : spread l (rn : Int) = ([], 1) := by unfold spread; rw [if_pos hr, if_neg (by omega)]
      rw [e]
      have dn : decide ((16384 : Int) < (n : Int)) = true := by simp; omega
      obtain ⟨pp, qq, hpq⟩ := pat_form (r := rn) (by omega) (by omega)
      have hPk := Lib.hid (fun w => hpq ▸ pick_yes rn w (by omega) (by omega))
      clear hr e ha hl hpq
      go_enter Try.func27, Try.ntmps27
      go_wp2_with fail
      refine (hPk.out _).mono ?_
      rintro e w1 ⟨rfl, hb⟩
      go_wp2
      go_ret2
      exact BytesRes.none_ (hb.alloc hb.size _)
  · have e : spread l r = ([], 6) := by unfold spread; rw [if_neg hr]
    rw [e]
    have hPk := Lib.hid (fun w => pick_0 r hr w)
    simp only [patV] at hPk
    clear hr e ha hl
    go_enter Try.func27, Try.ntmps27
    go_wp2_with fail
    refine (hPk.out _).mono ?_
    rintro e w1 ⟨rfl, hb⟩
    go_wp2
    go_ret2
    exact BytesRes.none_ (hb.alloc hb.size _)
end Go.Proofs.Ytolcaolmdfbfhaa
