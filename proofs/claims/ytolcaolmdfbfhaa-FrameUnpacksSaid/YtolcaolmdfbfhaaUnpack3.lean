import Derived.Test.YtolcaolmdfbfhaaUnpack2
import Derived.Test.YtolcaolmdfbfhaaBits
namespace Go.Proofs.Ytolcaolmdfbfhaa
set_option linter.unusedSimpArgs false
set_option linter.unusedVariables false
open Go.RowKit

theorem form_a {a : Nat} (h : a < 65536) : (bits .and .i64 (a : Int) 49153 != 1) = !decide (a / 16384 = 0 ∧ a % 2 = 1) := by
  have e := i64_and_nat a 49153 (by omega) (by omega)
  have hb : a &&& 49153 = a / 16384 * 16384 + a % 2 := by
    have h1 : (49153 : Nat) = 49152 ||| 1 := by decide
    rw [h1, Nat.and_or_distrib_left, nat_mask1]
    have h2 := hi_mask a 14 2 (by simpa using h)
    rw [show (2 ^ 2 - 1) <<< 14 = 49152 from by decide, show (2 : Nat) ^ 14 = 16384 from by decide] at h2
    rw [h2, nat_join 1 _ _ (by omega) (by omega)]
  rw [show (49153 : Int) = ((49153 : Nat) : Int) from rfl, e, hb, Bool.eq_iff_iff]
  simp
  omega
theorem form_f {a : Nat} (h : a < 65536) : (bits .and .i64 (a : Int) 63488 != 6144) = !decide (a / 2048 = 3) := by
  have e := i64_and_nat a 63488 (by omega) (by omega)
  have h2 := hi_mask a 11 5 (by simpa using h)
  rw [show (2 ^ 5 - 1) <<< 11 = 63488 from by decide, show (2 : Nat) ^ 11 = 2048 from by decide] at h2
  rw [show (63488 : Int) = ((63488 : Nat) : Int) from rfl, e, h2, Bool.eq_iff_iff]
  simp
  omega
end Go.Proofs.Ytolcaolmdfbfhaa
