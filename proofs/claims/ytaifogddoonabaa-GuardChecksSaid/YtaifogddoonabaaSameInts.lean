import Derived.Test.YtaifogddoonabaaSame
import Derived.Test.YtaifogddoonabaaMore
namespace Go.Proofs.Ytaifogddoonabaa
set_option linter.unusedSimpArgs false
set_option linter.unusedVariables false
open Go.RowKit

set_option maxHeartbeats 1600000 in
set_option maxRecDepth 100000 in
theorem sameInts_yes (A B : Option Addr) (l : List Int) (m n c d : Nat) (w : World) (hm : l.length = m) (hn : l.length = n) (hz : l.length ≤ 140737488351300) (ha : Rd w A (ivs l)) (hb : Rd w B (ivs l)) :
    Calls Try.prog 28 #[.slice A m c, .slice B n d] w fun e w' => e = .returned (.bool true) ∧ ∃ k, w' = w.drewN k := by
  subst hm
  subst hn
  go_enter Try.func28, Try.ntmps28
  go_wp2_with fail
  go_loopw [5] (fun i wr => ∃ k m : Nat, k ≤ l.length ∧ i = .int .i64 k ∧ wr = w.drewN m) (fun i _ => l.length - (intOf i).toNat)
  case atStart => exact ⟨0, 0, by omega, by simp, rfl⟩
  case round =>
    obtain ⟨k, m, hk, rfl, rfl⟩ := hrel
    by_cases h5 : k < l.length
    · obtain ⟨b1, o1, rfl, hc1⟩ := ha.int h5
      obtain ⟨b2, o2, rfl, hc2⟩ := hb.int h5
      generalize l[k] = x at *
      go_wp2
      go_quiet (fail)
      go_wp2
      go_roundw
      case rel => exact ⟨k + 1, _, by omega, by go_num, rfl⟩
      case measure => simp [intOf]; omega
    · go_wp2
      go_ret
      exact ⟨rfl, _, rfl⟩
end Go.Proofs.Ytaifogddoonabaa
