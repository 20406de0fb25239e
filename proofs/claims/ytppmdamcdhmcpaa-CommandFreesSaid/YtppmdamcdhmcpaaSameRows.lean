import Derived.Test.YtppmdamcdhmcpaaRows2
namespace Go.Proofs.Ytppmdamcdhmcpaa
set_option linter.unusedSimpArgs false
set_option linter.unusedVariables false
open Go.RowKit

set_option maxHeartbeats 1600000 in
set_option maxRecDepth 100000 in
theorem sameRows_yes (A B : Option Addr) (ls : List (List UInt8)) (m n c d : Nat) (w : World) (hm : ls.length = m) (hn : ls.length = n) (hz : ls.length ≤ 140737488351300) (ha : RdRows w A ls) (hb : RdRows w B ls) :
    Calls Try.prog 25 #[.slice A m c, .slice B n d] w fun e w' => e = .returned (.bool true) ∧ ∃ k, w' = w.drewN k := by
  subst hm
  subst hn
  go_enter Try.func25, Try.ntmps25
  go_wp2_with fail
  go_loopw [5] (fun i wr => ∃ k m : Nat, k ≤ ls.length ∧ i = .int .i64 k ∧ wr = w.drewN m) (fun i _ => ls.length - (intOf i).toNat)
  case atStart => exact ⟨0, 0, by omega, by simp, rfl⟩
  case round =>
    obtain ⟨k, m, hk, rfl, rfl⟩ := hrel
    by_cases h5 : k < ls.length
    · obtain ⟨b1, o1, B1, c1, rfl, hc1, hr1, _⟩ := ha.at_ h5
      obtain ⟨b2, o2, B2, c2, rfl, hc2, hr2, _⟩ := hb.at_ h5
      have hl : Hid (ls[k].length = ls[k].length) := rfl
      generalize ls[k] = l at *
      clear ha hb
      go_wp2
      go_quiet ((go_at_call 42; first | exact quiet_add_left' (sameBytes_n B1 B2 l _ _ _ _ _ rfl rfl hr1 hr2) | exact quiet_left' (sameBytes_n B1 B2 l _ _ _ _ _ rfl rfl hr1 hr2)))
      go_wp2
      go_roundw
      case rel => exact ⟨k + 1, _, by omega, by go_num, rfl⟩
      case measure => simp [intOf]; omega
    · go_wp2
      go_ret
      exact ⟨rfl, _, rfl⟩
end Go.Proofs.Ytppmdamcdhmcpaa
