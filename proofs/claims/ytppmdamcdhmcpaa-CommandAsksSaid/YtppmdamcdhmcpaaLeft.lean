import Derived.Test.YtppmdamcdhmcpaaSame
namespace Go.Proofs.Ytppmdamcdhmcpaa
set_option linter.unusedSimpArgs false
set_option linter.unusedVariables false
open Go.RowKit

set_option maxHeartbeats 800000 in
set_option maxRecDepth 100000 in
theorem left_yes (g : Nat) (B : Option Addr) (l : List UInt8) (d : Nat) (w : World) (hR : Room w g l) (hb : Rd w B (bvs l)) (hn : l.length ≤ 140737488351232) :
    Calls Try.prog 11 #[.slice (some ⟨g, 0, none⟩) l.length (l.length + 5), .slice B l.length d] w fun e w' => e = .returned (.bool true) ∧ ∃ n, w' = w.drewN n := by
  go_enter Try.func11, Try.ntmps11
  go_wp2_with fail
  go_loopw [6] (fun i wr => ∃ k m : Nat, k ≤ l.length + 5 ∧ i = .int .i64 k ∧ wr = w.drewN m) (fun i _ => l.length + 5 - (intOf i).toNat)
  case atStart => exact ⟨0, 0, by omega, by simp, rfl⟩
  case round =>
    obtain ⟨k, m, hk, rfl, rfl⟩ := hrel
    by_cases h5 : k < l.length
    · obtain ⟨b, off, rfl, hc⟩ := hb.byte h5
      have hc2 : w.cell? ⟨g, k, none⟩ = some (.int .u8 (l[k].toNat : Int)) := by simpa using hR.rd.cell (bvs_get h5)
      have hge : decide (l.length ≤ k) = false := by simp; omega
      go_wp2
      go_quiet (fail)
      go_wp2
      go_roundw
      case rel => exact ⟨k + 1, _, by omega, by go_num, rfl⟩
      case measure => simp [intOf]; omega
    · by_cases h6 : k < l.length + 5
      · have hc2 := hR.mark (j := k) (by omega) h6
        have hge : decide (l.length ≤ k) = true := by simp; omega
        have hlt : decide (k < l.length) = false := by simp; omega
        go_wp2
        go_quiet (fail)
        go_wp2
        go_roundw
        case rel => exact ⟨k + 1, _, by omega, by go_num, rfl⟩
        case measure => simp [intOf]; omega
      · go_wp2
        go_ret
        exact ⟨rfl, _, rfl⟩
end Go.Proofs.Ytppmdamcdhmcpaa
