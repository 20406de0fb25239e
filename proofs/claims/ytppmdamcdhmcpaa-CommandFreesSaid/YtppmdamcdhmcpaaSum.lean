import Derived.Test.YtppmdamcdhmcpaaSame
import Derived.Test.YtppmdamcdhmcpaaCrc
namespace Go.Proofs.Ytppmdamcdhmcpaa
set_option linter.unusedSimpArgs false
set_option linter.unusedVariables false
open Go.RowKit

set_option maxHeartbeats 800000 in
set_option maxRecDepth 100000 in
theorem sum_any (A : Option Addr) (l : List UInt8) (c : Nat) (w : World) (ha : Rd w A (bvs l)) (hn : l.length ≤ 140737488351300) :
    Calls Try.prog 52 #[.slice A l.length c] w fun e w' => e = .returned (.int .i64 (crc l : Nat)) ∧ w = w' := by
  go_enter Try.func52, Try.ntmps52
  go_wp2_with fail
  go_loop [3, 9] (fun s i => ∃ k : Nat, k ≤ l.length ∧ i = .int .i64 k ∧ s = .int .u16 (crcFrom 65535 (l.take k) : Nat)) (fun _ i => l.length - (intOf i).toNat)
  case atStart => exact ⟨0, by omega, by simp, by simp [crcFrom]⟩
  case round =>
    obtain ⟨k, hk, rfl, rfl⟩ := hrel
    by_cases h5 : k < l.length
    · obtain ⟨b, off, rfl, hc⟩ := ha.byte h5
      have Hs := Lib.hid (crcFrom_take (s := 65535) h5)
      have hlt := crcFrom_lt (s := 65535) (by omega) (l.take k)
      generalize crcFrom 65535 (l.take k) = s at *
      generalize l[k] = x at *
      have hx256 := byte_lt x
      go_wp2_with fail
      go_loop [3, 18] (fun t i => ∃ j : Nat, j ≤ 8 ∧ i = .int .i64 j ∧ t = .int .u16 (crcN j (s ^^^ (x.toNat * 256)) : Nat)) (fun _ i => 8 - (intOf i).toNat)
      case atStart => exact ⟨0, by omega, by simp, by rw [crc_in hlt]; rfl⟩
      case round =>
        obtain ⟨j, hj, rfl, rfl⟩ := hrel
        have hlt2 : crcN j (s ^^^ (x.toNat * 256)) < 65536 := crcN_lt (xor_lt16 hlt (by omega))
        by_cases h8 : j < 8
        · have Hn : Hid (crcN (j + 1) (s ^^^ (x.toNat * 256)) = crcStep (crcN j (s ^^^ (x.toNat * 256)))) := rfl
          generalize crcN j (s ^^^ (x.toNat * 256)) = t at *
          have ht := crc_top hlt2
          rcases top_cases t with hz | hz
          · have Hz := Lib.hid hz
            rw [hz] at ht
            clear hz
            go_wp2
            go_round
            case rel => exact ⟨j + 1, by omega, by go_num, by rw [Hn.out, ← crc_zero Hz.out]⟩
            case measure => simp [intOf]; omega
          · have Hz := Lib.hid hz
            rw [hz] at ht
            clear hz
            go_wp2
            go_round
            case rel => exact ⟨j + 1, by omega, by go_num, by rw [Hn.out, ← crc_one Hz.out]⟩
            case measure => simp [intOf]; omega
        · obtain rfl : j = 8 := by omega
          go_wp2
          go_round
          case rel => exact ⟨k + 1, by omega, by go_num, by rw [Hs.out]; rfl⟩
          case measure => simp [intOf]; omega
    · obtain rfl : k = l.length := by omega
      have hlt := crcFrom_lt (s := 65535) (by omega) l
      go_wp2
      go_ret
      exact ⟨ret_int (by first | rfl | simp [crc]), rfl⟩
end Go.Proofs.Ytppmdamcdhmcpaa
