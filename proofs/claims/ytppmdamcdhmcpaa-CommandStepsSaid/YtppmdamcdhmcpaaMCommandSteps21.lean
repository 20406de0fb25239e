/-
  
-/
import Derived.Test.YtppmdamcdhmcpaaMCommandSteps2
import Derived.Test.YtppmdamcdhmcpaaMCommandSteps15
namespace Go.Proofs.Ytppmdamcdhmcpaa
set_option linter.unusedSimpArgs false
set_option linter.unusedVariables false
open Go.RowKit

set_option maxHeartbeats 800000 in
set_option maxRecDepth 100000 in
theorem sum_any (A : Option Addr) (l : List UInt8) (c : Nat) (w : World) (ha : Rd w A (bvs l)) (hn : l.length ≤ 140737488351300) :
    Calls Try.prog 52 #[.slice A l.length c] w fun e w' => e = .returned (.int .i64 (crc l : Nat)) ∧ w = w' := by
  go_enter Try.func52, Try.ntmps52
  go_wp2_with fail
  go_loop [3, 9] (fun s i => ∃ k : Nat, k ≤ l.length ∧ i = .int .i64 k ∧ s = .int .u16 (crcFrom 65535 (l.take k) : Nat)) (fun _ i => l.length - (intOf i).toNat)
  case atStart => exact ⟨0, by omega, by simp, by simp [crcFrom]⟩
  case round =>
    obtain ⟨k, hk, rfl, rfl⟩ := hrel
    by_cases h5 : k < l.length
    · obtain ⟨b, off, rfl, hc⟩ := ha.byte h5
      have Hs := Lib.hid (crcFrom_take (s := 65535) h5)
      have hlt := crcFrom_lt (s := 65535) (by omega) (l.take k)
      generalize crcFrom 65535 (l.take k) = s at *
      generalize l[k] = x at *
      have hx256 := byte_lt x
      go_wp2_with fail
      go_loop [3, 18] (fun t i => ∃ j : Nat, j ≤ 8 ∧ i = .int .i64 j ∧ t = .int .u16 (crcN j (s ^^^ (x.toNat * 256)) : Nat)) (fun _ i => 8 - (intOf i).toNat)
      case atStart => exact ⟨0, by omega, by simp, by rw [crc_in hlt]; rfl⟩
      case round =>
        obtain ⟨j, hj, rfl, rfl⟩ := hrel
        have hlt2 : crcN j (s ^^^ (x.toNat * 256)) < 65536 := crcN_lt (xor_lt16 hlt (by omega))
        by_cases h8 : j < 8
        · have Hn : Hid (crcN (j + 1) (s ^^^ (x.toNat * 256)) = crcStep (crcN j (s ^^^ (x.toNat * 256)))) := rfl
          generalize crcN j (s ^^^ (x.toNat * 256)) = t at *
          have ht := crc_top hlt2
          rcases top_cases t with hz | hz
          · have Hz := Lib.hid hz
            rw [hz] at ht
            clear hz
            go_wp2
            go_round
            case rel => exact ⟨j + 1, by omega, by go_num, by rw [Hn.out, ← crc_zero Hz.out]⟩
            case measure => simp [intOf]; omega
          · have Hz := Lib.hid hz
            rw [hz] at ht
            clear hz
            go_wp2
            go_round
            case rel => exact ⟨j + 1, by omega, by go_num, by rw [Hn.out, ← crc_one Hz.out]⟩
            case measure => simp [intOf]; omega
        · obtain rfl : j = 8 := by omega
          go_wp2
          go_round
          case rel => exact ⟨k + 1, by omega, by go_num, by rw [Hs.out]; rfl⟩
          case measure => simp [intOf]; omega
    · obtain rfl : k = l.length := by omega
      have hlt := crcFrom_lt (s := 65535) (by omega) l
      go_wp2
      go_ret
      exact ⟨ret_int (by first | rfl | simp [crc]), rfl⟩
end Go.Proofs.Ytppmdamcdhmcpaa
namespace Go.Proofs.Ytppmdamcdhmcpaa
set_option linter.unusedSimpArgs false
set_option linter.unusedVariables false
open Go.RowKit

/-- The document's register when i bits have gone in. -/
def refAt (l : List UInt8) (i : Nat) : Nat := refN (l.getD (i / 8) 0) (i % 8) (crcFrom 65535 (l.take (i / 8)))

theorem refAt_lt (l : List UInt8) (i : Nat) : refAt l i < 65536 := refN_lt (crcFrom_lt (by omega) _)
theorem refAt_succ {l : List UInt8} {k : Nat} (h : k / 8 < l.length) : refAt l (k + 1) = refBit (refAt l k) ((l[k / 8].toNat >>> (7 - k % 8)) &&& 1) := by
  have hd : l.getD (k / 8) 0 = l[k / 8] := by simp [List.getD, List.getElem?_eq_getElem h]
  by_cases h7 : k % 8 = 7
  · have e1 : (k + 1) / 8 = k / 8 + 1 := by omega
    have e2 : (k + 1) % 8 = 0 := by omega
    unfold refAt
    rw [e1, e2, hd, h7]
    show crcFrom 65535 (l.take (k / 8 + 1)) = _
    rw [crcFrom_take h, byte_meets _ (crcFrom_lt (by omega) _)]
    rfl
  · have e1 : (k + 1) / 8 = k / 8 := by omega
    have e2 : (k + 1) % 8 = k % 8 + 1 := by omega
    unfold refAt
    rw [e1, e2, hd]
    rfl
theorem refAt_all (l : List UInt8) : refAt l (8 * l.length) = crc l := by
  unfold refAt
  rw [show 8 * l.length / 8 = l.length from by omega, show 8 * l.length % 8 = 0 from by omega, List.take_length]
  rfl

theorem ref_x (x : UInt8) (m s : Nat) (hs : s < 65536) : bits .xor .i64 (bits .and .i64 (wrap64 ((x.toNat : Int) / 2 ^ m)) 1) ((s : Int) / 32768) = ((((x.toNat >>> m) &&& 1) ^^^ (s >>> 15) : Nat) : Int) := by
  have hx := x.toNat_lt
  have hm := shr_le x.toNat m
  rw [shr_nat]
  generalize x.toNat >>> m = y at *
  rw [IntWalk.wrap64_in _ (by omega)]
  have e1 := i64_and_nat y 1 (by omega) (by omega)
  rw [show ((1 : Nat) : Int) = 1 from rfl] at e1
  rw [e1]
  have e2 : ((s : Int) / (32768 : Int)) = ((s >>> 15 : Nat) : Int) := by
    have h := shr_nat s 15
    rwa [show (2 : Int) ^ 15 = 32768 from by decide] at h
  rw [e2]
  have h3 := shr_le s 15
  have h4 : y &&& 1 ≤ 1 := Nat.and_le_right
  exact i64_xor_nat _ _ (by omega) (by omega)
theorem ref_dbl (s : Nat) (hs : s < 65536) : bits .and .i64 ((s : Int) * 2) 65535 = ((s * 2 % 65536 : Nat) : Int) := by
  have e := i64_and_nat (s * 2) 65535 (by omega) (by omega)
  rw [nat_mask16] at e
  rw [← e]
  simp
theorem ref_flip (s : Nat) (hs : s < 65536) : bits .xor .i64 (bits .and .i64 ((s : Int) * 2) 65535) 4129 = (((s * 2 % 65536) ^^^ 4129 : Nat) : Int) := by
  rw [ref_dbl s hs]
  exact i64_xor_nat (s * 2 % 65536) 4129 (by omega) (by omega)

set_option maxHeartbeats 800000 in
set_option maxRecDepth 100000 in
theorem sum16_any (A : Option Addr) (l : List UInt8) (c : Nat) (w : World) (ha : Rd w A (bvs l)) (hn : l.length ≤ 140737488351300) :
    Calls Try.prog 45 #[.slice A l.length c] w fun e w' => e = .returned (.int .i64 (crc l : Nat)) ∧ w = w' := by
  go_enter Try.func45, Try.ntmps45
  go_wp2_with fail
  go_loop [3, 4] (fun s i => ∃ k : Nat, k ≤ 8 * l.length ∧ i = .int .i64 k ∧ s = .int .i64 (refAt l k : Nat)) (fun _ i => 8 * l.length - (intOf i).toNat)
  case atStart => exact ⟨0, by omega, by simp, by simp [refAt, crcFrom, refN]⟩
  case round =>
    obtain ⟨k, hk, rfl, rfl⟩ := hrel
    by_cases h5 : k < 8 * l.length
    · have h8 : k / 8 < l.length := by omega
      obtain ⟨b, off, rfl, hc⟩ := ha.byte h8
      have Hs := Lib.hid (refAt_succ h8)
      have hlt := refAt_lt l k
      generalize l[k / 8] = x at *
      generalize refAt l k = s at *
      have hx256 := byte_lt x
      have e := ref_x x (7 - k % 8) s hlt
      by_cases h1 : ((x.toNat >>> (7 - k % 8)) &&& 1) ^^^ (s >>> 15) = 1
      · have Hr : Hid (refBit s ((x.toNat >>> (7 - k % 8)) &&& 1) = (s * 2 % 65536) ^^^ 4129) := by show _ = _; rw [refBit, if_pos h1]
        rw [h1] at e
        clear h1
        go_wp2
        go_round
        case rel => exact ⟨k + 1, by omega, by go_num, by rw [Hs.out, Hr.out, ref_flip s hlt]⟩
        case measure => simp [intOf]; omega
      · have Hr : Hid (refBit s ((x.toNat >>> (7 - k % 8)) &&& 1) = s * 2 % 65536) := by show _ = _; rw [refBit, if_neg h1]
        have hb : (((((x.toNat >>> (7 - k % 8)) &&& 1) ^^^ (s >>> 15) : Nat) : Int) == 1) = false := by
          rw [beq_eq_false_iff_ne]
          intro h
          exact h1 (by generalize ((x.toNat >>> (7 - k % 8)) &&& 1) ^^^ (s >>> 15) = q at *; omega)
        rw [← e] at hb
        clear h1 e
        go_wp2
        go_round
        case rel => exact ⟨k + 1, by omega, by go_num, by rw [Hs.out, Hr.out, ref_dbl s hlt]⟩
        case measure => simp [intOf]; omega
    · obtain rfl : k = 8 * l.length := by omega
      have Ha := Lib.hid (refAt_all l)
      go_wp2
      go_ret
      exact ⟨ret_int (by rw [Ha.out]), rfl⟩
end Go.Proofs.Ytppmdamcdhmcpaa
